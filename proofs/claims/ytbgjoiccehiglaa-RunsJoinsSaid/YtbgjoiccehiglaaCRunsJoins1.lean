/- Part 1 of what RunsJoins stands on: merged by a program of this session out of its texts. -/
import Derived.Shelf.Strings.Builder1
import Derived.Shelf.Strings.BuilderF
import Derived.Shelf.Strings.BuilderK
import Derived.Shelf.Bits.Mul64
import Derived.Test.YtbgjoiccehiglaaProg
import Derived.WalkKit
import Derived.RowKit3
import Derived.Below
import Derived.Deep.Draws
import Derived.Deep.AppendLies
import Derived.Maps.AppendAt
import Derived.OwnWalk
import Derived.Laws.BytesArg
import Derived.Laws.MakeOwn
import Derived.Laws.OwnMore
import Derived.Deep.OwnRows
import Derived.Tactics
import Derived.Lib.ConvBytes
import Derived.Laws.Slices
import Derived.KernelRfl
import Derived.Deep.LoopGhost
import Derived.Deep.QuietTactic
import Derived.BigQuiet
import Derived.WideLaws
import Derived.Deep.DeepCutAuto
import Derived.Deep.CutBlock
import Derived.Deep.RegionHeld3
import Derived.Laws.Rows
import Derived.Lib.AppendStr
import Derived.ArgAppend
import Derived.Laws.IdiomCopy
import Derived.OrdersHeld
import Derived.Laws.BitsLemmas
import Derived.RowKit
import Derived.Defers
import Derived.Recover
import Derived.WalkMore
import Derived.Laws.CopyOwn
import Derived.Deep.RegionLaw
import Derived.Maps.OwnSet
import Derived.Test.YtbgjoiccehiglaaCRunsJoins0
section
namespace Go.Proofs
open Go.Shelf
def Try.lays169_ren : Go.Shelf.Ren := ⟨fun | 169 => 91 | n => n, fun | 70 => 99 | 9 => 9 | 0 => 0 | 72 => 102 | 37 => 100 | 127 => 125 | 3 => 3 | 5 => 5 | n => n, fun | n => n⟩
theorem Try.lays169 : Go.Proofs.Lays.n169 Try.prog Try.lays169_ren := {
  mixed := by kernel_rfl
  f169 := Try.func91.trans (congrArg some (by kernel_rfl))
  t0 := Try.underlying0
  a0 := Try.isAgg0
  z0 := Try.sizeOf0
  v0 := Try.zeroValue0
  t3 := Try.underlying3
  a3 := Try.isAgg3
  z3 := Try.sizeOf3
  v3 := Try.zeroValue3
  t9 := Try.underlying9
  a9 := Try.isAgg9
  z9 := Try.sizeOf9
  v9 := Try.zeroValue9
  t37 := Try.underlying100
  a37 := Try.isAgg100
  z37 := Try.sizeOf100
  v37 := Try.zeroValue100
  t70 := Try.underlying99
  a70 := Try.isAgg99
  z70 := Try.sizeOf99
  v70 := Try.zeroValue99
  t72 := Try.underlying102
  a72 := Try.isAgg102
  z72 := Try.sizeOf102
  v72 := Try.zeroValue102
  t127 := Try.underlying125
  a127 := Try.isAgg125
  z127 := Try.sizeOf125
  v127 := Try.zeroValue125 }
theorem Try.Builder_Extra_169 : Builder.Extra Try.prog Try.lays169_ren := {
  sizeBuilder := by kernel_rfl
  liesBuilder := by kernel_rfl
  t5 := Try.underlying5
  a5 := Try.isAgg5
  z5 := Try.sizeOf5
  v5 := Try.zeroValue5
  infoByte := by kernel_rfl
  cellsByte := by kernel_rfl
  sizeByte := by kernel_rfl
  neB5 := by decide }
open Go.RowKit in
theorem Try.Builder_String_any_k (B b : Nat) (l : List UInt8) (w : World) (h : Lib.IsBuilderF 102 5 B b (Lib.byteCells l) w) (hBw : B ≤ w.heap.size) :
    Calls Try.prog 91 #[.pointer (some ⟨b, 0, none⟩)] w fun e w' => e = .returned (.string ⟨l.toArray⟩) ∧ (Lib.IsBuilderF 102 5 B b (Lib.byteCells l) w' ∧ Below B w w' ∧ Lib.OthersKept 5 (some b) w w') := Any.Builder_String_any_k Try.lays169 Try.Builder_Extra_169 B b l w h hBw
def Try.lays212_ren : Go.Shelf.Ren := ⟨fun | 212 => 102 | 263 => 106 | 264 => 107 | n => n, fun | 46 => 118 | 51 => 127 | 146 => 128 | 53 => 51 | 148 => 130 | n => n, fun | n => n⟩
theorem Try.lays212 : Go.Proofs.Lays.n212 Try.prog Try.lays212_ren := {
  mixed := by kernel_rfl
  f212 := Try.func102.trans (congrArg some (by kernel_rfl))
  f263 := Try.func106.trans (congrArg some (by kernel_rfl))
  f264 := Try.func107.trans (congrArg some (by kernel_rfl))
  t46 := Try.underlying118
  a46 := Try.isAgg118
  z46 := Try.sizeOf118
  v46 := Try.zeroValue118
  t51 := Try.underlying127
  a51 := Try.isAgg127
  z51 := Try.sizeOf127
  v51 := Try.zeroValue127
  t53 := Try.underlying51
  a53 := Try.isAgg51
  z53 := Try.sizeOf51
  v53 := Try.zeroValue51
  t146 := Try.underlying128
  a146 := Try.isAgg128
  z146 := Try.sizeOf128
  v146 := Try.zeroValue128
  t148 := Try.underlying130
  a148 := Try.isAgg130
  z148 := Try.sizeOf130
  v148 := Try.zeroValue130 }
open Go.RowKit Go.Lib in
theorem Try.bits_Mul (x y : Nat) (hx : x < 18446744073709551616) (hy : y < 18446744073709551616) (w : World) :
    Calls Try.prog 102 #[.int .u64 x, .int .u64 y] w fun e w' => e = .returned (.tuple #[.int .u64 ((x * y / 18446744073709551616 : Nat) : Int), .int .u64 ((x * y % 18446744073709551616 : Nat) : Int)]) ∧ w' = w := Any.bits_Mul Try.lays212 x y hx hy w
end Go.Proofs
end
section
namespace Go.Proofs.Ytbgjoiccehiglaa.Build
open Go.RowKit Go.Shelf
theorem size102 : (Try.prog.info? 102).map (·.size) = some 2 := by kernel_rfl
theorem lies102 : liesAt Try.prog Try.prog.depth 102 (2 / Try.prog.cellsOf 102) 0 102 1 = true := by kernel_rfl
theorem infoByte : (Try.prog.info? 5).map (fun i => (i.zero, i.size, i.bytes)) = some (some (.int .u8 0), 1, 1) := by kernel_rfl
set_option maxHeartbeats 1000000 in
set_option maxRecDepth 100000 in
theorem check_used (b : Nat) (w : World) (h0 : w.cell? ⟨b, 0, none⟩ = some (.pointer (some ⟨b, 0, none⟩))) :
    Calls Try.prog 103 #[.pointer (some ⟨b, 0, none⟩)] w fun e w' => e = .returned (.tuple #[]) ∧ w' = w := by
  obtain ⟨j, hj, _⟩ := Option.map_eq_some_iff.1 size102
  go_enter Try.func103, Try.ntmps103
  go_wp2
  rw [Lib.run_neq_ptr_same w _ Try.underlying99 hj]
  go_wp2
  go_end0
  exact ⟨rfl, rfl⟩
set_option maxHeartbeats 1000000 in
set_option maxRecDepth 100000 in
theorem check_fresh (b : Nat) (w : World) (h0 : w.cell? ⟨b, 0, none⟩ = some (.pointer none)) (hsh : w.shape? b = some (102, 2)) (hfz : w.frozen? ⟨b, 0, none⟩ = false) :
    Calls Try.prog 103 #[.pointer (some ⟨b, 0, none⟩)] w fun e w' => e = .returned (.tuple #[]) ∧ w' = w.setCell ⟨b, 0, none⟩ (.pointer (some ⟨b, 0, none⟩)) := by
  obtain ⟨j, hj, hjs⟩ := Option.map_eq_some_iff.1 size102
  go_enter Try.func103, Try.ntmps103
  go_wp2
  rw [Lib.run_to_unsafe w ⟨b, 0, none⟩ Try.underlying99 Try.underlying132 hj (by rw [hjs]; decide) hsh (Nat.zero_lt_succ 1)]
  simp only [Result.andThen]
  rw [Oper.upon_value]
  go_wp2
  rw [run_callFunc_extern Try.func108 (by kernel_rfl) (by kernel_rfl) (by kernel_rfl) (e := Extern.AbiNoEscape.same) (by kernel_rfl)]
  rw [Lib.run_noEscape]
  simp only [Result.andThen]
  rw [Oper.upon_value]
  go_wp2
  rw [Lib.run_from_unsafe w ⟨b, 0, none⟩ Try.underlying132 Try.underlying99 hj hsh lies102]
  simp only [Result.andThen]
  rw [Oper.upon_value]
  go_wp2
  go_end0
  exact ⟨rfl, rfl⟩
def Bld (B b : Nat) (s : ByteArray) (w : World) : Prop := Lib.IsBuilderF 102 5 B b (Lib.strCells s) w
theorem Bld.fresh (w : World) : Bld w.heap.size w.heap.size ByteArray.empty (w.alloc (.cells #[.pointer none, .slice none 0 0] 102)) := Lib.IsBuilderF.of (Lib.fresh_isBuilder 102 5 w)
theorem Bld.alloc {B b : Nat} {s : ByteArray} {w : World} (h : Bld B b s w) (o : Obj) : Bld B b s (w.alloc o) := Lib.IsBuilderF.alloc h o
theorem Bld.drewN {B b : Nat} {s : ByteArray} {w : World} (h : Bld B b s w) (n : Nat) : Bld B b s (w.drewN n) := h
theorem cells_app (s t : ByteArray) : Lib.strCells s ++ Lib.strCells t = Lib.strCells (s ++ t) := by simp [Lib.strCells]
theorem check (B b : Nat) (s : ByteArray) (w : World) (h : Bld B b s w) :
    Calls Try.prog 103 #[.pointer (some ⟨b, 0, none⟩)] w fun e w' => e = .returned (.tuple #[]) ∧ (Lib.BuilderAtF 102 5 B b (.pointer (some ⟨b, 0, none⟩)) (Lib.strCells s) w' ∧ Below B w w' ∧ Lib.OthersKept 5 (some b) w w') := by
  rcases h with h | h
  · refine (check_fresh b w h.cell0 h.shape h.frozen0).mono ?_
    rintro e w' ⟨rfl, rfl⟩
    exact ⟨rfl, h.used _, (Below.refl B w).setCell (p := ⟨b, 0, none⟩) h.1 _, (Lib.OthersKept.refl _ _ w).setCell ⟨b, 0, none⟩ rfl _⟩
  · refine (check_used b w h.cell0).mono ?_
    rintro e w' ⟨rfl, rfl⟩
    exact ⟨rfl, h, Below.refl B _, Lib.OthersKept.refl _ _ _⟩
set_option maxHeartbeats 2000000 in
set_option maxRecDepth 100000 in
theorem write (B b : Nat) (s t : ByteArray) (w : World) (h : Bld B b s w) (hlen : s.size + t.size ≤ 140737488355328) (hBw : B ≤ w.heap.size) :
    Calls Try.prog 90 #[.pointer (some ⟨b, 0, none⟩), .string t] w fun e w' => e = .returned (.tuple #[.int .i64 t.size, .nilIface]) ∧ Bld B b (s ++ t) w' ∧ Below B w w' ∧ Lib.OthersKept 5 (some b) w w' := by
  obtain ⟨i0, hi, hz0, hz1, hz2⟩ := info_parts infoByte
  have hsl := Lib.strCells_length s
  go_enter Try.func90, Try.ntmps90
  go_wp2_with (go_at_call 103; refine (check B b s _ h).mono ?_)
  rintro e w1 ⟨rfl, h1, hb1, hk1⟩
  obtain ⟨hB, v, hbk, hown, hne⟩ := h1
  have c0 : w1.cell? ⟨b, 0, none⟩ = some (.pointer (some ⟨b, 0, none⟩)) := by rw [Lib.cell_of_heap hbk]; rfl
  have c1 : w1.cell? ⟨b, 1, none⟩ = some v := by rw [Lib.cell_of_heap hbk]; rfl
  go_wp2_with (at_builtin; refine Lib.wpList_append_own_stringF _ rfl _ _ 100 9 rfl B 5 i0 Try.underlying100 Try.underlying9 hi hz0 hz1 hz2 _ _ _ rfl hown t rfl ?c3 ?c4 ?c5 ?_)
  case c3 => unfold maxLen; omega
  case c4 => omega
  case c5 => have := hb1.size; omega
  intro v' w2 hown' hgrow _
  have hlt : b < w1.heap.size := by
    rcases Nat.lt_or_ge b w1.heap.size with h' | h'
    · exact h'
    · simp [Array.getElem?_eq_none h'] at hbk
  have hb2 : w2.heap[b]? = some (.cells #[.pointer (some ⟨b, 0, none⟩), v] 102 (0, 0)) := by
    rw [hgrow.block b hlt (fun e => hne e.symm)]
    exact hbk
  have d0 : w2.cell? ⟨b, 0, none⟩ = some (.pointer (some ⟨b, 0, none⟩)) := by rw [Lib.cell_of_heap hb2]; rfl
  have d1 : w2.cell? ⟨b, 1, none⟩ = some v := by rw [Lib.cell_of_heap hb2]; rfl
  have f1 : w2.frozen? ⟨b, 1, none⟩ = false := Lib.frozen_of_heap hb2 1
  obtain ⟨ao, n', cap, rfl⟩ : ∃ ao n' cap, v' = .slice ao n' cap := by
    rcases hown'.2 with ⟨hv, _⟩ | ⟨g, cap, cur, fz, hv, _⟩
    · exact ⟨_, _, _, hv⟩
    · exact ⟨_, _, _, hv⟩
  go_wp2
  go_ret2
  refine ⟨rfl, .inr ?_, ?_, (hk1.grown hgrow (Lib.ownsRowF_kind hown)).setCell ⟨b, 1, none⟩ rfl _⟩
  · refine Lib.BuilderAtF.put (T := 102) (e := 5) hB hb2 (bs' := Lib.strCells (s ++ t)) ?_ (by decide)
    rw [← cells_app]
    simpa [Lib.strCells_length] using hown'
  · exact (hb1.grown hgrow (by have := hb1.size; omega) (fun k hk => (hown.lt k hk).1)).setCell (p := ⟨b, 1, none⟩) hB _
theorem string (B b : Nat) (s : ByteArray) (w : World) (h : Bld B b s w) (hBw : B ≤ w.heap.size) :
    Calls Try.prog 91 #[.pointer (some ⟨b, 0, none⟩)] w fun e w' => e = .returned (.string s) ∧ Below B w w' ∧ Lib.OthersKept 5 (some b) w w' :=
  (Try.Builder_String_any_k B b s.data.toList w h hBw).mono fun _ _ ⟨he, _, hb, hk⟩ => ⟨he, hb, hk⟩
theorem Bld.block {B b : Nat} {s : ByteArray} {w : World} (h : Bld B b s w) : ∃ cs, w.heap[b]? = some (.cells cs 102 (0, 0)) := by
  rcases h with ⟨_, v, hb, _⟩ | ⟨_, v, hb, _⟩ <;> exact ⟨_, hb⟩
theorem grown_of_below {w w' : World} (h : Below w.heap.size w w') : w.grownBy w' none := ⟨h.os, h.tape, h.output, h.size, fun k hk _ => h.block k hk⟩
theorem Bld.below {B b : Nat} {s : ByteArray} {w w' : World} (h : Bld B b s w) (hb : Below w.heap.size w w') : Bld B b s w' := by
  have go : ∀ {p : Value}, Lib.BuilderAtF 102 5 B b p (Lib.strCells s) w → Lib.BuilderAtF 102 5 B b p (Lib.strCells s) w' := fun {p} hh => by
    have hlt := hh.lt
    obtain ⟨hB, v, hv, hown, hne⟩ := hh
    exact ⟨hB, v, (hb.block b hlt).trans hv, hown.kept (grown_of_below hb) (by cases hv : v.ownBlock <;> simp), hne⟩
  exact h.elim (fun x => .inl (go x)) (fun x => .inr (go x))
theorem Bld.lt {B b : Nat} {s : ByteArray} {w : World} (h : Bld B b s w) : b < w.heap.size := h.elim (fun x => x.lt) (fun x => x.lt)
theorem block_kept {w w' : World} {b k : Nat} {cs c : Array Value} {t : TypeId} {fz f : Nat × Nat} (hk : Lib.OthersKept 5 (some b) w w') (hb : w.heap[b]? = some (.cells c 102 f)) (h : w.heap[k]? = some (.cells cs t fz)) (ht : t ≠ 5 ∧ t ≠ 102) : w'.heap[k]? = some (.cells cs t fz) := by
  refine hk k _ h (fun hh => ?_) (fun c' fz' hh => ?_)
  · obtain rfl := Option.some.inj hh
    rw [h] at hb
    simp only [Option.some.injEq, Obj.cells.injEq] at hb
    exact ht.2 hb.2.1
  · simp only [Obj.cells.injEq] at hh
    exact ht.1 hh.2.1
theorem R_kept {α : Type} {d : YtbgjoiccehiglaaW.PrintWords.Kd α} {e : Nat} {w w' : World} {base b : Nat} {ok : Nat → Prop} {v : Value} {xs : List α} (h : d.R e w base ok v xs) (hk : Lib.OthersKept 5 (some b) w w') (hb : ∃ cs, w.heap[b]? = some (.cells cs 102 (0, 0)))
    (hE : ∀ q ∈ e :: d.E, q ≠ 5 ∧ q ≠ 102) : d.R e w' base ok v xs := by
  refine YtbgjoiccehiglaaW.PrintWords.Kd.R_mono (YtbgjoiccehiglaaW.PrintWords.Kd.R_move (YtbgjoiccehiglaaW.PrintWords.Kd.R_bound h) (w1 := w') ?_) (fun k hk => hk.1)
  rintro k ⟨_, _, _, q, hq, cells, hc⟩
  have hn := hE q hq
  rw [hc]
  refine hk k _ hc (fun hh => ?_) (fun c fz hh => ?_)
  · obtain ⟨cs, hb⟩ := hb
    obtain rfl := Option.some.inj hh
    rw [hc] at hb
    simp only [Option.some.injEq, Obj.cells.injEq] at hb
    exact hn.2 hb.2.1
  · simp only [Obj.cells.injEq] at hh
    exact hn.1 hh.2.1
theorem make_event {P : Program} {ops : Array Oper} {rest : List Oper} {o : Oper} {a : Act} {Q : Exit → Act → World → Prop} {W : World} (hgd : o.guard = none) {D : Tmp} (_hd : o.dst = some D) {cs : Array Value} {t : TypeId} (n c : Nat)
    (hrun : (execOp a.eval o).run P W = .ok (.value (.slice (some ⟨W.heap.size, 0, none⟩) n c)) (W.alloc (.cells cs t (0, 0))))
    (h : ∀ g, g = W.heap.size → ∀ w1, w1.heap[g]? = some (.cells cs t (0, 0)) → Below W.heap.size W w1 → wpList P ops Q rest (a.put o.dst (.slice (some ⟨g, 0, none⟩) n c)) w1) : wpList P ops Q (o :: rest) a W :=
  YtbgjoiccehiglaaW.PrintWords.Kd.event_run hgd hrun (h _ rfl _ (YtbgjoiccehiglaaW.PrintWords.blk_new W _) (YtbgjoiccehiglaaW.PrintWords.below_alloc (Below.refl _ _) _))
end Go.Proofs.Ytbgjoiccehiglaa.Build
end
section
namespace Go.Proofs.Ytbgjoiccehiglaa.Print
open Go.RowKit Go.Proofs.YtbgjoiccehiglaaW.PrintWords Go.Proofs.YtbgjoiccehiglaaW.PrintLast Go.Proofs.YtbgjoiccehiglaaW.PrintMore
attribute [local go_sem] max2_int min2_int max_two min_two max_three min_three max_four min_four
set_option linter.unusedVariables false
set_option linter.unusedSimpArgs false
def errW : Option Int → Value
  | none => .nilIface
  | some c => .iface 0 (.int .i64 c)
theorem errW_none : errW none = .nilIface := rfl
theorem errW_some (c : Int) : errW (some c) = .iface 0 (.int .i64 c) := rfl
theorem info5 : (Try.prog.info? 5).map (fun i => (i.zero, i.size, i.bytes)) = some (some (.int .u8 0), 1, 1) := by kernel_rfl
theorem info51 : (Try.prog.info? 51).map (fun i => (i.zero, i.size, i.bytes)) = some (some (.int .u64 0), 1, 8) := by kernel_rfl
theorem info53 : (Try.prog.info? 53).map (fun i => (i.zero, i.size, i.bytes)) = some (some (.agg #[(.int .u64 0), (.int .i64 0)]), 2, 16) := by kernel_rfl
theorem info98 : (Try.prog.info? 98).map (fun i => (i.zero, i.size, i.bytes)) = some (some (.agg #[(.int .u64 0), (.int .i64 0)]), 2, 16) := by kernel_rfl
structure S53 where
  f0 : Int
  f1 : Int
def z53 : S53 := ⟨(0 : Int), (0 : Int)⟩
def k53 : Kd S53 := Kd.iso (Kd.pair (Kd.int .u64) (Kd.int .i64)) (fun x : S53 => (x.f0, x.f1))
theorem k53_open {w : World} {x : S53} {cs : List Value} (h : k53.K w x cs) : cs = [.int .u64 x.f0, .int .i64 x.f1] := by
  obtain ⟨_, _, rfl, rfl, rfl⟩ := h
  exact rfl
theorem k53_mkM (w : World) (base : Nat) (ok : Nat → Prop) (x : S53)  : k53.M w base ok x [.int .u64 x.f0, .int .i64 x.f1] := ⟨[.int .u64 x.f0], [.int .i64 x.f1], rfl, rfl, rfl⟩
def rd_T53 (xs : List S53) (i : Int) : S53 := xs.getD i.toNat z53
theorem at_T53 {w : World} {A : Option Addr} {n : Nat} {xs : List S53} (h : Kd.C k53 w A n xs) (i : Int) (h0 : 0 ≤ i) (h1 : i < n) : ∃ ad , A = some ad ∧ w.cell? (ad.add (i.toNat * 2)) = some (.int .u64 (rd_T53 xs i).f0) ∧ w.cell? ⟨(ad.add (i.toNat * 2)).block, (ad.add (i.toNat * 2)).off + 1, none⟩ = some (.int .i64 (rd_T53 xs i).f1) := by
  obtain ⟨ad, c, e, _, hK, hc0⟩ := Kd.C_get h z53 i h0 h1
  have hc : ∀ j u, c[j]? = some u → w.cell? (ad.add (i.toNat * 2 + j)) = some u := hc0
  obtain rfl := k53_open hK
  exact ⟨ad, e, hc 0 _ rfl, by rw [← add_field _ _ 1 (by omega)]; exact hc 1 _ rfl⟩
structure S98 where
  f0 : Int
  f1 : Int
def z98 : S98 := ⟨(0 : Int), (0 : Int)⟩
def k98 : Kd S98 := Kd.iso (Kd.pair (Kd.int .u64) (Kd.int .i64)) (fun x : S98 => (x.f0, x.f1))
theorem k98_open {w : World} {x : S98} {cs : List Value} (h : k98.K w x cs) : cs = [.int .u64 x.f0, .int .i64 x.f1] := by
  obtain ⟨_, _, rfl, rfl, rfl⟩ := h
  exact rfl
theorem k98_openM {w : World} {base : Nat} {ok : Nat → Prop} {x : S98} {cs : List Value} (h : k98.M w base ok x cs) : cs = [.int .u64 x.f0, .int .i64 x.f1] := by
  obtain ⟨_, _, rfl, rfl, rfl⟩ := h
  exact rfl
theorem k98_mkM (w : World) (base : Nat) (ok : Nat → Prop) (x : S98)  : k98.M w base ok x [.int .u64 x.f0, .int .i64 x.f1] := ⟨[.int .u64 x.f0], [.int .i64 x.f1], rfl, rfl, rfl⟩
def rd_T98 (xs : List S98) (i : Int) : S98 := xs.getD i.toNat z98
theorem at_T98 {w : World} {A : Option Addr} {n : Nat} {xs : List S98} (h : Kd.C k98 w A n xs) (i : Int) (h0 : 0 ≤ i) (h1 : i < n) : ∃ ad , A = some ad ∧ w.cell? (ad.add (i.toNat * 2)) = some (.int .u64 (rd_T98 xs i).f0) ∧ w.cell? ⟨(ad.add (i.toNat * 2)).block, (ad.add (i.toNat * 2)).off + 1, none⟩ = some (.int .i64 (rd_T98 xs i).f1) := by
  obtain ⟨ad, c, e, _, hK, hc0⟩ := Kd.C_get h z98 i h0 h1
  have hc : ∀ j u, c[j]? = some u → w.cell? (ad.add (i.toNat * 2 + j)) = some u := hc0
  obtain rfl := k98_open hK
  exact ⟨ad, e, hc 0 _ rfl, by rw [← add_field _ _ 1 (by omega)]; exact hc 1 _ rfl⟩
end Go.Proofs.Ytbgjoiccehiglaa.Print
end
section
namespace Go.Proofs.Ytbgjoiccehiglaa.Print
open Go.RowKit Go.Proofs.YtbgjoiccehiglaaW.PrintWords Go.Proofs.YtbgjoiccehiglaaW.PrintLast Go.Proofs.YtbgjoiccehiglaaW.PrintMore
attribute [local go_sem] max2_int min2_int max_two min_two max_three min_three max_four min_four
set_option linter.unusedVariables false
set_option linter.unusedSimpArgs false
theorem eqA53 (d : Nat) (w : World) (x0 y0 : Int) (x1 y1 : Int) :
    (Op.equalIn (d + 2) 53 (.agg #[.int .u64 x0, .int .i64 x1]) (.agg #[.int .u64 y0, .int .i64 y1])).run Try.prog w = .ok (x0 == y0 && (x1 == y1)) w := by
  refine eqA_of Try.underlying53 (by kernel_rfl) ?_
  refine eqf_cons (by rfl) (by go_simp; rfl) (by go_simp; rfl) (by go_simp) ?_
  exact eqf_last (by rfl) (by go_simp; rfl) (by go_simp; rfl) (by go_simp)
end Go.Proofs.Ytbgjoiccehiglaa.Print
end
section
namespace Go.Proofs.Ytbgjoiccehiglaa.Print
open Go.RowKit Go.Proofs.YtbgjoiccehiglaaW.PrintWords Go.Proofs.YtbgjoiccehiglaaW.PrintLast Go.Proofs.YtbgjoiccehiglaaW.PrintMore
attribute [local go_sem] max2_int min2_int max_two min_two max_three min_three max_four min_four
set_option linter.unusedVariables false
set_option linter.unusedSimpArgs false
def sgR (s : ByteArray) : Nat → Int → Int → Int → Bool
  | 0, _, _, _ => true
  | m + 1, i, lo, hi => if bt s i < lo then false else if bt s i > hi then false else sgR s m (i + 1) 128 191
def sgH (c : Int) : Int × Int × Int × Bool := if c < 128 then (0, 128, 191, true) else (if c < 194 then (0, 128, 191, false) else (if c < 224 then (1, 128, 191, true) else (if c < 240 then (if c = 224 then (2, 160, 191, true) else (if c = 237 then (2, 128, 159, true) else (2, 128, 191, true))) else (if c < 245 then (if c = 240 then (3, 144, 191, true) else (if c = 244 then (3, 128, 143, true) else (3, 128, 191, true))) else (0, 128, 191, false)))))
theorem sgH_rest (c : Int) : 0 ≤ (sgH c).1 ∧ (sgH c).1 ≤ 3 := by
  unfold sgH
  repeat' split
  all_goals simp
def pack_Put.l0 : Nat → Int → List Int → Option (ByteArray)
  | 0, _, _ => none
  | k + 1, x0, x3 => if x0 ≥ 128 then (if x3.length < 140737488355328 then (pack_Put.l0 k (x0 / 128) (x3 ++ [Go.bits .or .u8 ((x0) % 256) 128])) else (none)) else (if x3.length < 140737488355328 then (some (strOfNums (x3 ++ [(x0) % 256]))) else (none))
def pack_Put.f (k : Nat) (a0 : Int) : Option (ByteArray) := pack_Put.l0 k a0 ([] : List Int)
theorem pack_Put.mono_l : ∀ k, (∀ y0 y1, LeO (pack_Put.l0 k y0 y1) (pack_Put.l0 (k + 1) y0 y1))
  | 0 => fun _ _ r h => by simp [pack_Put.l0] at h
  | k + 1 => by
    have ih0 := pack_Put.mono_l k
    · intro y0 y1
      unfold pack_Put.l0
      repeat' first
      | (with_reducible exact ih0 _ _)
      | (with_reducible exact LeO.refl _)
      | (with_reducible exact LeO.none _)
      | (with_reducible refine LeO.ite ?_ ?_)
      | (with_reducible refine LeO.bind ?_ (fun _ => ?_))
      | exact ih0 _ _
      | exact LeO.none _
      | refine LeO.ite ?_ ?_
      | refine LeO.bind ?_ (fun _ => ?_)
theorem pack_Put.mono : ∀ a0 k, LeO (pack_Put.f k a0) (pack_Put.f (k + 1) a0) := by
  intro a0 k
  have ih0 := pack_Put.mono_l k
  unfold pack_Put.f
  repeat' first
      | (with_reducible exact ih0 _ _)
      | (with_reducible exact LeO.refl _)
      | (with_reducible exact LeO.none _)
      | (with_reducible refine LeO.ite ?_ ?_)
      | (with_reducible refine LeO.bind ?_ (fun _ => ?_))
      | exact ih0 _ _
      | exact LeO.none _
      | refine LeO.ite ?_ ?_
      | refine LeO.bind ?_ (fun _ => ?_)
set_option maxHeartbeats 8000000 in
set_option maxRecDepth 100000 in
theorem pack_Put.calls (k : Nat) (a0 : Int) (r : ByteArray) (w : World) (h : pack_Put.f k a0 = some r) :
    Calls Try.prog 78 #[.int .u64 a0] w fun e w' => e = .returned (.string r) ∧ Below w.heap.size w w' := by
  have HB := Aside0.mk (Below.refl w.heap.size w)
  have H : (pack_Put.l0 k a0 ([] : List Int)) = some r := h
  clear h
  have H' := Aside0.mk H
  clear H
  go_enter Try.func78, Try.ntmps78
  go_wp2
  go_loopg [0, 3] k (fun kq v0 v3 w' => ∃ (x0_1 : Int) (x3_1 : List Int), v0 = .int .u64 x0_1 ∧ Aside0 (pack_Put.l0 kq x0_1 x3_1 = some r) ∧ Aside0 (kq ≤ k) ∧ Aside0 (Kd.R (Kd.int .u8) 5 w' w.heap.size (fun _ => True) v3 x3_1) ∧ Aside0 (Below w.heap.size w w'))
  case atStart => exact ⟨(a0), (([] : List Int)), (by first | rfl | (simp; done) | (simp [*]; done)), H', ⟨Nat.le_refl _⟩, ⟨by first | exact Kd.R_nil _ _ _ _ _ | exact Kd.N_nil _ _ _ _ _ | exact Kd.V_nil _ _ _ _ _ | exact Kd.Q_nil _ _ _ _ _ | exact Kd.S_nil _ _ _ _ _⟩, ⟨by repeat (first | (with_reducible first | exact HB.out | apply below_alloc | apply pw_below_drewN | apply below_drew1) | exact HB.out)⟩⟩
  case round =>
    clear H'
    obtain ⟨x0_1, x3_1, rfl, HA, HK1, HO_3, HB⟩ := hrel
    cases gk with
    | zero => exact absurd HA.out (by simp [pack_Put.l0])
    | succ k1 =>
      have H := HA.out
      clear HA
      simp only [pack_Put.l0] at H
      by_cases c2 : x0_1 ≥ 128
      · rw [if_pos c2] at H
        have c2b0 : decide (128 ≤ x0_1) = true := decide_eq_true c2
        clear c2
        by_cases c3 : x3_1.length < 140737488355328
        · rw [if_pos c3] at H
          have LMc3 := Aside0.mk c3
          clear c3
          obtain ⟨y107, hy107⟩ : ∃ y_ : List Int, y_ = (x3_1 ++ [Go.bits .or .u8 ((x0_1) % 256) 128]) := ⟨_, rfl⟩
          replace H : (pack_Put.l0 k1 (x0_1 / 128) y107) = some r := by first | (rw [hy107]; with_reducible exact H) | (have H2_ := (Option.bind_some _ _).symm.trans H; rw [hy107]; with_reducible exact H2_) | (have H2_ := (Option.bind_some _ _).symm.trans H; with_reducible exact H2_) | with_reducible exact H | (rw [hy107]; exact H) | exact H
          have Ny107 := Aside0.mk hy107
          clear hy107
          have H' := Aside0.mk H
          clear H
          go_wp2_with (first | ((with_reducible refine gate_builtin (b := .append) (xs := #[.tmp 6, .tmp 10]) rfl ?_); at_builtin; refine Kd.R_append (Kd.int .u8) (w0 := w) w.heap.size rfl (.tmp 6) (.tmp 10) 100 5 (.int .u8 0) 1 rfl Try.underlying100 info5 rfl (by decide) (by omega) u3 x3_1 (Go.bits .or .u8 ((x0_1) % 256) 128) [.int .u8 (Go.bits .or .u8 ((x0_1) % 256) 128)] (fun _ => True) (fun _ => False) rfl rfl ?aP (fun _ hk => hk.elim) ?aF ?aO ?aB ?aS ?aL ?_; (case aP => exact rfl); (case aB => exact (by repeat (first | (with_reducible first | exact HB.out | apply below_alloc | apply pw_below_drewN | apply below_drew1) | exact HB.out))); (case aF => exact (fun _ _ => trivial)); (case aO => exact (by (with_reducible repeat (first | apply Kd.R_alloc | apply Kd.R_drewN | apply Kd.R_drew)); exact HO_3.out)); (case aS => exact (below_size (by repeat (first | (with_reducible first | exact HB.out | apply below_alloc | apply pw_below_drewN | apply below_drew1) | exact HB.out)))); (case aL => have := LMc3.out; omega); intro v108 w4 ho hb hg hat; rw [← Ny107.out] at ho; have n0_ := Aside0.mk (hb); have n1_ := Aside0.mk (ho); clear HB; clear HO_3; have HB := n0_; have HO109 := n1_; clear n0_ n1_; clear ho hb hg hat))
          go_roundg k1
          case measure => have := HK1.out; omega
          case rel => exact ⟨(x0_1 / 128), (y107), (by first | rfl | (simp; done) | (simp [*]; done)), H', ⟨by have := HK1.out; omega⟩, ⟨by (with_reducible repeat (first | apply Kd.R_alloc | apply Kd.R_drewN | apply Kd.R_drew)); exact HO109.out⟩, ⟨by repeat (first | (with_reducible first | exact HB.out | apply below_alloc | apply pw_below_drewN | apply below_drew1) | exact HB.out)⟩⟩
        · rw [if_neg c3] at H
          exact absurd H (by simp)
      · rw [if_neg c2] at H
        have c2b0 : decide (128 ≤ x0_1) = false := decide_eq_false c2
        clear c2
        by_cases c5 : x3_1.length < 140737488355328
        · rw [if_pos c5] at H
          have LMc5 := Aside0.mk c5
          clear c5
          obtain ⟨y110, hy110⟩ : ∃ y_ : List Int, y_ = (x3_1 ++ [(x0_1) % 256]) := ⟨_, rfl⟩
          replace H : (some (strOfNums y110)) = some r := by first | (rw [hy110]; with_reducible exact H) | (have H2_ := (Option.bind_some _ _).symm.trans H; rw [hy110]; with_reducible exact H2_) | (have H2_ := (Option.bind_some _ _).symm.trans H; with_reducible exact H2_) | with_reducible exact H | (rw [hy110]; exact H) | exact H
          have Ny110 := Aside0.mk hy110
          clear hy110
          obtain rfl := Option.some.inj H
          go_wp2_with (first | ((with_reducible refine gate_builtin (b := .append) (xs := #[.tmp 14, .tmp 17]) rfl ?_); at_builtin; refine Kd.R_append (Kd.int .u8) (w0 := w) w.heap.size rfl (.tmp 14) (.tmp 17) 100 5 (.int .u8 0) 1 rfl Try.underlying100 info5 rfl (by decide) (by omega) u3 x3_1 ((x0_1) % 256) [.int .u8 ((x0_1) % 256)] (fun _ => True) (fun _ => False) rfl rfl ?aP (fun _ hk => hk.elim) ?aF ?aO ?aB ?aS ?aL ?_; (case aP => exact rfl); (case aB => exact (by repeat (first | (with_reducible first | exact HB.out | apply below_alloc | apply pw_below_drewN | apply below_drew1) | exact HB.out))); (case aF => exact (fun _ _ => trivial)); (case aO => exact (by (with_reducible repeat (first | apply Kd.R_alloc | apply Kd.R_drewN | apply Kd.R_drew)); exact HO_3.out)); (case aS => exact (below_size (by repeat (first | (with_reducible first | exact HB.out | apply below_alloc | apply pw_below_drewN | apply below_drew1) | exact HB.out)))); (case aL => have := LMc5.out; omega); intro v111 w6 ho hb hg hat; rw [← Ny110.out] at ho; have n0_ := Aside0.mk (hb); have n1_ := Aside0.mk (ho); clear HB; clear HO_3; have HB := n0_; have HO112 := n1_; clear n0_ n1_; clear ho hb hg hat; have hcv7 := own_string (P := Try.prog) Try.underlying100 Try.underlying5 Try.underlying9 (Kd.own_of_R HO112.out)))
          go_ret
          exact ⟨by first | rfl | (simp [errW_none, errW_some] <;> rfl) | (simp [*, errW_none, errW_some] <;> rfl), by repeat (first | (with_reducible first | exact HB.out | apply below_alloc | apply pw_below_drewN | apply below_drew1) | exact HB.out)⟩
        · rw [if_neg c5] at H
          exact absurd H (by simp)
def IsS120 (w0 W : World) (g : Nat) (f0 : ByteArray) (f1 : Int) : Prop := W.heap[g]? = some (.cells #[.string f0, .int .i64 f1] 120 (0, 0)) ∧ w0.heap.size ≤ g
theorem IsS120.grown {w0 W : World} {g : Nat} {f0 : ByteArray} {f1 : Int} {W1 : World} {row : Option Nat} (h : IsS120 w0 W g f0 f1) (hw : W.grownBy W1 row) (hne : some g ≠ row) : IsS120 w0 W1 g f0 f1 := by
  obtain ⟨hb, hg⟩ := h
  exact ⟨blk_grown hb hw hne, hg⟩
theorem IsS120.fresh {w0 W : World} {g : Nat} {f0 : ByteArray} {f1 : Int} (h : IsS120 w0 W g f0 f1) : ∀ k, W.heap.size ≤ k → k ≠ g := by
  obtain ⟨hb, hg⟩ := h
  exact Kd.freshB hb
theorem IsS120.kept {w0 W : World} {g : Nat} {f0 : ByteArray} {f1 : Int} {W1 : World} {S : Nat → Prop} (h : IsS120 w0 W g f0 f1) (hk : Kept W W1 S) (hne : ¬ S g) : IsS120 w0 W1 g f0 f1 := by
  obtain ⟨hb, hg⟩ := h
  exact ⟨blk_kept hb hk hne, hg⟩
theorem IsS120.below {w0 W : World} {g : Nat} {f0 : ByteArray} {f1 : Int} {W1 : World} (h : IsS120 w0 W g f0 f1) (hw : Below W.heap.size W W1) : IsS120 w0 W1 g f0 f1 := h.grown (grown_of_below hw none) (by simp)
theorem IsS120.alloc {w0 W : World} {g : Nat} {f0 : ByteArray} {f1 : Int} (h : IsS120 w0 W g f0 f1) (o : Obj) : IsS120 w0 (W.alloc o) g f0 f1 := h.below (below_alloc (Below.refl _ _) o)
theorem IsS120.drewN {w0 W : World} {g : Nat} {f0 : ByteArray} {f1 : Int} (h : IsS120 w0 W g f0 f1) (m : Nat) : IsS120 w0 (W.drewN m) g f0 f1 := h
theorem IsS120.drew {w0 W : World} {g : Nat} {f0 : ByteArray} {f1 : Int} (h : IsS120 w0 W g f0 f1) : IsS120 w0 W.drew g f0 f1 := h
theorem IsS120.at_ {w0 W : World} {g : Nat} {f0 : ByteArray} {f1 : Int} {w' : World} {m : Nat} (hq : W.drewN m = w') (h : IsS120 w0 W g f0 f1) : IsS120 w0 w' g f0 f1 := by subst hq; exact IsS120.drewN h m
theorem IsS120.apart {w0 W : World} {g : Nat} {f0 : ByteArray} {f1 : Int} {α : Type} {d : Kd α} {e : Nat} {base : Nat} {ok : Nat → Prop} {v : Value} {xs : List α} (h : IsS120 w0 W g f0 f1) (ho : d.R e W base ok v xs) (ht : ∀ q, q ∈ e :: d.E → q ≠ 120) : d.R e W base (fun k => ok k ∧ k ≠ g) v xs := by
  obtain ⟨hb, hg⟩ := h
  exact Kd.R_types ho hb ht
theorem IsS120.own_ne {w0 W : World} {g : Nat} {f0 : ByteArray} {f1 : Int} {α : Type} {d : Kd α} {e : Nat} {base : Nat} {ok : Nat → Prop} {v : Value} {xs : List α} (h : IsS120 w0 W g f0 f1) (ho : d.R e W base ok v xs) (ht : e ≠ 120) : some g ≠ v.ownBlock := by
  obtain ⟨hb, hg⟩ := h
  exact Kd.R_ne ho hb ht
theorem IsS120.lt {w0 W : World} {g : Nat} {f0 : ByteArray} {f1 : Int} (h : IsS120 w0 W g f0 f1) : g < W.heap.size := by
  obtain ⟨hb, hg⟩ := h
  exact blk_lt hb
theorem IsS120.ge {w0 W : World} {g : Nat} {f0 : ByteArray} {f1 : Int} (h : IsS120 w0 W g f0 f1) : w0.heap.size ≤ g := by
  obtain ⟨hb, hg⟩ := h
  exact hg
theorem cellS120_0 {W : World} {g : Nat} {f0 : ByteArray} {f1 : Int} (h : W.heap[g]? = some (.cells #[.string f0, .int .i64 f1] 120 (0, 0))) : W.cell? ⟨g, 0, none⟩ = some (.string f0) := (blk_cell h 0).trans rfl
theorem IsS120.set_0 {w0 W : World} {g : Nat} {f0 : ByteArray} {f1 : Int} (h : IsS120 w0 W g f0 f1) (x : ByteArray) : IsS120 w0 (W.setCell ⟨g, 0, none⟩ (.string x)) g x f1 := by
  obtain ⟨hb, hg⟩ := h
  exact ⟨by simpa using blk_set hb 0 (.string x), hg⟩
theorem cellS120_1 {W : World} {g : Nat} {f0 : ByteArray} {f1 : Int} (h : W.heap[g]? = some (.cells #[.string f0, .int .i64 f1] 120 (0, 0))) : W.cell? ⟨g, 1, none⟩ = some (.int .i64 f1) := (blk_cell h 1).trans rfl
theorem IsS120.set_1 {w0 W : World} {g : Nat} {f0 : ByteArray} {f1 : Int} (h : IsS120 w0 W g f0 f1) (x : Int) : IsS120 w0 (W.setCell ⟨g, 1, none⟩ (.int .i64 x)) g f0 x := by
  obtain ⟨hb, hg⟩ := h
  exact ⟨by simpa using blk_set hb 1 (.int .i64 x), hg⟩
def pack_New.f (a0 : ByteArray) : Option (ByteArray × Int) := some (a0, 0)
set_option maxHeartbeats 8000000 in
set_option maxRecDepth 100000 in
theorem pack_New.calls (a0 : ByteArray) (r1 : ByteArray) (r2 : Int) (w0 w : World) (hB : Below w0.heap.size w0 w) (h : pack_New.f a0 = some (r1, r2)) :
    Calls Try.prog 80 #[.string a0] w fun e w' => ∃ g_ : Nat, e = .returned (.pointer (some ⟨g_, 0, none⟩)) ∧ IsS120 w0 w' g_ r1 r2 ∧ Below w0.heap.size w0 w' ∧ Below w.heap.size w w' := by
  have hu120 := Try.underlying120
  have HBW := Aside0.mk (Below.refl w.heap.size w)
  have HW0 := Aside0.mk hB.size
  have HB := Aside0.mk hB
  clear hB
  have H : (some (a0, 0)) = some (r1, r2) := h
  clear h
  simp only [Option.some.injEq, Prod.mk.injEq] at H
  obtain ⟨rfl, rfl⟩ := H
  go_enter Try.func80, Try.ntmps80
  go_wp2_with (first | ((with_reducible refine gate_dst (N := 5) rfl ?_); refine box_event ?hg (N := 5) ?hd (cs := #[.string a0, .int .i64 0]) (t := 120) ?hr ?_; (case hd => rfl); (case hg => rfl); (case hr => first | (go_simp; done) | (go_simp; rfl)); intro gb114 hg w2 hbox hb; have n0_ := Aside0.mk (below_step HBW.out hb); have n1_ := Aside0.mk (below_step (by repeat (first | (with_reducible first | exact HB.out | apply below_alloc | apply pw_below_drewN | apply below_drew1) | exact HB.out)) hb); have n2_ := Aside0.mk (hbox); have n3_ := Aside0.mk ((by rw [hg]; exact (below_size (by repeat (first | (with_reducible first | exact HBW.out | apply below_alloc | apply pw_below_drewN | apply below_drew1) | exact HBW.out))) : w.heap.size ≤ gb114)); have n4_ := Aside0.mk ((Nat.le_trans HW0.out (by rw [hg]; exact (below_size (by repeat (first | (with_reducible first | exact HBW.out | apply below_alloc | apply pw_below_drewN | apply below_drew1) | exact HBW.out))) : w.heap.size ≤ gb114) : w0.heap.size ≤ gb114)); clear HBW; clear HB; have HBW := n0_; have HB := n1_; have BK114 := n2_; have GW114 := n3_; have GE114 := n4_; clear n0_ n1_ n2_ n3_ n4_; clear hb hbox hg))
  go_ret
  exact ⟨_, rfl, (show IsS120 w0 _ gb114 a0 0 from ⟨by (with_reducible repeat (first | refine blk_drewN ?_ _ | refine blk_drew ?_ | refine blk_alloc ?_ _)); exact BK114.out, GE114.out⟩), by repeat (first | (with_reducible first | exact HB.out | apply below_alloc | apply pw_below_drewN | apply below_drew1 | refine below_set ?_ GE114.out) | exact HB.out), by repeat (first | (with_reducible first | exact HBW.out | apply below_alloc | apply pw_below_drewN | apply below_drew1 | refine below_set ?_ GW114.out) | exact HBW.out)⟩
end Go.Proofs.Ytbgjoiccehiglaa.Print
end
section
namespace Go.Proofs.Ytbgjoiccehiglaa.Print
open Go.RowKit Go.Proofs.YtbgjoiccehiglaaW.PrintWords Go.Proofs.YtbgjoiccehiglaaW.PrintLast Go.Proofs.YtbgjoiccehiglaaW.PrintMore
attribute [local go_sem] max2_int min2_int max_two min_two max_three min_three max_four min_four
set_option linter.unusedVariables false
set_option linter.unusedSimpArgs false
theorem must_ok (c : Int) (w : World) : Calls Try.prog 100 #[.bool true, .int .i64 c] w fun e w' => e = .returned (.tuple #[]) ∧ w' = w := by
  go_enter Try.func100, Try.ntmps100
  go_wp2
  go_end0
  exact ⟨rfl, rfl⟩
set_option maxRecDepth 100000 in
theorem must_no (c : Int) (w : World) : Calls Try.prog 100 #[.bool false, .int .i64 c] w fun e w' => e = .panicked [{ v := .iface 126 (.int .i64 c), recovered := false }] ∧ w' = w := by
  go_enter Try.func100, Try.ntmps100
  go_wp2
  exact ⟨rfl, rfl, rfl⟩
theorem catch_idle (p : Addr) (w : World) :
    CallsD Try.prog 105 #[.pointer (some p)] .returning w fun e u' w' => e = .returned (.tuple #[]) ∧ u' = .returning ∧ w' = w := by
  refine callsD_of_wpS Try.func105 rfl fun c₀ cs hu => ?_
  apply wpS_seq
  apply wpS_region
  simp [wpOpsS, go_sem, recoverD, hu, Try.ntmps105, Exit.thenS]
  apply wpS_seq
  apply wpS_region
  simp [wpOpsS, go_sem, Exit.thenS]
  refine wpS_cond (t := false) (by simp [Act.eval, Array.replicate]) ?_
  simp only [Bool.false_eq_true, if_false]
  refine wpS_of_wp (wp_skip ?_)
  cases c₀
  simp_all [bodyPostS, results, Try.results105]
set_option maxRecDepth 100000 in
theorem catch_panics (p : Addr) (g : Nat) (c : Int) (s : ByteArray) (older : List PanicEntry) (w : World) (hp : w.cell? p = some (.pointer (some ⟨g, 0, none⟩)))
    (hI : w.heap[g]? = some (.cells #[.string s, .int .i64 0] 120 (0, 0))) (hne : p.block ≠ g) :
    CallsD Try.prog 105 #[.pointer (some p)] (.panicking ({ v := .iface 126 (.int .i64 c), recovered := false } :: older)) w fun e u' w' => e = .returned (.tuple #[]) ∧ u' = .panicking ({ v := .iface 126 (.int .i64 c), recovered := true } :: older) ∧ ∃ n, w' = (w.drewN n).setCell ⟨g, 1, none⟩ (.int .i64 c) := by
  refine callsD_of_wpS Try.func105 rfl fun c₀ cs hu => ?_
  apply wpS_seq
  apply wpS_region
  simp [wpOpsS, go_sem, recoverD, hu, Try.ntmps105, Exit.thenS]
  apply wpS_seq
  apply wpS_region
  simp [wpOpsS, go_sem, Exit.thenS]
  refine wpS_cond (t := true) (by simp [Act.eval, Array.replicate]) ?_
  simp only [if_true]
  refine wpS_of_wp ?_
  have h1 := cellS120_1 hI
  have h2 := blk_frozen hI 1
  have hta : ∀ (v : Value) (W : World), (Instr.typeAssert (.iface 126 v) 20 126 false).run Try.prog W = .ok v W := fun v W => by rfl
  clear hI
  have hk : ∀ v, ((w.setCell ⟨g, 1, none⟩ v).drew).cell? p = some (.pointer (some ⟨g, 0, none⟩)) := by
    intro v
    have hne' : (⟨g, 1, none⟩ : Addr) ≠ p := by rintro rfl; exact hne rfl
    simp [World.cell?_setCell_other _ _ _ _ hne', hp]
  go_region_held3 (fun W => W.cell? p = some (.pointer (some ⟨g, 0, none⟩))) (first | go_keep | exact hk _) (first | fail)
  cases c₀
  simp_all [bodyPostS, results, Try.results105]
  exact ⟨1, rfl⟩
set_option maxHeartbeats 8000000 in
set_option maxRecDepth 100000 in
theorem read_ret (g : Nat) (s s' : ByteArray) (c : Nat) (caps : Array Value) (w : World) (R : World → Prop)
    (hI : w.heap[g]? = some (.cells #[.string s, .int .i64 0] 120 (0, 0)))
    (hc : ∀ n, Calls Try.prog c (#[.string s] ++ caps) ((w.alloc (.cells #[.pointer (some ⟨g, 0, none⟩)] 85)).drewN n) fun e w' => e = .returned (.string s') ∧ R w')
    (hcf : ∀ W, (callFunc c (#[.string s] ++ caps)).run Try.prog W = .ok (.enter c (#[.string s] ++ caps)) W)
    (hR : ∀ w', R w' → w'.heap[g]? = some (.cells #[.string s, .int .i64 0] 120 (0, 0)) ∧ w'.heap[w.heap.size]? = some (.cells #[.pointer (some ⟨g, 0, none⟩)] 85 (0, 0))) :
    Calls Try.prog 98 #[.pointer (some ⟨g, 0, none⟩), .func (.func c) #[] caps] w fun e w' => e = .returned (.tuple #[]) ∧ ∃ w1, R w1 ∧ w' = w1.setCell ⟨g, 0, none⟩ (.string s') := by
  have hmf : ∀ (fn : Fn) (first cap : Array Value) (w : World), (Instr.makeFunc fn first cap).run Try.prog w = .ok (.func fn first cap) w := fun _ _ _ _ => rfl
  have HI := blk_alloc hI (.cells #[.pointer (some ⟨g, 0, none⟩)] 85)
  have HG := Aside0.mk (blk_lt hI)
  have h0 := cellS120_0 HI
  have h1 := cellS120_1 HI
  have HH := Aside0.mk HI
  clear HI hI
  have HC := Aside0.mk hc
  have HR := Aside0.mk hR
  clear hc hR
  go_enter_defers Try.func98, Try.ntmps98
  go_wp2_with fail
  refine wp_region_noPanic ?_
  refine wp_region_held_drew (S := fun W => W.cell? ⟨w.heap.size, 0, none⟩ = some (.pointer (some ⟨g, 0, none⟩))) (by kernel_rfl) (by go_simp) (fun hHeld => ?_)
  refine wpAnyH_take (i := 0) (v := .pointer (some ⟨g, 0, none⟩)) rfl (by kernel_rfl) (by kernel_rfl) (by kernel_rfl) (fun _ _ _ h => h) (Or.inl ⟨by rfl, fun W hS => by (try dsimp only at hS); go_simp⟩) hHeld ?_
  simp only [Act.put, List.setIfInBounds_toArray, List.set_cons_zero, List.set_cons_succ]
  refine wpAnyH_take (i := 1) (v := .func (.func c) #[] caps) rfl (by kernel_rfl) (by kernel_rfl) (by kernel_rfl) (fun _ _ _ h => h) (Or.inl ⟨by rfl, fun W hS => by go_simp⟩) hHeld ?_
  simp only [Act.put, List.setIfInBounds_toArray, List.set_cons_zero, List.set_cons_succ]
  refine wpAnyH_take (i := 2) (v := .pointer (some ⟨g, 0, none⟩)) rfl (by kernel_rfl) (by kernel_rfl) (by kernel_rfl) (fun _ _ _ h => h) (Or.inl ⟨by rfl, fun W hS => by (try dsimp only at hS); go_simp⟩) hHeld ?_
  simp only [Act.put, List.setIfInBounds_toArray, List.set_cons_zero, List.set_cons_succ]
  refine wpAnyH_take (i := 3) (v := .pointer (some ⟨g, 0, none⟩)) rfl (by kernel_rfl) (by kernel_rfl) (by kernel_rfl) (fun _ _ _ h => h) (Or.inl ⟨by rfl, fun W hS => by go_simp⟩) hHeld ?_
  simp only [Act.put, List.setIfInBounds_toArray, List.set_cons_zero, List.set_cons_succ]
  refine wpAnyH_take (i := 4) (v := .pointer (some ⟨g, 0, none⟩)) rfl (by kernel_rfl) (by kernel_rfl) (by kernel_rfl) (fun _ _ _ h => h) (Or.inl ⟨by rfl, fun W hS => by go_simp⟩) hHeld ?_
  simp only [Act.put, List.setIfInBounds_toArray, List.set_cons_zero, List.set_cons_succ]
  refine wpAnyH_ready (rs := [5]) (by kernel_rfl) (by simp) (AllReadyH.cons rfl (fun K hK => ?_) AllReadyH.nil)
  go_simp
  refine hK.out _ _ hHeld (fun hHeld => ?_)
  clear hK K
  (try simp only [Act.put, List.setIfInBounds_toArray, List.set_cons_zero, List.set_cons_succ])
  refine wpAnyH_ready (rs := [6]) (by kernel_rfl) (by simp) (AllReadyH.cons rfl (fun K hK => ?_) AllReadyH.nil)
  go_simp
  refine Calls.mono (HC.out 1) ?_
  rintro e w' ⟨rfl, hq⟩
  have hz := HR.out _ hq
  have hbox : w'.cell? ⟨w.heap.size, 0, none⟩ = some (.pointer (some ⟨g, 0, none⟩)) := (blk_cell hz.2 0).trans rfl
  have hg0 := cellS120_0 hz.1
  have hgf := blk_frozen hz.1 0
  have hbox2 : ∀ v, (w'.setCell ⟨g, 0, none⟩ v).cell? ⟨w.heap.size, 0, none⟩ = some (.pointer (some ⟨g, 0, none⟩)) := fun v => by
    have hne : (⟨g, 0, none⟩ : Addr) ≠ ⟨w.heap.size, 0, none⟩ := by
      intro h
      injection h with h
      have := HG.out
      omega
    rw [World.cell?_setCell_other _ _ _ _ hne]
    exact hbox
  refine hK.out _ _ hbox (fun hHeld => ?_)
  clear hK K
  (try simp only [Act.put, List.setIfInBounds_toArray, List.set_cons_zero, List.set_cons_succ])
  refine wpAnyH_take (i := 7) (v := .pointer (some ⟨g, 0, none⟩)) rfl (by kernel_rfl) (by kernel_rfl) (by kernel_rfl) (fun _ _ _ h => h) (Or.inl ⟨by rfl, fun W hS => by go_simp⟩) hHeld ?_
  simp only [Act.put, List.setIfInBounds_toArray, List.set_cons_zero, List.set_cons_succ]
  refine wpAnyH_take (i := 8) (v := .pointer (some ⟨g, 0, none⟩)) rfl (by kernel_rfl) (by kernel_rfl) (by kernel_rfl) (fun _ _ _ h => h) (Or.inl ⟨by rfl, fun W hS => by go_simp⟩) hHeld ?_
  simp only [Act.put, List.setIfInBounds_toArray, List.set_cons_zero, List.set_cons_succ]
  refine wpAnyH_ready (rs := [9]) (by kernel_rfl) (by simp) (AllReadyH.cons rfl (fun K hK => ?_) AllReadyH.nil)
  go_simp
  refine hK.out _ _ (hbox2 _) (fun hHeld => ?_)
  clear hK K
  refine wpAnyH_done (by kernel_rfl) ?_ _
  all_goals
    refine NoPanic.normal ?_
    refine leaves_cons (f := 105) (args := #[.pointer (some ⟨w.heap.size, 0, none⟩)]) (by simp) (by simp [go_sem]) ?_
    refine (catch_idle ⟨w.heap.size, 0, none⟩ _).mono ?_
    rintro e u' w'' ⟨rfl, rfl, rfl⟩
    simp [Leaves, settle, results, Try.results98, go_sem]
    exact ⟨w', hq, rfl⟩
def PanicR (D : List Deferred) (R : List PanicEntry → World → Prop) : Exit → Act → World → Prop
  | .panic ch, a, w => a.defers = D ∧ R ch w
  | _, _, _ => False
set_option maxHeartbeats 8000000 in
set_option maxRecDepth 100000 in
theorem read_panics (g : Nat) (s : ByteArray) (c : Nat) (k : Int) (caps : Array Value) (w : World) (R : World → Prop)
    (hI : w.heap[g]? = some (.cells #[.string s, .int .i64 0] 120 (0, 0)))
    (hc : ∀ n, Calls Try.prog c (#[.string s] ++ caps) ((w.alloc (.cells #[.pointer (some ⟨g, 0, none⟩)] 85)).drewN n) fun e w' => e = .panicked [{ v := .iface 126 (.int .i64 k), recovered := false }] ∧ R w')
    (hcf : ∀ W, (callFunc c (#[.string s] ++ caps)).run Try.prog W = .ok (.enter c (#[.string s] ++ caps)) W)
    (hR : ∀ w', R w' → w'.heap[g]? = some (.cells #[.string s, .int .i64 0] 120 (0, 0)) ∧ w'.heap[w.heap.size]? = some (.cells #[.pointer (some ⟨g, 0, none⟩)] 85 (0, 0))) :
    Calls Try.prog 98 #[.pointer (some ⟨g, 0, none⟩), .func (.func c) #[] caps] w fun e w' => e = .returned (.tuple #[]) ∧ ∃ w1 n, R w1 ∧ w' = (World.drewN w1 n).setCell ⟨g, 1, none⟩ (.int .i64 k) := by
  have hmf : ∀ (fn : Fn) (first cap : Array Value) (w : World), (Instr.makeFunc fn first cap).run Try.prog w = .ok (.func fn first cap) w := fun _ _ _ _ => rfl
  have HI := blk_alloc hI (.cells #[.pointer (some ⟨g, 0, none⟩)] 85)
  have HG := Aside0.mk (blk_lt hI)
  have h0 := cellS120_0 HI
  have h1 := cellS120_1 HI
  have HH := Aside0.mk HI
  clear HI hI
  have HC := Aside0.mk hc
  have HR := Aside0.mk hR
  clear hc hR
  go_enter_defers Try.func98, Try.ntmps98
  go_wp2_with fail
  refine Code.wp_mono (Q := PanicR [{ target := .fn (.func 105) #[.pointer (some ⟨w.heap.size, 0, none⟩)], args := #[] }] fun ch w' => ch = [{ v := .iface 126 (.int .i64 k), recovered := false }] ∧ R w') ?_ ?_
  · intro e a w1 hq
    cases e with
    | panic ch =>
      obtain ⟨hd, rfl, hr⟩ := hq
      obtain ⟨tmps, defers⟩ := a
      simp only at hd
      subst hd
      have hz := HR.out _ hr
      refine leaves_cons (f := 105) (args := #[.pointer (some ⟨w.heap.size, 0, none⟩)]) (by simp) (by simp [go_sem]) ?_
      refine (catch_panics ⟨w.heap.size, 0, none⟩ g k s [] _ ((blk_cell hz.2 0).trans rfl) hz.1 (by have := HG.out; simp; omega)).mono ?_
      rintro e u' w'' ⟨rfl, rfl, n, rfl⟩
      simp [Leaves, settle, results, Try.results98, go_sem]
      exact ⟨w1, hr, n, rfl⟩
    | _ => exact hq.elim
  refine wp_region_held_drew (S := fun W => W.cell? ⟨w.heap.size, 0, none⟩ = some (.pointer (some ⟨g, 0, none⟩))) (by kernel_rfl) (by go_simp) (fun hHeld => ?_)
  refine wpAnyH_take (i := 0) (v := .pointer (some ⟨g, 0, none⟩)) rfl (by kernel_rfl) (by kernel_rfl) (by kernel_rfl) (fun _ _ _ h => h) (Or.inl ⟨by rfl, fun W hS => by (try dsimp only at hS); go_simp⟩) hHeld ?_
  simp only [Act.put, List.setIfInBounds_toArray, List.set_cons_zero, List.set_cons_succ]
  refine wpAnyH_take (i := 1) (v := .func (.func c) #[] caps) rfl (by kernel_rfl) (by kernel_rfl) (by kernel_rfl) (fun _ _ _ h => h) (Or.inl ⟨by rfl, fun W hS => by go_simp⟩) hHeld ?_
  simp only [Act.put, List.setIfInBounds_toArray, List.set_cons_zero, List.set_cons_succ]
  refine wpAnyH_take (i := 2) (v := .pointer (some ⟨g, 0, none⟩)) rfl (by kernel_rfl) (by kernel_rfl) (by kernel_rfl) (fun _ _ _ h => h) (Or.inl ⟨by rfl, fun W hS => by (try dsimp only at hS); go_simp⟩) hHeld ?_
  simp only [Act.put, List.setIfInBounds_toArray, List.set_cons_zero, List.set_cons_succ]
  refine wpAnyH_take (i := 3) (v := .pointer (some ⟨g, 0, none⟩)) rfl (by kernel_rfl) (by kernel_rfl) (by kernel_rfl) (fun _ _ _ h => h) (Or.inl ⟨by rfl, fun W hS => by go_simp⟩) hHeld ?_
  simp only [Act.put, List.setIfInBounds_toArray, List.set_cons_zero, List.set_cons_succ]
  refine wpAnyH_take (i := 4) (v := .pointer (some ⟨g, 0, none⟩)) rfl (by kernel_rfl) (by kernel_rfl) (by kernel_rfl) (fun _ _ _ h => h) (Or.inl ⟨by rfl, fun W hS => by go_simp⟩) hHeld ?_
  simp only [Act.put, List.setIfInBounds_toArray, List.set_cons_zero, List.set_cons_succ]
  refine wpAnyH_ready (rs := [5]) (by kernel_rfl) (by simp) (AllReadyH.cons rfl (fun K hK => ?_) AllReadyH.nil)
  go_simp
  refine hK.out _ _ hHeld (fun hHeld => ?_)
  clear hK K
  (try simp only [Act.put, List.setIfInBounds_toArray, List.set_cons_zero, List.set_cons_succ])
  refine wpAnyH_ready (rs := [6]) (by kernel_rfl) (by simp) (AllReadyH.cons rfl (fun K hK => ?_) AllReadyH.nil)
  go_simp
  refine Calls.mono (HC.out 1) ?_
  rintro e w' ⟨rfl, hq⟩
  exact ⟨rfl, rfl, hq⟩
def numL (s : ByteArray) : Nat → Int → Int → Int × Int × Int
  | 0, _, _ => (3, 0, 0)
  | k + 1, i, n => if i < s.size then
      (if (i < 9 ∨ bt s i ≤ 1) ∧ (i = 0 ∨ bt s i ≠ 0) then
        (if bt s i < 128 then (0, n + bt s i % 128 * 128 ^ i.toNat, i + 1) else numL s k (i + 1) (n + bt s i % 128 * 128 ^ i.toNat))
      else (3, 0, 0)) else (2, 0, 0)
theorem pack_wraps_u64 (n : Int) (h₀ : 0 ≤ n) (h₁ : n < 2 ^ 64) : IntKind.u64.wrap n = n := by simp [IntKind.wrap, IntKind.bits, IntKind.signed]; omega
theorem pack_bits_comm (k : IntKind) (x y : Int) : bits .or k x y = bits .or k y x := by simp only [bits]; rw [BitVec.or_comm]
theorem pack_andNot (b : Int) (h0 : 0 ≤ b) (h1 : b ≤ 255) : bits .andNot .u8 b 128 = b % 128 := by
  obtain ⟨n, rfl⟩ := Int.eq_ofNat_of_zero_le h0
  have hn : n < 256 := by omega
  have key : ∀ m : Fin 256, bits .andNot .u8 ((m.val : Nat) : Int) 128 = ((m.val : Nat) : Int) % 128 := by decide +kernel
  exact key ⟨n, hn⟩
theorem pack_pow (i : Int) : (2 : Int) ^ (7 * i).toNat = 128 ^ i.toNat := by
  rw [show (7 * i).toNat = 7 * i.toNat by omega, Int.pow_mul]; rfl
theorem pack_pow9 (i : Int) (hi : i ≤ 9) : (128 : Int) ^ i.toNat ≤ 2 ^ 63 ∧ 0 < (128 : Int) ^ i.toNat := by
  have h : i.toNat ≤ 9 := by omega
  generalize i.toNat = j at h
  rcases j with _ | _ | _ | _ | _ | _ | _ | _ | _ | _ | j
  all_goals first | omega | (constructor <;> decide)
theorem pack_pow8 (i : Int) (hi : i ≤ 8) : (128 : Int) ^ i.toNat ≤ 2 ^ 56 := by
  have h : i.toNat ≤ 8 := by omega
  generalize i.toNat = j at h
  rcases j with _ | _ | _ | _ | _ | _ | _ | _ | _ | j
  all_goals first | omega | decide
theorem num_step (i b n : Int) (h0 : 0 ≤ i) (h9 : i ≤ 9) (hb0 : 0 ≤ b) (hb : b ≤ 255) (h1 : i < 9 ∨ b ≤ 1) (hn0 : 0 ≤ n) (hn : n < 128 ^ i.toNat) :
    bits .or .u64 n (IntKind.u64.wrap (IntKind.u64.wrap (bits .andNot .u8 b 128) * 2 ^ (7 * i).toNat)) = n + b % 128 * 128 ^ i.toNat ∧ n + b % 128 * 128 ^ i.toNat < 2 ^ 64 := by
  rw [pack_andNot b hb0 hb, pack_pow, pack_wraps_u64 (b % 128) (by omega) (by omega)]
  obtain ⟨hp, hq⟩ := pack_pow9 i h9
  have hm : b % 128 * 128 ^ i.toNat ≤ 2 ^ 64 - 128 ^ i.toNat := by
    rcases h1 with h1 | h1
    · have h8 := pack_pow8 i (by omega)
      have : b % 128 * 128 ^ i.toNat ≤ 127 * 128 ^ i.toNat := Int.mul_le_mul_of_nonneg_right (by omega) (by omega)
      omega
    · have : b % 128 * 128 ^ i.toNat ≤ 1 * 128 ^ i.toNat := Int.mul_le_mul_of_nonneg_right (by omega) (by omega)
      omega
  have hm0 : 0 ≤ b % 128 * 128 ^ i.toNat := Int.mul_nonneg (by omega) (by omega)
  rw [pack_wraps_u64 (b % 128 * 128 ^ i.toNat) hm0 (by omega)]
  refine ⟨?_, by omega⟩
  rw [pack_bits_comm, bits_join .u64 64 (by decide) pack_wraps_u64 (7 * i).toNat _ _ hm0 ?_ (by omega) hn0 (by rw [pack_pow]; exact hn) (by omega)]
  · omega
  · rw [pack_pow]; exact Int.mul_emod_left _ _
def NumEnd (R : Int × Int × Int) (s : ByteArray) (po : Addr) (w : World) (e : Ending) (w' : World) : Prop :=
      (R.1 = 0 ∧ e = .returned (.string (s.extract R.2.2.toNat s.size)) ∧ w' = w.setCell po (.int .u64 R.2.1)) ∨
      (R.1 ≠ 0 ∧ e = .panicked [{ v := .iface 126 (.int .i64 R.1), recovered := false }] ∧ w' = w)
set_option maxHeartbeats 8000000 in
set_option maxRecDepth 100000 in
theorem num1_any (s : ByteArray) (po : Addr) (w : World) (x : Int) (hs : s.size ≤ 9223372036854775000) (ho : w.cell? po = some (.int .u64 x)) (hf : w.frozen? po = false) :
    Calls Try.prog 99 #[.string s, .pointer (some po)] w (NumEnd (numL s 10 0 0) s po w) := by
  obtain ⟨R, hR⟩ : ∃ R, numL s 10 0 0 = R := ⟨_, rfl⟩
  rw [hR]
  have HR0 := Aside0.mk hR
  clear hR
  go_enter Try.func99, Try.ntmps99
  go_wp2
  go_loopg [4, 5] 10 (fun gk v4 v5 w' => ∃ (i : Int) (n : Int), v4 = .int .u64 n ∧ v5 = .int .i64 i ∧ 0 ≤ i ∧ i + gk = 10 ∧ 1 ≤ gk ∧ Aside0 (0 ≤ n ∧ n < 128 ^ i.toNat) ∧ Aside0 (numL s gk i n = R) ∧ i ≤ s.size ∧ w = w')
  case atStart => exact ⟨0, 0, rfl, rfl, by omega, by omega, by omega, ⟨by decide⟩, HR0, by omega, rfl⟩
  case round =>
    clear HR0
    obtain ⟨i, n, rfl, rfl, hi0, hi9, hgk, HN, HA, his, rfl⟩ := hrel
    have p7 := eq_true hi0
    have hr := bt_range s i
    cases gk with
    | zero => omega
    | succ k =>
    by_cases hlt : i < s.size
    · have hlt' : decide (i < (s.size : Int)) = true := decide_eq_true hlt
      have q7 := eq_true hlt
      have hx := bt_at s i
      by_cases hok : (i < 9 ∨ bt s i ≤ 1) ∧ (i = 0 ∨ bt s i ≠ 0)
      · obtain ⟨hs1, hs2⟩ := num_step i (bt s i) n hi0 (by omega) hr.1 hr.2 hok.1 HN.out.1 HN.out.2
        have HM := Aside0.mk hs2
        clear hs2
        have hA := HA.out
        simp only [numL, if_pos hlt, if_pos hok] at hA
        by_cases hb : bt s i < 128
        · have hb' := decide_eq_true hb
          rw [if_pos hb] at hA
          have HR := Aside0.mk hA
          clear hA HA
          have s1 := eq_true (show 0 ≤ i + 1 by omega)
          have s2 := eq_true (show i + 1 ≤ (s.size : Int) by omega)
          obtain ⟨hok1, hok2⟩ := hok
          have c : (decide (i < 9) = true ∧ (i == 0) = true) ∨ (decide (i < 9) = true ∧ (i == 0) = false ∧ (bt s i != 0) = true) ∨ (decide (i < 9) = false ∧ decide (bt s i ≤ 1) = true ∧ (i == 0) = false ∧ (bt s i != 0) = true) := by
            simp only [decide_eq_false_iff_not, decide_eq_true_eq, beq_eq_false_iff_ne, bne_iff_ne, beq_iff_eq]
            omega
          clear hok1 hok2
          rcases c with ⟨c1, c2⟩ | ⟨c1, c2, c3⟩ | ⟨c1, c2, c3, c4⟩
          all_goals
            go_wp2_with (go_at_call 100; refine (must_ok _ _).mono ?_; rintro e w' ⟨rfl, rfl⟩)
            go_ret
            exact .inl ⟨by rw [← HR.out], by rw [← HR.out]; rfl, by rw [← HR.out]⟩
        · have hb' := decide_eq_false hb
          rw [if_neg hb] at hA
          have HA' := Aside0.mk hA
          clear hA HA
          obtain ⟨hok1, hok2⟩ := hok
          have h9 : i < 9 := by omega
          have c1 := decide_eq_true h9
          have HP : Aside0 (0 ≤ n + bt s i % 128 * 128 ^ i.toNat ∧ n + bt s i % 128 * 128 ^ i.toNat < 128 ^ (i + 1).toNat) := by
            obtain ⟨hp, hq⟩ := pack_pow9 i (by omega)
            have hn := HN.out
            have hm0 : 0 ≤ bt s i % 128 * 128 ^ i.toNat := Int.mul_nonneg (by omega) (by omega)
            have : bt s i % 128 * 128 ^ i.toNat ≤ 127 * 128 ^ i.toNat := Int.mul_le_mul_of_nonneg_right (by omega) (by omega)
            rw [show (i + 1).toNat = i.toNat + 1 by omega, Int.pow_succ]
            exact ⟨by omega, by omega⟩
          by_cases h0 : i = 0
          all_goals
            first | have c2 := beq_iff_eq.mpr h0 | (have c2 := beq_eq_false_iff_ne.mpr h0; have c2b := bne_iff_ne.mpr (show bt s i ≠ 0 by omega))
            clear hok1 hok2 h0
            go_wp2_with (go_at_call 100; refine (must_ok _ _).mono ?_; rintro e w' ⟨rfl, rfl⟩)
            go_roundg k
            case measure => omega
            case rel => exact ⟨i + 1, n + bt s i % 128 * 128 ^ i.toNat, by first | rfl | simp, rfl, by omega, by omega, by omega, HP, HA', by omega, rfl⟩
      · have hA := HA.out
        simp only [numL, if_pos hlt, if_neg hok] at hA
        have HR := Aside0.mk hA
        clear hA HA
        have c : (decide (i < 9) = false ∧ decide (bt s i ≤ 1) = false) ∨ (decide (i < 9) = true ∧ (i == 0) = false ∧ (bt s i != 0) = false) ∨ (decide (i < 9) = false ∧ decide (bt s i ≤ 1) = true ∧ (i == 0) = false ∧ (bt s i != 0) = false) := by
          simp only [decide_eq_false_iff_not, decide_eq_true_eq, beq_eq_false_iff_ne, bne_eq_false_iff_eq]
          omega
        clear hok
        rcases c with ⟨c1, c2⟩ | ⟨c1, c2, c3⟩ | ⟨c1, c2, c3, c4⟩
        all_goals
          go_wp2_with (first | (go_at_call 100; (with_reducible refine (must_ok 2 _).mono ?_); rintro e w' ⟨rfl, rfl⟩) | (go_at_call 100; (with_reducible refine (must_no 3 _).mono ?_); rintro e w' ⟨rfl, rfl⟩))
          exact ⟨rfl, .inr ⟨by rw [← HR.out]; decide, by rw [← HR.out], rfl⟩⟩
    · have hlt' : decide (i < (s.size : Int)) = false := decide_eq_false hlt
      have hA := HA.out
      simp only [numL, if_neg hlt] at hA
      have HR := Aside0.mk hA
      clear hA HA
      go_wp2_with (go_at_call 100; refine (must_no _ _).mono ?_; rintro e w' ⟨rfl, rfl⟩)
      exact ⟨rfl, .inr ⟨by rw [← HR.out]; decide, by rw [← HR.out], rfl⟩⟩
set_option maxRecDepth 100000 in
theorem read_skip (g : Nat) (s : ByteArray) (c : Nat) (k : Int) (caps : Array Value) (w : World) (hk : k ≠ 0)
    (hI : w.heap[g]? = some (.cells #[.string s, .int .i64 k] 120 (0, 0))) :
    Calls Try.prog 98 #[.pointer (some ⟨g, 0, none⟩), .func (.func c) #[] caps] w fun e w' => e = .returned (.tuple #[]) ∧ w' = w.alloc (.cells #[.pointer (some ⟨g, 0, none⟩)] 85) := by
  have HI := blk_alloc hI (.cells #[.pointer (some ⟨g, 0, none⟩)] 85)
  have h1 := cellS120_1 HI
  have hk' := bne_iff_ne.mpr hk
  clear HI hI hk
  go_enter_defers Try.func98, Try.ntmps98
  go_wp2_with fail
  exact ⟨_, by simp [results, Try.results98, go_sem], rfl, rfl⟩
def pack_Reader_Num.f (s : ByteArray) (k : Int) : Option (Int × ByteArray × Int) :=
  if s.size ≤ 9223372036854775000 then
    (if k = 0 then (if (numL s 10 0 0).1 = 0 then some ((numL s 10 0 0).2.1, s.extract (numL s 10 0 0).2.2.toNat s.size, 0) else some (0, s, (numL s 10 0 0).1))
    else some (0, s, k)) else none
theorem num_fn38 (args : Array Value) (W : World) : (callFunc 99 args).run Try.prog W = .ok (.enter 99 args) W := by
  simp [go_sem, Try.func99]
set_option maxHeartbeats 8000000 in
set_option maxRecDepth 100000 in
theorem pack_Reader_Num.calls (g : Nat) (s0_0 : ByteArray) (s0_1 : Int) (r1 : Int) (r2 : ByteArray) (r3 : Int) (w0 w : World) (hI : IsS120 w0 w g s0_0 s0_1) (hB : Below w0.heap.size w0 w) (h : pack_Reader_Num.f s0_0 s0_1 = some (r1, r2, r3)) :
    Calls Try.prog 81 #[.pointer (some ⟨g, 0, none⟩)] w fun e w' => e = .returned (.int .u64 r1) ∧ IsS120 w0 w' g r2 r3 ∧ Below w0.heap.size w0 w' ∧ KeepBut w w' g none := by
  have hmf : ∀ (fn : Fn) (first cap : Array Value) (w : World), (Instr.makeFunc fn first cap).run Try.prog w = .ok (.func fn first cap) w := fun _ _ _ _ => rfl
  obtain ⟨hg, hge⟩ := hI
  have hlt := blk_lt hg
  have hg1 := blk_alloc hg (.cells #[.int .u64 0] 51)
  have hsz := hB.size
  unfold pack_Reader_Num.f at h
  by_cases hs : s0_0.size ≤ 9223372036854775000
  · rw [if_pos hs] at h
    by_cases hk : s0_1 = 0
    · subst hk
      rw [if_pos rfl] at h
      by_cases hR : (numL s0_0 10 0 0).1 = 0
      · rw [if_pos hR] at h
        simp only [Option.some.injEq, Prod.mk.injEq] at h
        obtain ⟨rfl, rfl, rfl⟩ := h
        have ho : (w.alloc (.cells #[.int .u64 0] 51)).heap[w.heap.size]? = some (.cells #[.int .u64 0] 51 (0, 0)) := blk_new w _
        have ho1 := blk_alloc ho (.cells #[.pointer (some ⟨g, 0, none⟩)] 85)
        have hg2 := blk_alloc hg1 (.cells #[.pointer (some ⟨g, 0, none⟩)] 85)
        have hb2 := blk_new (w.alloc (.cells #[.int .u64 0] 51)) (.cells #[.pointer (some ⟨g, 0, none⟩)] 85)
        have hsA : (w.alloc (.cells #[.int .u64 0] 51)).heap.size = w.heap.size + 1 := by simp
        have hnum := fun n => num1_any s0_0 ⟨w.heap.size, 0, none⟩ (((w.alloc (.cells #[.int .u64 0] 51)).alloc (.cells #[.pointer (some ⟨g, 0, none⟩)] 85)).drewN n) 0 hs ((blk_cell (blk_drewN ho1 n) 0).trans rfl) (blk_frozen (blk_drewN ho1 n) 0)
        have HC := Aside0.mk (read_ret g s0_0 (s0_0.extract (numL s0_0 10 0 0).2.2.toNat s0_0.size) 99 #[.pointer (some ⟨w.heap.size, 0, none⟩)] (w.alloc (.cells #[.int .u64 0] 51))
          (fun w' => ∃ n, w' = ((((w.alloc (.cells #[.int .u64 0] 51)).alloc (.cells #[.pointer (some ⟨g, 0, none⟩)] 85)).drewN n).setCell ⟨w.heap.size, 0, none⟩ (.int .u64 (numL s0_0 10 0 0).2.1))) hg1
          (fun n => (hnum n).mono (by
            rintro e w' (⟨_, rfl, rfl⟩ | ⟨hne, _⟩)
            · exact ⟨rfl, n, rfl⟩
            · exact absurd hR hne))
          (num_fn38 _) (by
            rintro w' ⟨n, rfl⟩
            exact ⟨blk_far (blk_drewN hg2 n) (by simp; omega) _, blk_far (blk_drewN hb2 n) (by simp) _⟩))
        have HB := Aside0.mk hB
        have HG := Aside0.mk hg2
        have HO := Aside0.mk ho1
        have HL := Aside0.mk hlt
        have HE := Aside0.mk hge
        have HZ := Aside0.mk hsz
        clear hB hg hg1 ho ho1 hg2 hb2 hnum hsA hlt hge hsz
        go_enter Try.func81, Try.ntmps81
        go_wp2_with (go_at_call 98; refine HC.out.mono ?_; rintro e w' ⟨rfl, w1, ⟨n, rfl⟩, hw⟩; have hcell : w'.cell? ⟨w.heap.size, 0, none⟩ = some (.int .u64 (numL s0_0 10 0 0).2.1) := (by have := HL.out; rw [hw]; exact (blk_cell (blk_far (blk_set (blk_drewN HO.out n) 0 _) (by simp; omega) _) 0).trans rfl); have HW := Aside0.mk hw; clear hw)
        go_ret
        have hw := HW.out
        have hlt := HL.out
        refine ⟨rfl, ⟨?_, HE.out⟩, ?_, ?_⟩ <;> rw [hw]
        · exact blk_put (blk_far (blk_drewN HG.out n) (by simp; omega) _) 0 _ rfl
        · exact below_set (below_set (pw_below_drewN (below_alloc (below_alloc HB.out _) _) n) HZ.out) HE.out
        · exact KeepBut.set_ (keep_far (keep_drewN (keep_alloc (keep_alloc (KeepBut.refl _ _ _) _) _) n) (Nat.le_refl _) _) 0 _
      · rw [if_neg hR] at h
        simp only [Option.some.injEq, Prod.mk.injEq] at h
        obtain ⟨rfl, rfl, rfl⟩ := h
        have ho : (w.alloc (.cells #[.int .u64 0] 51)).heap[w.heap.size]? = some (.cells #[.int .u64 0] 51 (0, 0)) := blk_new w _
        have ho1 := blk_alloc ho (.cells #[.pointer (some ⟨g, 0, none⟩)] 85)
        have hg2 := blk_alloc hg1 (.cells #[.pointer (some ⟨g, 0, none⟩)] 85)
        have hb2 := blk_new (w.alloc (.cells #[.int .u64 0] 51)) (.cells #[.pointer (some ⟨g, 0, none⟩)] 85)
        have hsA : (w.alloc (.cells #[.int .u64 0] 51)).heap.size = w.heap.size + 1 := by simp
        have hnum := fun n => num1_any s0_0 ⟨w.heap.size, 0, none⟩ (((w.alloc (.cells #[.int .u64 0] 51)).alloc (.cells #[.pointer (some ⟨g, 0, none⟩)] 85)).drewN n) 0 hs ((blk_cell (blk_drewN ho1 n) 0).trans rfl) (blk_frozen (blk_drewN ho1 n) 0)
        have HC := Aside0.mk (read_panics g s0_0 99 (numL s0_0 10 0 0).1 #[.pointer (some ⟨w.heap.size, 0, none⟩)] (w.alloc (.cells #[.int .u64 0] 51))
          (fun w' => ∃ n, w' = ((w.alloc (.cells #[.int .u64 0] 51)).alloc (.cells #[.pointer (some ⟨g, 0, none⟩)] 85)).drewN n) hg1
          (fun n => (hnum n).mono (by
            rintro e w' (⟨hne, _⟩ | ⟨_, rfl, rfl⟩)
            · exact absurd hne hR
            · exact ⟨rfl, n, rfl⟩))
          (num_fn38 _) (by
            rintro w' ⟨n, rfl⟩
            exact ⟨blk_drewN hg2 n, blk_drewN hb2 n⟩))
        have HB := Aside0.mk hB
        have HG := Aside0.mk hg2
        have HO := Aside0.mk ho1
        have HL := Aside0.mk hlt
        have HE := Aside0.mk hge
        have HZ := Aside0.mk hsz
        clear hB hg hg1 ho ho1 hg2 hb2 hnum hsA hlt hge hsz
        go_enter Try.func81, Try.ntmps81
        go_wp2_with (go_at_call 98; refine HC.out.mono ?_; rintro e w' ⟨rfl, w1, m, ⟨n, rfl⟩, hw⟩; have hcell : w'.cell? ⟨w.heap.size, 0, none⟩ = some (.int .u64 0) := (by have := HL.out; rw [hw]; exact (blk_cell (blk_far (blk_drewN (blk_drewN HO.out n) m) (by simp; omega) _) 0).trans rfl); have HW := Aside0.mk hw; clear hw)
        go_ret
        have hw := HW.out
        have hlt := HL.out
        refine ⟨rfl, ⟨?_, HE.out⟩, ?_, ?_⟩ <;> rw [hw]
        · exact blk_put (blk_drewN (blk_drewN HG.out n) m) 1 _ rfl
        · exact below_set (pw_below_drewN (pw_below_drewN (below_alloc (below_alloc HB.out _) _) n) m) HE.out
        · exact KeepBut.set_ (keep_drewN (keep_drewN (keep_alloc (keep_alloc (KeepBut.refl _ _ _) _) _) n) m) 1 _
    · rw [if_neg hk] at h
      simp only [Option.some.injEq, Prod.mk.injEq] at h
      obtain ⟨rfl, rfl, rfl⟩ := h
      have HB := Aside0.mk hB
      have HG := Aside0.mk hg
      have HG1 := Aside0.mk hg1
      have HC := Aside0.mk (read_skip g s0_0 99 s0_1 #[.pointer (some ⟨w.heap.size, 0, none⟩)] _ hk hg1)
      clear hB hg hg1
      go_enter Try.func81, Try.ntmps81
      go_wp2_with (go_at_call 98; refine HC.out.mono ?_; rintro e w' ⟨rfl, rfl⟩)
      go_ret
      refine ⟨by simp, ⟨?_, hge⟩, ?_, ?_⟩
      · exact blk_alloc HG1.out _
      · exact below_alloc (below_alloc HB.out _) _
      · exact keep_alloc (keep_alloc (KeepBut.refl _ _ _) _) _
  · rw [if_neg hs] at h
    cases h
theorem pack_Reader_Err_any (g : Nat) (s : ByteArray) (k : Int) (w : World) (hI : w.heap[g]? = some (.cells #[.string s, .int .i64 k] 120 (0, 0))) :
    Calls Try.prog 82 #[.pointer (some ⟨g, 0, none⟩)] w fun e w' => e = .returned (.int .i64 k) ∧ w' = w := by
  have h1 := cellS120_1 hI
  go_enter Try.func82, Try.ntmps82
  go_wp2
  go_ret
  exact ⟨rfl, rfl⟩
def pack_Reader_Err.f (s : ByteArray) (k : Int) : Option (Int × ByteArray × Int) := some (k, s, k)
theorem pack_Reader_Err.calls (g : Nat) (s0_0 : ByteArray) (s0_1 : Int) (r1 : Int) (r2 : ByteArray) (r3 : Int) (w0 w : World) (hI : IsS120 w0 w g s0_0 s0_1) (hB : Below w0.heap.size w0 w) (h : pack_Reader_Err.f s0_0 s0_1 = some (r1, r2, r3)) :
    Calls Try.prog 82 #[.pointer (some ⟨g, 0, none⟩)] w fun e w' => e = .returned (.int .i64 r1) ∧ IsS120 w0 w' g r2 r3 ∧ Below w0.heap.size w0 w' ∧ KeepBut w w' g none := by
  simp only [pack_Reader_Err.f, Option.some.injEq, Prod.mk.injEq] at h
  obtain ⟨rfl, rfl, rfl⟩ := h
  refine (pack_Reader_Err_any g s0_0 s0_1 w hI.1).mono ?_
  rintro e w' ⟨rfl, rfl⟩
  exact ⟨rfl, hI, hB, KeepBut.refl _ _ _⟩
theorem pack_Reader_Left_any (g : Nat) (s : ByteArray) (k : Int) (w : World) (hI : w.heap[g]? = some (.cells #[.string s, .int .i64 k] 120 (0, 0))) :
    Calls Try.prog 83 #[.pointer (some ⟨g, 0, none⟩)] w fun e w' => e = .returned (.int .i64 s.size) ∧ w' = w := by
  have h1 := cellS120_0 hI
  go_enter Try.func83, Try.ntmps83
  go_wp2
  go_ret
  exact ⟨rfl, rfl⟩
def pack_Reader_Left.f (s : ByteArray) (k : Int) : Option (Int × ByteArray × Int) := some ((s.size : Int), s, k)
theorem pack_Reader_Left.calls (g : Nat) (s0_0 : ByteArray) (s0_1 : Int) (r1 : Int) (r2 : ByteArray) (r3 : Int) (w0 w : World) (hI : IsS120 w0 w g s0_0 s0_1) (hB : Below w0.heap.size w0 w) (h : pack_Reader_Left.f s0_0 s0_1 = some (r1, r2, r3)) :
    Calls Try.prog 83 #[.pointer (some ⟨g, 0, none⟩)] w fun e w' => e = .returned (.int .i64 r1) ∧ IsS120 w0 w' g r2 r3 ∧ Below w0.heap.size w0 w' ∧ KeepBut w w' g none := by
  simp only [pack_Reader_Left.f, Option.some.injEq, Prod.mk.injEq] at h
  obtain ⟨rfl, rfl, rfl⟩ := h
  refine (pack_Reader_Left_any g s0_0 s0_1 w hI.1).mono ?_
  rintro e w' ⟨rfl, rfl⟩
  exact ⟨rfl, hI, hB, KeepBut.refl _ _ _⟩
end Go.Proofs.Ytbgjoiccehiglaa.Print
end
namespace Go.Proofs.Ytbgjoiccehiglaa.Print
end Go.Proofs.Ytbgjoiccehiglaa.Print
section
namespace Go.Proofs.Ytbgjoiccehiglaa.Print
open Go.RowKit Go.Proofs.YtbgjoiccehiglaaW.PrintWords Go.Proofs.YtbgjoiccehiglaaW.PrintLast Go.Proofs.YtbgjoiccehiglaaW.PrintMore
attribute [local go_sem] max2_int min2_int max_two min_two max_three min_three max_four min_four
set_option linter.unusedVariables false
set_option linter.unusedSimpArgs false
def runs_May.l0 : Nat → List (S53) → List (S53) → Int → Int → Option (Bool)
  | 0, _, _, _, _ => none
  | k + 1, x0, x5, x6, x7 => if x7 < x6 then (if 0 ≤ x7 then (if x7 < (x5.length : Int) then (if ((rd_T53 x5 x7).f1) < 1 then (some false) else (if x7 > 0 then (if 0 ≤ (wrap64 (x7 - 1)) then (if (wrap64 (x7 - 1)) < (x0.length : Int) then (if ((rd_T53 x0 (wrap64 (x7 - 1))).f0) = ((rd_T53 x5 x7).f0) then (some false) else (runs_May.l0 k x0 x5 x6 (wrap64 (x7 + 1)))) else (none)) else (none)) else (runs_May.l0 k x0 x5 x6 (wrap64 (x7 + 1))))) else (none)) else (none)) else (some true)
def runs_May.f (k : Nat) (l0 : List (S53)) : Option (Bool) := runs_May.l0 k l0 l0 (l0.length : Int) 0
theorem runs_May.mono_l : ∀ k, (∀ y0 y1 y2 y3, LeO (runs_May.l0 k y0 y1 y2 y3) (runs_May.l0 (k + 1) y0 y1 y2 y3))
  | 0 => fun _ _ _ _ r h => by simp [runs_May.l0] at h
  | k + 1 => by
    have ih0 := runs_May.mono_l k
    · intro y0 y1 y2 y3
      unfold runs_May.l0
      repeat' first
      | (with_reducible exact ih0 _ _ _ _)
      | (with_reducible exact LeO.refl _)
      | (with_reducible exact LeO.none _)
      | (with_reducible refine LeO.ite ?_ ?_)
      | (with_reducible refine LeO.bind ?_ (fun _ => ?_))
      | exact ih0 _ _ _ _
      | exact LeO.none _
      | refine LeO.ite ?_ ?_
      | refine LeO.bind ?_ (fun _ => ?_)
theorem runs_May.mono : ∀ a0 k, LeO (runs_May.f k a0) (runs_May.f (k + 1) a0) := by
  intro a0 k
  have ih0 := runs_May.mono_l k
  unfold runs_May.f
  repeat' first
      | (with_reducible exact ih0 _ _ _ _)
      | (with_reducible exact LeO.refl _)
      | (with_reducible exact LeO.none _)
      | (with_reducible refine LeO.ite ?_ ?_)
      | (with_reducible refine LeO.bind ?_ (fun _ => ?_))
      | exact ih0 _ _ _ _
      | exact LeO.none _
      | refine LeO.ite ?_ ?_
      | refine LeO.bind ?_ (fun _ => ?_)
set_option maxHeartbeats 8000000 in
set_option maxRecDepth 100000 in
theorem runs_May.calls (k : Nat) (A0 : Option Addr) (c0 : Nat) (l0 : List (S53)) (r : Bool) (w : World) (hr0 : Kd.C k53 w A0 l0.length l0) (hc0 : l0.length ≤ c0) (h : runs_May.f k l0 = some r) :
    Calls Try.prog 46 #[.slice A0 l0.length c0] w fun e w' => e = .returned (.bool r) ∧ Below w.heap.size w w' := by
  have hu53 := Try.underlying53
  have HR0 := Aside0.mk hr0
  have HC0 := Aside0.mk hc0
  clear hr0 hc0
  have HB := Aside0.mk (Below.refl w.heap.size w)
  have H : (runs_May.l0 k l0 l0 (l0.length : Int) 0) = some r := h
  clear h
  have H' := Aside0.mk H
  clear H
  go_enter Try.func46, Try.ntmps46
  go_wp2
  repeat (go_quiet (fail); try go_wp2)
  go_loopg [7] k (fun kq v7 w' => ∃ (x7_1 : Int), v7 = .int .i64 x7_1 ∧ Aside0 (runs_May.l0 kq l0 l0 (l0.length : Int) x7_1 = some r) ∧ Aside0 (kq ≤ k) ∧ Aside0 (Below w.heap.size w w'))
  case atStart => exact ⟨(0), (by first | rfl | (simp; done) | (simp [*]; done)), H', ⟨Nat.le_refl _⟩, ⟨by repeat (first | (with_reducible first | exact HB.out | apply below_alloc | apply pw_below_drewN | apply below_drew1) | exact HB.out)⟩⟩
  case round =>
    clear H'
    obtain ⟨x7_1, rfl, HA, HK1, HB⟩ := hrel
    cases gk with
    | zero => exact absurd HA.out (by simp [runs_May.l0])
    | succ k1 =>
      have H := HA.out
      clear HA
      simp only [runs_May.l0] at H
      by_cases c2 : x7_1 < (l0.length : Int)
      · rw [if_pos c2] at H
        have c2b0 : decide (x7_1 < (l0.length : Int)) = true := decide_eq_true c2
        clear c2
        by_cases c3 : 0 ≤ x7_1
        · rw [if_pos c3] at H
          have c3b0 : decide (0 ≤ x7_1) = true := decide_eq_true c3
          clear c3
          by_cases c4 : x7_1 < (l0.length : Int)
          · rw [if_pos c4] at H
            have c4b0 : decide (x7_1 < (l0.length : Int)) = true := decide_eq_true c4
            clear c4
            by_cases c5 : ((rd_T53 l0 x7_1).f1) < 1
            · rw [if_pos c5] at H
              have c5b0 : decide (((rd_T53 l0 x7_1).f1) < 1) = true := decide_eq_true c5
              clear c5
              obtain rfl := Option.some.inj H
              have p264 : 0 ≤ (x7_1 : Int) := of_decide_eq_true (by first | (with_reducible assumption) | assumption)
              have q264 : x7_1 < (l0.length : Int) := of_decide_eq_true (by first | (with_reducible assumption) | assumption)
              obtain ⟨ad264, e264, hx264_0, hx264_1⟩ := at_T53 HR0.out x7_1 p264 q264
              cases e264
              replace hx264_0 := (HB.out.cell (World.block_lt_of_cell? w _ hx264_0)).trans hx264_0
              replace hx264_1 := (HB.out.cell (World.block_lt_of_cell? w _ hx264_1)).trans hx264_1
              replace p264 := eq_true p264
              replace q264 := eq_true q264
              go_wp2_with (first | ((with_reducible refine gate_dst (N := 4) rfl ?_); refine box_event ?hg (N := 4) ?hd (cs := #[.int .u64 0, .int .i64 0]) (t := 53) ?hr ?_; (case hd => rfl); (case hg => rfl); (case hr => first | (go_simp; done) | (go_simp; rfl)); intro gb265 hg w6 hbox hb; have n0_ := Aside0.mk (below_step (by repeat (first | (with_reducible first | exact HB.out | apply below_alloc | apply pw_below_drewN | apply below_drew1) | exact HB.out)) hb); have n1_ := Aside0.mk (hbox); have n2_ := Aside0.mk ((by rw [hg]; exact (below_size (by repeat (first | (with_reducible first | exact HB.out | apply below_alloc | apply pw_below_drewN | apply below_drew1) | exact HB.out))) : w.heap.size ≤ gb265)); have n3_ := Aside0.mk ((by rw [hg]; exact (below_size (by repeat (first | (with_reducible first | exact HB.out | apply below_alloc | apply pw_below_drewN | apply below_drew1) | exact HB.out))) : w.heap.size ≤ gb265)); clear HB; have HB := n0_; have BK265 := n1_; have GW265 := n2_; have GE265 := n3_; clear n0_ n1_ n2_ n3_; clear hb hbox hg; have hcz7_0 : w6.cell? ⟨gb265, 0, none⟩ = some (.int .u64 0) := (blk_cell BK265.out 0).trans rfl; have hcz7_1 : w6.cell? ⟨gb265, 1, none⟩ = some (.int .i64 0) := (blk_cell BK265.out 1).trans rfl; have hfz7_0 := blk_frozen BK265.out 0; have hfz7_1 := blk_frozen BK265.out 1))
              repeat (go_quiet (first | ((with_reducible refine gate_dst (N := 4) rfl ?_); refine box_event ?hg (N := 4) ?hd (cs := #[.int .u64 0, .int .i64 0]) (t := 53) ?hr ?_; (case hd => rfl); (case hg => rfl); (case hr => first | (go_simp; done) | (go_simp; rfl)); intro gb265 hg w6 hbox hb; have n0_ := Aside0.mk (below_step (by repeat (first | (with_reducible first | exact HB.out | apply below_alloc | apply pw_below_drewN | apply below_drew1) | exact HB.out)) hb); have n1_ := Aside0.mk (hbox); have n2_ := Aside0.mk ((by rw [hg]; exact (below_size (by repeat (first | (with_reducible first | exact HB.out | apply below_alloc | apply pw_below_drewN | apply below_drew1) | exact HB.out))) : w.heap.size ≤ gb265)); have n3_ := Aside0.mk ((by rw [hg]; exact (below_size (by repeat (first | (with_reducible first | exact HB.out | apply below_alloc | apply pw_below_drewN | apply below_drew1) | exact HB.out))) : w.heap.size ≤ gb265)); clear HB; have HB := n0_; have BK265 := n1_; have GW265 := n2_; have GE265 := n3_; clear n0_ n1_ n2_ n3_; clear hb hbox hg; have hcz7_0 : w6.cell? ⟨gb265, 0, none⟩ = some (.int .u64 0) := (blk_cell BK265.out 0).trans rfl; have hcz7_1 : w6.cell? ⟨gb265, 1, none⟩ = some (.int .i64 0) := (blk_cell BK265.out 1).trans rfl; have hfz7_0 := blk_frozen BK265.out 0; have hfz7_1 := blk_frozen BK265.out 1)); try go_wp2_with (first | ((with_reducible refine gate_dst (N := 4) rfl ?_); refine box_event ?hg (N := 4) ?hd (cs := #[.int .u64 0, .int .i64 0]) (t := 53) ?hr ?_; (case hd => rfl); (case hg => rfl); (case hr => first | (go_simp; done) | (go_simp; rfl)); intro gb265 hg w6 hbox hb; have n0_ := Aside0.mk (below_step (by repeat (first | (with_reducible first | exact HB.out | apply below_alloc | apply pw_below_drewN | apply below_drew1) | exact HB.out)) hb); have n1_ := Aside0.mk (hbox); have n2_ := Aside0.mk ((by rw [hg]; exact (below_size (by repeat (first | (with_reducible first | exact HB.out | apply below_alloc | apply pw_below_drewN | apply below_drew1) | exact HB.out))) : w.heap.size ≤ gb265)); have n3_ := Aside0.mk ((by rw [hg]; exact (below_size (by repeat (first | (with_reducible first | exact HB.out | apply below_alloc | apply pw_below_drewN | apply below_drew1) | exact HB.out))) : w.heap.size ≤ gb265)); clear HB; have HB := n0_; have BK265 := n1_; have GW265 := n2_; have GE265 := n3_; clear n0_ n1_ n2_ n3_; clear hb hbox hg; have hcz7_0 : w6.cell? ⟨gb265, 0, none⟩ = some (.int .u64 0) := (blk_cell BK265.out 0).trans rfl; have hcz7_1 : w6.cell? ⟨gb265, 1, none⟩ = some (.int .i64 0) := (blk_cell BK265.out 1).trans rfl; have hfz7_0 := blk_frozen BK265.out 0; have hfz7_1 := blk_frozen BK265.out 1)))
              go_ret
              exact ⟨by first | rfl | (simp [errW_none, errW_some] <;> rfl) | (simp [*, errW_none, errW_some] <;> rfl), by repeat (first | (with_reducible first | exact HB.out | apply below_alloc | apply pw_below_drewN | apply below_drew1 | refine below_set ?_ GE265.out) | exact HB.out)⟩
            · rw [if_neg c5] at H
              have c5b0 : decide (((rd_T53 l0 x7_1).f1) < 1) = false := decide_eq_false c5
              clear c5
              by_cases c8 : x7_1 > 0
              · rw [if_pos c8] at H
                have c8b0 : decide (0 < x7_1) = true := decide_eq_true c8
                clear c8
                obtain ⟨ji9, hji9⟩ : ∃ j_ : Int, (wrap64 (x7_1 - 1)) = j_ := ⟨_, rfl⟩
                replace H : (if 0 ≤ (ji9) then (if (ji9) < (l0.length : Int) then (if ((rd_T53 l0 (ji9)).f0) = ((rd_T53 l0 x7_1).f0) then (some false) else (runs_May.l0 k1 l0 l0 (l0.length : Int) (wrap64 (x7_1 + 1)))) else (none)) else (none)) = some r := by first | (rw [hji9] at H; exact H) | (simp only [hji9] at H ⊢; exact H)
                have hji9w : (IntKind.i64.wrap (x7_1 - 1)) = ji9 := (i64_w _).trans hji9
                by_cases c10 : 0 ≤ (ji9)
                · rw [if_pos c10] at H
                  have c10b0 : decide (0 ≤ (ji9)) = true := decide_eq_true c10
                  clear c10
                  by_cases c11 : (ji9) < (l0.length : Int)
                  · rw [if_pos c11] at H
                    have c11b0 : decide ((ji9) < (l0.length : Int)) = true := decide_eq_true c11
                    clear c11
                    by_cases c12 : ((rd_T53 l0 (ji9)).f0) = ((rd_T53 l0 x7_1).f0)
                    · rw [if_pos c12] at H
                      have c12b0 : (((rd_T53 l0 (ji9)).f0) == ((rd_T53 l0 x7_1).f0)) = true := beq_iff_eq.mpr c12
                      have c12b1 : (((rd_T53 l0 (ji9)).f0) != ((rd_T53 l0 x7_1).f0)) = false := bne_eq_false_iff_eq.mpr c12
                      clear c12
                      obtain rfl := Option.some.inj H
                      have p264 : 0 ≤ (x7_1 : Int) := of_decide_eq_true (by first | (with_reducible assumption) | assumption)
                      have q264 : x7_1 < (l0.length : Int) := of_decide_eq_true (by first | (with_reducible assumption) | assumption)
                      obtain ⟨ad264, e264, hx264_0, hx264_1⟩ := at_T53 HR0.out x7_1 p264 q264
                      cases e264
                      replace hx264_0 := (HB.out.cell (World.block_lt_of_cell? w _ hx264_0)).trans hx264_0
                      replace hx264_1 := (HB.out.cell (World.block_lt_of_cell? w _ hx264_1)).trans hx264_1
                      replace p264 := eq_true p264
                      replace q264 := eq_true q264
                      go_wp2_with (first | ((with_reducible refine gate_dst (N := 4) rfl ?_); refine box_event ?hg (N := 4) ?hd (cs := #[.int .u64 0, .int .i64 0]) (t := 53) ?hr ?_; (case hd => rfl); (case hg => rfl); (case hr => first | (go_simp; done) | (go_simp; rfl)); intro gb265 hg w13 hbox hb; have n0_ := Aside0.mk (below_step (by repeat (first | (with_reducible first | exact HB.out | apply below_alloc | apply pw_below_drewN | apply below_drew1) | exact HB.out)) hb); have n1_ := Aside0.mk (hbox); have n2_ := Aside0.mk ((by rw [hg]; exact (below_size (by repeat (first | (with_reducible first | exact HB.out | apply below_alloc | apply pw_below_drewN | apply below_drew1) | exact HB.out))) : w.heap.size ≤ gb265)); have n3_ := Aside0.mk ((by rw [hg]; exact (below_size (by repeat (first | (with_reducible first | exact HB.out | apply below_alloc | apply pw_below_drewN | apply below_drew1) | exact HB.out))) : w.heap.size ≤ gb265)); clear HB; have HB := n0_; have BK265 := n1_; have GW265 := n2_; have GE265 := n3_; clear n0_ n1_ n2_ n3_; clear hb hbox hg; have hcz14_0 : w13.cell? ⟨gb265, 0, none⟩ = some (.int .u64 0) := (blk_cell BK265.out 0).trans rfl; have hcz14_1 : w13.cell? ⟨gb265, 1, none⟩ = some (.int .i64 0) := (blk_cell BK265.out 1).trans rfl; have hfz14_0 := blk_frozen BK265.out 0; have hfz14_1 := blk_frozen BK265.out 1; have p266 : 0 ≤ ((ji9) : Int) := of_decide_eq_true (by first | (with_reducible assumption) | assumption); have q266 : (ji9) < (l0.length : Int) := of_decide_eq_true (by first | (with_reducible assumption) | assumption); obtain ⟨ad266, e266, hx266_0, hx266_1⟩ := at_T53 HR0.out (ji9) p266 q266; obtain rfl : ad264 = ad266 := (by injection e266); have hn266_0 : ad264.block ≠ gb265 := Nat.ne_of_lt (Nat.lt_of_lt_of_le (by have := World.block_lt_of_cell? _ _ hx266_0; first | rwa [add_block] at this | exact this) GW265.out); have hn266_1 : ad264.block ≠ gb265 := Nat.ne_of_lt (Nat.lt_of_lt_of_le (by have := World.block_lt_of_cell? _ _ hx266_0; first | rwa [add_block] at this | exact this) GW265.out); replace hx266_0 := (HB.out.cell (World.block_lt_of_cell? w _ hx266_0)).trans hx266_0; replace hx266_1 := (HB.out.cell (World.block_lt_of_cell? w _ hx266_1)).trans hx266_1; replace hx266_0 := (cell_far (p := ⟨gb265, 0, none⟩) (by first | (rw [add_block]; exact hn266_0) | (show (Addr.add _ _).block ≠ _; rw [add_block]; exact hn266_0) | exact hn266_0) (.int .u64 ((rd_T53 l0 x7_1).f0))).trans hx266_0; replace hx266_1 := (cell_far (p := ⟨gb265, 0, none⟩) (by first | (rw [add_block]; exact hn266_0) | (show (Addr.add _ _).block ≠ _; rw [add_block]; exact hn266_0) | exact hn266_0) (.int .u64 ((rd_T53 l0 x7_1).f0))).trans hx266_1; replace hx266_0 := (cell_far (p := ⟨gb265, 1, none⟩) (by first | (rw [add_block]; exact hn266_1) | (show (Addr.add _ _).block ≠ _; rw [add_block]; exact hn266_1) | exact hn266_1) (.int .i64 ((rd_T53 l0 x7_1).f1))).trans hx266_0; replace hx266_1 := (cell_far (p := ⟨gb265, 1, none⟩) (by first | (rw [add_block]; exact hn266_1) | (show (Addr.add _ _).block ≠ _; rw [add_block]; exact hn266_1) | exact hn266_1) (.int .i64 ((rd_T53 l0 x7_1).f1))).trans hx266_1; (try have hy266_0 := fun (n_ : Nat) => (show ((((w13.drewN n_).setCell ⟨gb265, 0, none⟩ (.int .u64 ((rd_T53 l0 x7_1).f0))).setCell ⟨gb265, 1, none⟩ (.int .i64 ((rd_T53 l0 x7_1).f1)))).cell? _ = some _ from hx266_0)); (try have hy266_1 := fun (n_ : Nat) => (show ((((w13.drewN n_).setCell ⟨gb265, 0, none⟩ (.int .u64 ((rd_T53 l0 x7_1).f0))).setCell ⟨gb265, 1, none⟩ (.int .i64 ((rd_T53 l0 x7_1).f1)))).cell? _ = some _ from hx266_1)); clear hn266_0; clear hn266_1; replace p266 := eq_true p266; replace q266 := eq_true q266))
                      repeat (go_quiet (first | ((with_reducible refine gate_dst (N := 4) rfl ?_); refine box_event ?hg (N := 4) ?hd (cs := #[.int .u64 0, .int .i64 0]) (t := 53) ?hr ?_; (case hd => rfl); (case hg => rfl); (case hr => first | (go_simp; done) | (go_simp; rfl)); intro gb265 hg w13 hbox hb; have n0_ := Aside0.mk (below_step (by repeat (first | (with_reducible first | exact HB.out | apply below_alloc | apply pw_below_drewN | apply below_drew1) | exact HB.out)) hb); have n1_ := Aside0.mk (hbox); have n2_ := Aside0.mk ((by rw [hg]; exact (below_size (by repeat (first | (with_reducible first | exact HB.out | apply below_alloc | apply pw_below_drewN | apply below_drew1) | exact HB.out))) : w.heap.size ≤ gb265)); have n3_ := Aside0.mk ((by rw [hg]; exact (below_size (by repeat (first | (with_reducible first | exact HB.out | apply below_alloc | apply pw_below_drewN | apply below_drew1) | exact HB.out))) : w.heap.size ≤ gb265)); clear HB; have HB := n0_; have BK265 := n1_; have GW265 := n2_; have GE265 := n3_; clear n0_ n1_ n2_ n3_; clear hb hbox hg; have hcz14_0 : w13.cell? ⟨gb265, 0, none⟩ = some (.int .u64 0) := (blk_cell BK265.out 0).trans rfl; have hcz14_1 : w13.cell? ⟨gb265, 1, none⟩ = some (.int .i64 0) := (blk_cell BK265.out 1).trans rfl; have hfz14_0 := blk_frozen BK265.out 0; have hfz14_1 := blk_frozen BK265.out 1; have p266 : 0 ≤ ((ji9) : Int) := of_decide_eq_true (by first | (with_reducible assumption) | assumption); have q266 : (ji9) < (l0.length : Int) := of_decide_eq_true (by first | (with_reducible assumption) | assumption); obtain ⟨ad266, e266, hx266_0, hx266_1⟩ := at_T53 HR0.out (ji9) p266 q266; obtain rfl : ad264 = ad266 := (by injection e266); have hn266_0 : ad264.block ≠ gb265 := Nat.ne_of_lt (Nat.lt_of_lt_of_le (by have := World.block_lt_of_cell? _ _ hx266_0; first | rwa [add_block] at this | exact this) GW265.out); have hn266_1 : ad264.block ≠ gb265 := Nat.ne_of_lt (Nat.lt_of_lt_of_le (by have := World.block_lt_of_cell? _ _ hx266_0; first | rwa [add_block] at this | exact this) GW265.out); replace hx266_0 := (HB.out.cell (World.block_lt_of_cell? w _ hx266_0)).trans hx266_0; replace hx266_1 := (HB.out.cell (World.block_lt_of_cell? w _ hx266_1)).trans hx266_1; replace hx266_0 := (cell_far (p := ⟨gb265, 0, none⟩) (by first | (rw [add_block]; exact hn266_0) | (show (Addr.add _ _).block ≠ _; rw [add_block]; exact hn266_0) | exact hn266_0) (.int .u64 ((rd_T53 l0 x7_1).f0))).trans hx266_0; replace hx266_1 := (cell_far (p := ⟨gb265, 0, none⟩) (by first | (rw [add_block]; exact hn266_0) | (show (Addr.add _ _).block ≠ _; rw [add_block]; exact hn266_0) | exact hn266_0) (.int .u64 ((rd_T53 l0 x7_1).f0))).trans hx266_1; replace hx266_0 := (cell_far (p := ⟨gb265, 1, none⟩) (by first | (rw [add_block]; exact hn266_1) | (show (Addr.add _ _).block ≠ _; rw [add_block]; exact hn266_1) | exact hn266_1) (.int .i64 ((rd_T53 l0 x7_1).f1))).trans hx266_0; replace hx266_1 := (cell_far (p := ⟨gb265, 1, none⟩) (by first | (rw [add_block]; exact hn266_1) | (show (Addr.add _ _).block ≠ _; rw [add_block]; exact hn266_1) | exact hn266_1) (.int .i64 ((rd_T53 l0 x7_1).f1))).trans hx266_1; (try have hy266_0 := fun (n_ : Nat) => (show ((((w13.drewN n_).setCell ⟨gb265, 0, none⟩ (.int .u64 ((rd_T53 l0 x7_1).f0))).setCell ⟨gb265, 1, none⟩ (.int .i64 ((rd_T53 l0 x7_1).f1)))).cell? _ = some _ from hx266_0)); (try have hy266_1 := fun (n_ : Nat) => (show ((((w13.drewN n_).setCell ⟨gb265, 0, none⟩ (.int .u64 ((rd_T53 l0 x7_1).f0))).setCell ⟨gb265, 1, none⟩ (.int .i64 ((rd_T53 l0 x7_1).f1)))).cell? _ = some _ from hx266_1)); clear hn266_0; clear hn266_1; replace p266 := eq_true p266; replace q266 := eq_true q266)); try go_wp2_with (first | ((with_reducible refine gate_dst (N := 4) rfl ?_); refine box_event ?hg (N := 4) ?hd (cs := #[.int .u64 0, .int .i64 0]) (t := 53) ?hr ?_; (case hd => rfl); (case hg => rfl); (case hr => first | (go_simp; done) | (go_simp; rfl)); intro gb265 hg w13 hbox hb; have n0_ := Aside0.mk (below_step (by repeat (first | (with_reducible first | exact HB.out | apply below_alloc | apply pw_below_drewN | apply below_drew1) | exact HB.out)) hb); have n1_ := Aside0.mk (hbox); have n2_ := Aside0.mk ((by rw [hg]; exact (below_size (by repeat (first | (with_reducible first | exact HB.out | apply below_alloc | apply pw_below_drewN | apply below_drew1) | exact HB.out))) : w.heap.size ≤ gb265)); have n3_ := Aside0.mk ((by rw [hg]; exact (below_size (by repeat (first | (with_reducible first | exact HB.out | apply below_alloc | apply pw_below_drewN | apply below_drew1) | exact HB.out))) : w.heap.size ≤ gb265)); clear HB; have HB := n0_; have BK265 := n1_; have GW265 := n2_; have GE265 := n3_; clear n0_ n1_ n2_ n3_; clear hb hbox hg; have hcz14_0 : w13.cell? ⟨gb265, 0, none⟩ = some (.int .u64 0) := (blk_cell BK265.out 0).trans rfl; have hcz14_1 : w13.cell? ⟨gb265, 1, none⟩ = some (.int .i64 0) := (blk_cell BK265.out 1).trans rfl; have hfz14_0 := blk_frozen BK265.out 0; have hfz14_1 := blk_frozen BK265.out 1; have p266 : 0 ≤ ((ji9) : Int) := of_decide_eq_true (by first | (with_reducible assumption) | assumption); have q266 : (ji9) < (l0.length : Int) := of_decide_eq_true (by first | (with_reducible assumption) | assumption); obtain ⟨ad266, e266, hx266_0, hx266_1⟩ := at_T53 HR0.out (ji9) p266 q266; obtain rfl : ad264 = ad266 := (by injection e266); have hn266_0 : ad264.block ≠ gb265 := Nat.ne_of_lt (Nat.lt_of_lt_of_le (by have := World.block_lt_of_cell? _ _ hx266_0; first | rwa [add_block] at this | exact this) GW265.out); have hn266_1 : ad264.block ≠ gb265 := Nat.ne_of_lt (Nat.lt_of_lt_of_le (by have := World.block_lt_of_cell? _ _ hx266_0; first | rwa [add_block] at this | exact this) GW265.out); replace hx266_0 := (HB.out.cell (World.block_lt_of_cell? w _ hx266_0)).trans hx266_0; replace hx266_1 := (HB.out.cell (World.block_lt_of_cell? w _ hx266_1)).trans hx266_1; replace hx266_0 := (cell_far (p := ⟨gb265, 0, none⟩) (by first | (rw [add_block]; exact hn266_0) | (show (Addr.add _ _).block ≠ _; rw [add_block]; exact hn266_0) | exact hn266_0) (.int .u64 ((rd_T53 l0 x7_1).f0))).trans hx266_0; replace hx266_1 := (cell_far (p := ⟨gb265, 0, none⟩) (by first | (rw [add_block]; exact hn266_0) | (show (Addr.add _ _).block ≠ _; rw [add_block]; exact hn266_0) | exact hn266_0) (.int .u64 ((rd_T53 l0 x7_1).f0))).trans hx266_1; replace hx266_0 := (cell_far (p := ⟨gb265, 1, none⟩) (by first | (rw [add_block]; exact hn266_1) | (show (Addr.add _ _).block ≠ _; rw [add_block]; exact hn266_1) | exact hn266_1) (.int .i64 ((rd_T53 l0 x7_1).f1))).trans hx266_0; replace hx266_1 := (cell_far (p := ⟨gb265, 1, none⟩) (by first | (rw [add_block]; exact hn266_1) | (show (Addr.add _ _).block ≠ _; rw [add_block]; exact hn266_1) | exact hn266_1) (.int .i64 ((rd_T53 l0 x7_1).f1))).trans hx266_1; (try have hy266_0 := fun (n_ : Nat) => (show ((((w13.drewN n_).setCell ⟨gb265, 0, none⟩ (.int .u64 ((rd_T53 l0 x7_1).f0))).setCell ⟨gb265, 1, none⟩ (.int .i64 ((rd_T53 l0 x7_1).f1)))).cell? _ = some _ from hx266_0)); (try have hy266_1 := fun (n_ : Nat) => (show ((((w13.drewN n_).setCell ⟨gb265, 0, none⟩ (.int .u64 ((rd_T53 l0 x7_1).f0))).setCell ⟨gb265, 1, none⟩ (.int .i64 ((rd_T53 l0 x7_1).f1)))).cell? _ = some _ from hx266_1)); clear hn266_0; clear hn266_1; replace p266 := eq_true p266; replace q266 := eq_true q266)))
                      go_ret
                      (try simp only [hji9])
                      exact ⟨by first | rfl | (simp [errW_none, errW_some] <;> rfl) | (simp only [← hji9]; first | rfl | (simp [errW_none, errW_some] <;> rfl)) | (simp [*, errW_none, errW_some] <;> rfl), by repeat (first | (with_reducible first | exact HB.out | apply below_alloc | apply pw_below_drewN | apply below_drew1 | refine below_set ?_ GE265.out) | exact HB.out)⟩
                    · rw [if_neg c12] at H
                      have c12b0 : (((rd_T53 l0 (ji9)).f0) == ((rd_T53 l0 x7_1).f0)) = false := beq_eq_false_iff_ne.mpr c12
                      have c12b1 : (((rd_T53 l0 (ji9)).f0) != ((rd_T53 l0 x7_1).f0)) = true := bne_iff_ne.mpr c12
                      have H' := Aside0.mk H
                      clear H
                      have p264 : 0 ≤ (x7_1 : Int) := of_decide_eq_true (by first | (with_reducible assumption) | assumption)
                      have q264 : x7_1 < (l0.length : Int) := of_decide_eq_true (by first | (with_reducible assumption) | assumption)
                      obtain ⟨ad264, e264, hx264_0, hx264_1⟩ := at_T53 HR0.out x7_1 p264 q264
                      cases e264
                      replace hx264_0 := (HB.out.cell (World.block_lt_of_cell? w _ hx264_0)).trans hx264_0
                      replace hx264_1 := (HB.out.cell (World.block_lt_of_cell? w _ hx264_1)).trans hx264_1
                      replace p264 := eq_true p264
                      replace q264 := eq_true q264
                      go_wp2_with (first | ((with_reducible refine gate_dst (N := 4) rfl ?_); refine box_event ?hg (N := 4) ?hd (cs := #[.int .u64 0, .int .i64 0]) (t := 53) ?hr ?_; (case hd => rfl); (case hg => rfl); (case hr => first | (go_simp; done) | (go_simp; rfl)); intro gb265 hg w15 hbox hb; have n0_ := Aside0.mk (below_step (by repeat (first | (with_reducible first | exact HB.out | apply below_alloc | apply pw_below_drewN | apply below_drew1) | exact HB.out)) hb); have n1_ := Aside0.mk (hbox); have n2_ := Aside0.mk ((by rw [hg]; exact (below_size (by repeat (first | (with_reducible first | exact HB.out | apply below_alloc | apply pw_below_drewN | apply below_drew1) | exact HB.out))) : w.heap.size ≤ gb265)); have n3_ := Aside0.mk ((by rw [hg]; exact (below_size (by repeat (first | (with_reducible first | exact HB.out | apply below_alloc | apply pw_below_drewN | apply below_drew1) | exact HB.out))) : w.heap.size ≤ gb265)); clear HB; have HB := n0_; have BK265 := n1_; have GW265 := n2_; have GE265 := n3_; clear n0_ n1_ n2_ n3_; clear hb hbox hg; have hcz16_0 : w15.cell? ⟨gb265, 0, none⟩ = some (.int .u64 0) := (blk_cell BK265.out 0).trans rfl; have hcz16_1 : w15.cell? ⟨gb265, 1, none⟩ = some (.int .i64 0) := (blk_cell BK265.out 1).trans rfl; have hfz16_0 := blk_frozen BK265.out 0; have hfz16_1 := blk_frozen BK265.out 1; have p266 : 0 ≤ ((ji9) : Int) := of_decide_eq_true (by first | (with_reducible assumption) | assumption); have q266 : (ji9) < (l0.length : Int) := of_decide_eq_true (by first | (with_reducible assumption) | assumption); obtain ⟨ad266, e266, hx266_0, hx266_1⟩ := at_T53 HR0.out (ji9) p266 q266; obtain rfl : ad264 = ad266 := (by injection e266); have hn266_0 : ad264.block ≠ gb265 := Nat.ne_of_lt (Nat.lt_of_lt_of_le (by have := World.block_lt_of_cell? _ _ hx266_0; first | rwa [add_block] at this | exact this) GW265.out); have hn266_1 : ad264.block ≠ gb265 := Nat.ne_of_lt (Nat.lt_of_lt_of_le (by have := World.block_lt_of_cell? _ _ hx266_0; first | rwa [add_block] at this | exact this) GW265.out); replace hx266_0 := (HB.out.cell (World.block_lt_of_cell? w _ hx266_0)).trans hx266_0; replace hx266_1 := (HB.out.cell (World.block_lt_of_cell? w _ hx266_1)).trans hx266_1; replace hx266_0 := (cell_far (p := ⟨gb265, 0, none⟩) (by first | (rw [add_block]; exact hn266_0) | (show (Addr.add _ _).block ≠ _; rw [add_block]; exact hn266_0) | exact hn266_0) (.int .u64 ((rd_T53 l0 x7_1).f0))).trans hx266_0; replace hx266_1 := (cell_far (p := ⟨gb265, 0, none⟩) (by first | (rw [add_block]; exact hn266_0) | (show (Addr.add _ _).block ≠ _; rw [add_block]; exact hn266_0) | exact hn266_0) (.int .u64 ((rd_T53 l0 x7_1).f0))).trans hx266_1; replace hx266_0 := (cell_far (p := ⟨gb265, 1, none⟩) (by first | (rw [add_block]; exact hn266_1) | (show (Addr.add _ _).block ≠ _; rw [add_block]; exact hn266_1) | exact hn266_1) (.int .i64 ((rd_T53 l0 x7_1).f1))).trans hx266_0; replace hx266_1 := (cell_far (p := ⟨gb265, 1, none⟩) (by first | (rw [add_block]; exact hn266_1) | (show (Addr.add _ _).block ≠ _; rw [add_block]; exact hn266_1) | exact hn266_1) (.int .i64 ((rd_T53 l0 x7_1).f1))).trans hx266_1; (try have hy266_0 := fun (n_ : Nat) => (show ((((w15.drewN n_).setCell ⟨gb265, 0, none⟩ (.int .u64 ((rd_T53 l0 x7_1).f0))).setCell ⟨gb265, 1, none⟩ (.int .i64 ((rd_T53 l0 x7_1).f1)))).cell? _ = some _ from hx266_0)); (try have hy266_1 := fun (n_ : Nat) => (show ((((w15.drewN n_).setCell ⟨gb265, 0, none⟩ (.int .u64 ((rd_T53 l0 x7_1).f0))).setCell ⟨gb265, 1, none⟩ (.int .i64 ((rd_T53 l0 x7_1).f1)))).cell? _ = some _ from hx266_1)); clear hn266_0; clear hn266_1; replace p266 := eq_true p266; replace q266 := eq_true q266))
                      repeat (go_quiet (first | ((with_reducible refine gate_dst (N := 4) rfl ?_); refine box_event ?hg (N := 4) ?hd (cs := #[.int .u64 0, .int .i64 0]) (t := 53) ?hr ?_; (case hd => rfl); (case hg => rfl); (case hr => first | (go_simp; done) | (go_simp; rfl)); intro gb265 hg w15 hbox hb; have n0_ := Aside0.mk (below_step (by repeat (first | (with_reducible first | exact HB.out | apply below_alloc | apply pw_below_drewN | apply below_drew1) | exact HB.out)) hb); have n1_ := Aside0.mk (hbox); have n2_ := Aside0.mk ((by rw [hg]; exact (below_size (by repeat (first | (with_reducible first | exact HB.out | apply below_alloc | apply pw_below_drewN | apply below_drew1) | exact HB.out))) : w.heap.size ≤ gb265)); have n3_ := Aside0.mk ((by rw [hg]; exact (below_size (by repeat (first | (with_reducible first | exact HB.out | apply below_alloc | apply pw_below_drewN | apply below_drew1) | exact HB.out))) : w.heap.size ≤ gb265)); clear HB; have HB := n0_; have BK265 := n1_; have GW265 := n2_; have GE265 := n3_; clear n0_ n1_ n2_ n3_; clear hb hbox hg; have hcz16_0 : w15.cell? ⟨gb265, 0, none⟩ = some (.int .u64 0) := (blk_cell BK265.out 0).trans rfl; have hcz16_1 : w15.cell? ⟨gb265, 1, none⟩ = some (.int .i64 0) := (blk_cell BK265.out 1).trans rfl; have hfz16_0 := blk_frozen BK265.out 0; have hfz16_1 := blk_frozen BK265.out 1; have p266 : 0 ≤ ((ji9) : Int) := of_decide_eq_true (by first | (with_reducible assumption) | assumption); have q266 : (ji9) < (l0.length : Int) := of_decide_eq_true (by first | (with_reducible assumption) | assumption); obtain ⟨ad266, e266, hx266_0, hx266_1⟩ := at_T53 HR0.out (ji9) p266 q266; obtain rfl : ad264 = ad266 := (by injection e266); have hn266_0 : ad264.block ≠ gb265 := Nat.ne_of_lt (Nat.lt_of_lt_of_le (by have := World.block_lt_of_cell? _ _ hx266_0; first | rwa [add_block] at this | exact this) GW265.out); have hn266_1 : ad264.block ≠ gb265 := Nat.ne_of_lt (Nat.lt_of_lt_of_le (by have := World.block_lt_of_cell? _ _ hx266_0; first | rwa [add_block] at this | exact this) GW265.out); replace hx266_0 := (HB.out.cell (World.block_lt_of_cell? w _ hx266_0)).trans hx266_0; replace hx266_1 := (HB.out.cell (World.block_lt_of_cell? w _ hx266_1)).trans hx266_1; replace hx266_0 := (cell_far (p := ⟨gb265, 0, none⟩) (by first | (rw [add_block]; exact hn266_0) | (show (Addr.add _ _).block ≠ _; rw [add_block]; exact hn266_0) | exact hn266_0) (.int .u64 ((rd_T53 l0 x7_1).f0))).trans hx266_0; replace hx266_1 := (cell_far (p := ⟨gb265, 0, none⟩) (by first | (rw [add_block]; exact hn266_0) | (show (Addr.add _ _).block ≠ _; rw [add_block]; exact hn266_0) | exact hn266_0) (.int .u64 ((rd_T53 l0 x7_1).f0))).trans hx266_1; replace hx266_0 := (cell_far (p := ⟨gb265, 1, none⟩) (by first | (rw [add_block]; exact hn266_1) | (show (Addr.add _ _).block ≠ _; rw [add_block]; exact hn266_1) | exact hn266_1) (.int .i64 ((rd_T53 l0 x7_1).f1))).trans hx266_0; replace hx266_1 := (cell_far (p := ⟨gb265, 1, none⟩) (by first | (rw [add_block]; exact hn266_1) | (show (Addr.add _ _).block ≠ _; rw [add_block]; exact hn266_1) | exact hn266_1) (.int .i64 ((rd_T53 l0 x7_1).f1))).trans hx266_1; (try have hy266_0 := fun (n_ : Nat) => (show ((((w15.drewN n_).setCell ⟨gb265, 0, none⟩ (.int .u64 ((rd_T53 l0 x7_1).f0))).setCell ⟨gb265, 1, none⟩ (.int .i64 ((rd_T53 l0 x7_1).f1)))).cell? _ = some _ from hx266_0)); (try have hy266_1 := fun (n_ : Nat) => (show ((((w15.drewN n_).setCell ⟨gb265, 0, none⟩ (.int .u64 ((rd_T53 l0 x7_1).f0))).setCell ⟨gb265, 1, none⟩ (.int .i64 ((rd_T53 l0 x7_1).f1)))).cell? _ = some _ from hx266_1)); clear hn266_0; clear hn266_1; replace p266 := eq_true p266; replace q266 := eq_true q266)); try go_wp2_with (first | ((with_reducible refine gate_dst (N := 4) rfl ?_); refine box_event ?hg (N := 4) ?hd (cs := #[.int .u64 0, .int .i64 0]) (t := 53) ?hr ?_; (case hd => rfl); (case hg => rfl); (case hr => first | (go_simp; done) | (go_simp; rfl)); intro gb265 hg w15 hbox hb; have n0_ := Aside0.mk (below_step (by repeat (first | (with_reducible first | exact HB.out | apply below_alloc | apply pw_below_drewN | apply below_drew1) | exact HB.out)) hb); have n1_ := Aside0.mk (hbox); have n2_ := Aside0.mk ((by rw [hg]; exact (below_size (by repeat (first | (with_reducible first | exact HB.out | apply below_alloc | apply pw_below_drewN | apply below_drew1) | exact HB.out))) : w.heap.size ≤ gb265)); have n3_ := Aside0.mk ((by rw [hg]; exact (below_size (by repeat (first | (with_reducible first | exact HB.out | apply below_alloc | apply pw_below_drewN | apply below_drew1) | exact HB.out))) : w.heap.size ≤ gb265)); clear HB; have HB := n0_; have BK265 := n1_; have GW265 := n2_; have GE265 := n3_; clear n0_ n1_ n2_ n3_; clear hb hbox hg; have hcz16_0 : w15.cell? ⟨gb265, 0, none⟩ = some (.int .u64 0) := (blk_cell BK265.out 0).trans rfl; have hcz16_1 : w15.cell? ⟨gb265, 1, none⟩ = some (.int .i64 0) := (blk_cell BK265.out 1).trans rfl; have hfz16_0 := blk_frozen BK265.out 0; have hfz16_1 := blk_frozen BK265.out 1; have p266 : 0 ≤ ((ji9) : Int) := of_decide_eq_true (by first | (with_reducible assumption) | assumption); have q266 : (ji9) < (l0.length : Int) := of_decide_eq_true (by first | (with_reducible assumption) | assumption); obtain ⟨ad266, e266, hx266_0, hx266_1⟩ := at_T53 HR0.out (ji9) p266 q266; obtain rfl : ad264 = ad266 := (by injection e266); have hn266_0 : ad264.block ≠ gb265 := Nat.ne_of_lt (Nat.lt_of_lt_of_le (by have := World.block_lt_of_cell? _ _ hx266_0; first | rwa [add_block] at this | exact this) GW265.out); have hn266_1 : ad264.block ≠ gb265 := Nat.ne_of_lt (Nat.lt_of_lt_of_le (by have := World.block_lt_of_cell? _ _ hx266_0; first | rwa [add_block] at this | exact this) GW265.out); replace hx266_0 := (HB.out.cell (World.block_lt_of_cell? w _ hx266_0)).trans hx266_0; replace hx266_1 := (HB.out.cell (World.block_lt_of_cell? w _ hx266_1)).trans hx266_1; replace hx266_0 := (cell_far (p := ⟨gb265, 0, none⟩) (by first | (rw [add_block]; exact hn266_0) | (show (Addr.add _ _).block ≠ _; rw [add_block]; exact hn266_0) | exact hn266_0) (.int .u64 ((rd_T53 l0 x7_1).f0))).trans hx266_0; replace hx266_1 := (cell_far (p := ⟨gb265, 0, none⟩) (by first | (rw [add_block]; exact hn266_0) | (show (Addr.add _ _).block ≠ _; rw [add_block]; exact hn266_0) | exact hn266_0) (.int .u64 ((rd_T53 l0 x7_1).f0))).trans hx266_1; replace hx266_0 := (cell_far (p := ⟨gb265, 1, none⟩) (by first | (rw [add_block]; exact hn266_1) | (show (Addr.add _ _).block ≠ _; rw [add_block]; exact hn266_1) | exact hn266_1) (.int .i64 ((rd_T53 l0 x7_1).f1))).trans hx266_0; replace hx266_1 := (cell_far (p := ⟨gb265, 1, none⟩) (by first | (rw [add_block]; exact hn266_1) | (show (Addr.add _ _).block ≠ _; rw [add_block]; exact hn266_1) | exact hn266_1) (.int .i64 ((rd_T53 l0 x7_1).f1))).trans hx266_1; (try have hy266_0 := fun (n_ : Nat) => (show ((((w15.drewN n_).setCell ⟨gb265, 0, none⟩ (.int .u64 ((rd_T53 l0 x7_1).f0))).setCell ⟨gb265, 1, none⟩ (.int .i64 ((rd_T53 l0 x7_1).f1)))).cell? _ = some _ from hx266_0)); (try have hy266_1 := fun (n_ : Nat) => (show ((((w15.drewN n_).setCell ⟨gb265, 0, none⟩ (.int .u64 ((rd_T53 l0 x7_1).f0))).setCell ⟨gb265, 1, none⟩ (.int .i64 ((rd_T53 l0 x7_1).f1)))).cell? _ = some _ from hx266_1)); clear hn266_0; clear hn266_1; replace p266 := eq_true p266; replace q266 := eq_true q266)))
                      go_roundg k1
                      case measure => have := HK1.out; omega
                      case rel => exact ⟨(wrap64 (x7_1 + 1)), (by first | rfl | (simp; done) | (simp [*]; done)), H', ⟨by have := HK1.out; omega⟩, ⟨by repeat (first | (with_reducible first | exact HB.out | apply below_alloc | apply pw_below_drewN | apply below_drew1 | refine below_set ?_ GE265.out) | exact HB.out)⟩⟩
                  · rw [if_neg c11] at H
                    exact absurd H (by simp)
                · rw [if_neg c10] at H
                  exact absurd H (by simp)
              · rw [if_neg c8] at H
                have c8b0 : decide (0 < x7_1) = false := decide_eq_false c8
                clear c8
                have H' := Aside0.mk H
                clear H
                have p264 : 0 ≤ (x7_1 : Int) := of_decide_eq_true (by first | (with_reducible assumption) | assumption)
                have q264 : x7_1 < (l0.length : Int) := of_decide_eq_true (by first | (with_reducible assumption) | assumption)
                obtain ⟨ad264, e264, hx264_0, hx264_1⟩ := at_T53 HR0.out x7_1 p264 q264
                cases e264
                replace hx264_0 := (HB.out.cell (World.block_lt_of_cell? w _ hx264_0)).trans hx264_0
                replace hx264_1 := (HB.out.cell (World.block_lt_of_cell? w _ hx264_1)).trans hx264_1
                replace p264 := eq_true p264
                replace q264 := eq_true q264
                go_wp2_with (first | ((with_reducible refine gate_dst (N := 4) rfl ?_); refine box_event ?hg (N := 4) ?hd (cs := #[.int .u64 0, .int .i64 0]) (t := 53) ?hr ?_; (case hd => rfl); (case hg => rfl); (case hr => first | (go_simp; done) | (go_simp; rfl)); intro gb265 hg w17 hbox hb; have n0_ := Aside0.mk (below_step (by repeat (first | (with_reducible first | exact HB.out | apply below_alloc | apply pw_below_drewN | apply below_drew1) | exact HB.out)) hb); have n1_ := Aside0.mk (hbox); have n2_ := Aside0.mk ((by rw [hg]; exact (below_size (by repeat (first | (with_reducible first | exact HB.out | apply below_alloc | apply pw_below_drewN | apply below_drew1) | exact HB.out))) : w.heap.size ≤ gb265)); have n3_ := Aside0.mk ((by rw [hg]; exact (below_size (by repeat (first | (with_reducible first | exact HB.out | apply below_alloc | apply pw_below_drewN | apply below_drew1) | exact HB.out))) : w.heap.size ≤ gb265)); clear HB; have HB := n0_; have BK265 := n1_; have GW265 := n2_; have GE265 := n3_; clear n0_ n1_ n2_ n3_; clear hb hbox hg; have hcz18_0 : w17.cell? ⟨gb265, 0, none⟩ = some (.int .u64 0) := (blk_cell BK265.out 0).trans rfl; have hcz18_1 : w17.cell? ⟨gb265, 1, none⟩ = some (.int .i64 0) := (blk_cell BK265.out 1).trans rfl; have hfz18_0 := blk_frozen BK265.out 0; have hfz18_1 := blk_frozen BK265.out 1))
                repeat (go_quiet (first | ((with_reducible refine gate_dst (N := 4) rfl ?_); refine box_event ?hg (N := 4) ?hd (cs := #[.int .u64 0, .int .i64 0]) (t := 53) ?hr ?_; (case hd => rfl); (case hg => rfl); (case hr => first | (go_simp; done) | (go_simp; rfl)); intro gb265 hg w17 hbox hb; have n0_ := Aside0.mk (below_step (by repeat (first | (with_reducible first | exact HB.out | apply below_alloc | apply pw_below_drewN | apply below_drew1) | exact HB.out)) hb); have n1_ := Aside0.mk (hbox); have n2_ := Aside0.mk ((by rw [hg]; exact (below_size (by repeat (first | (with_reducible first | exact HB.out | apply below_alloc | apply pw_below_drewN | apply below_drew1) | exact HB.out))) : w.heap.size ≤ gb265)); have n3_ := Aside0.mk ((by rw [hg]; exact (below_size (by repeat (first | (with_reducible first | exact HB.out | apply below_alloc | apply pw_below_drewN | apply below_drew1) | exact HB.out))) : w.heap.size ≤ gb265)); clear HB; have HB := n0_; have BK265 := n1_; have GW265 := n2_; have GE265 := n3_; clear n0_ n1_ n2_ n3_; clear hb hbox hg; have hcz18_0 : w17.cell? ⟨gb265, 0, none⟩ = some (.int .u64 0) := (blk_cell BK265.out 0).trans rfl; have hcz18_1 : w17.cell? ⟨gb265, 1, none⟩ = some (.int .i64 0) := (blk_cell BK265.out 1).trans rfl; have hfz18_0 := blk_frozen BK265.out 0; have hfz18_1 := blk_frozen BK265.out 1)); try go_wp2_with (first | ((with_reducible refine gate_dst (N := 4) rfl ?_); refine box_event ?hg (N := 4) ?hd (cs := #[.int .u64 0, .int .i64 0]) (t := 53) ?hr ?_; (case hd => rfl); (case hg => rfl); (case hr => first | (go_simp; done) | (go_simp; rfl)); intro gb265 hg w17 hbox hb; have n0_ := Aside0.mk (below_step (by repeat (first | (with_reducible first | exact HB.out | apply below_alloc | apply pw_below_drewN | apply below_drew1) | exact HB.out)) hb); have n1_ := Aside0.mk (hbox); have n2_ := Aside0.mk ((by rw [hg]; exact (below_size (by repeat (first | (with_reducible first | exact HB.out | apply below_alloc | apply pw_below_drewN | apply below_drew1) | exact HB.out))) : w.heap.size ≤ gb265)); have n3_ := Aside0.mk ((by rw [hg]; exact (below_size (by repeat (first | (with_reducible first | exact HB.out | apply below_alloc | apply pw_below_drewN | apply below_drew1) | exact HB.out))) : w.heap.size ≤ gb265)); clear HB; have HB := n0_; have BK265 := n1_; have GW265 := n2_; have GE265 := n3_; clear n0_ n1_ n2_ n3_; clear hb hbox hg; have hcz18_0 : w17.cell? ⟨gb265, 0, none⟩ = some (.int .u64 0) := (blk_cell BK265.out 0).trans rfl; have hcz18_1 : w17.cell? ⟨gb265, 1, none⟩ = some (.int .i64 0) := (blk_cell BK265.out 1).trans rfl; have hfz18_0 := blk_frozen BK265.out 0; have hfz18_1 := blk_frozen BK265.out 1)))
                go_roundg k1
                case measure => have := HK1.out; omega
                case rel => exact ⟨(wrap64 (x7_1 + 1)), (by first | rfl | (simp; done) | (simp [*]; done)), H', ⟨by have := HK1.out; omega⟩, ⟨by repeat (first | (with_reducible first | exact HB.out | apply below_alloc | apply pw_below_drewN | apply below_drew1 | refine below_set ?_ GE265.out) | exact HB.out)⟩⟩
          · rw [if_neg c4] at H
            exact absurd H (by simp)
        · rw [if_neg c3] at H
          exact absurd H (by simp)
      · rw [if_neg c2] at H
        have c2b0 : decide (x7_1 < (l0.length : Int)) = false := decide_eq_false c2
        clear c2
        obtain rfl := Option.some.inj H
        go_wp2
        repeat (go_quiet (fail); try go_wp2)
        go_ret
        exact ⟨by first | rfl | (simp [errW_none, errW_some] <;> rfl) | (simp [*, errW_none, errW_some] <;> rfl), by repeat (first | (with_reducible first | exact HB.out | apply below_alloc | apply pw_below_drewN | apply below_drew1) | exact HB.out)⟩
def slices_Repeat_uint64_uint64.f (l0 : List Int) (a1 : Int) : Option (List Int) := if l0.length = 1 then (if 0 ≤ a1 ∧ a1 ≤ 1000000 then some (List.replicate a1.toNat (rd l0 0)) else none) else none
set_option maxHeartbeats 8000000 in
set_option maxRecDepth 100000 in
theorem slices_Repeat_uint64_uint64.calls (A0 : Option Addr) (c0 : Nat) (l0 : List Int) (a1 : Int) (r : List Int) (w : World) (hr0 : Kd.C (Kd.int .u64) w A0 l0.length l0) (hc0 : l0.length ≤ c0) (h : slices_Repeat_uint64_uint64.f l0 a1 = some r) :
    Calls Try.prog 88 #[.slice A0 l0.length c0, .int .i64 a1] w fun e w' => ∃ v0_ : Value, e = .returned (v0_) ∧ Kd.R (Kd.int .u64) 51 w' w.heap.size (fun _ => True) v0_ r ∧ Below w.heap.size w w' := by
  unfold slices_Repeat_uint64_uint64.f at h
  by_cases hl : l0.length = 1
  case neg => rw [if_neg hl] at h; exact absurd h (by simp)
  rw [if_pos hl] at h
  by_cases ha : 0 ≤ a1 ∧ a1 ≤ 1000000
  case neg => rw [if_neg ha] at h; exact absurd h (by simp)
  rw [if_pos ha] at h
  obtain rfl := Option.some.inj h
  clear h
  have c1 : decide (a1 < 0) = false := decide_eq_false (by omega)
  have hm : ∀ w : World, Calls Try.prog 102 #[.int .u64 1, .int .u64 a1] w fun e w' => e = .returned (.tuple #[.int .u64 0, .int .u64 a1]) ∧ w' = w := fun w => by
    have m := Try.bits_Mul 1 a1.toNat (by omega) (by omega) w
    rw [show 1 * a1.toNat / 18446744073709551616 = 0 by omega, show 1 * a1.toNat % 18446744073709551616 = a1.toNat by omega] at m
    rw [Int.toNat_of_nonneg ha.1] at m
    exact m
  have c2 : decide (9223372036854775807 < a1) = false := decide_eq_false (by omega)
  obtain ⟨i0, hi, hz0, hz1, hz2⟩ := info_parts info51
  obtain ⟨N, hN⟩ : ∃ N, N = a1.toNat := ⟨_, rfl⟩
  have hmk : ∀ w, (Instr.makeSlice 38 (.int .i64 a1) (.int .i64 a1)).run Try.prog w = .ok (.slice (some ⟨w.heap.size, 0, none⟩) N N) (w.alloc (.cells (List.replicate N (Value.int .u64 0)).toArray 51)) := fun w => by
    have h := run_make (P := Try.prog) w 38 51 i0 _ Try.underlying38 hi hz0 .i64 .i64 a1 a1 ha.1 (Int.le_refl _) (by rw [hz2]; omega) (by omega)
    rw [h, ← hN, hz1]
    congr 2
    congr 1
    apply Array.ext
    · simp [madeCells]
    · intro j h1 h2
      simp [madeCells, Value.cells, Nat.mod_one]
  have hN' := Aside0.mk hN
  have HMK := Aside0.mk hmk
  clear hmk
  have hszE : (Try.prog.info? 51).map (·.size) = some 1 := by rw [hi]; simp [hz1]
  obtain ⟨X, rfl⟩ := List.length_eq_one_iff.mp hl
  obtain ⟨A, hA⟩ : ∃ A, A0 = some A ∧ w.cell? A = some (.int .u64 X) := by
    obtain ⟨ad, e, hx⟩ := Kd.at_int hr0 0 (by omega) (by simp)
    exact ⟨ad, e, by simpa [Addr.add, rd] using hx⟩
  obtain ⟨rfl, hcell⟩ := hA
  clear hN hl
  have hu38 := Try.underlying38
  have hAlt : A.block < w.heap.size := by
    rcases Nat.lt_or_ge A.block w.heap.size with h' | h'
    · exact h'
    · simp [World.cell?, Array.getElem?_eq_none h'] at hcell
  have hcp : ∀ w3, Below w.heap.size w w3 → ∀ (j : Nat) v, (List.replicate (Nat.min 1 N) (Value.int .u64 X))[j]? = some v → w3.cell? (A.add j) = some v := fun w3 hb j v hv => by
    rw [List.getElem?_replicate] at hv
    split at hv
    · rename_i hj
      obtain rfl : j = 0 := by have h_ : Nat.min 1 N ≤ 1 := Nat.min_le_left 1 N; omega
      obtain rfl := Option.some.inj hv
      rw [show A.add 0 = A by simp [Addr.add], hb.cell hAlt]
      exact hcell
    · cases hv
  show Calls Try.prog 88 #[.slice (some A) 1 c0, .int .i64 a1] w _
  go_enter Try.func88, Try.ntmps88
  go_wp2_with (first | (go_at_call 102; (with_reducible refine (hm _).mono ?_); rintro e w2 ⟨rfl, rfl⟩) | ((with_reducible refine gate_dst (N := 30) rfl ?_); (refine Build.make_event rfl (D := 30) rfl (cs := (List.replicate N (Value.int .u64 0)).toArray) (t := 51) N N ?hr ?_); (case hr => (have h_ := HMK.out w2); first | (go_simp; done) | (go_simp; rfl) | (go_simp; rw [h_]; rfl)); intro g hg w3 hblk hb; subst hg) | ((with_reducible refine gate_dst (N := 33) rfl ?_); (refine wpList_copy_splice rfl (.tmp 31) (.tmp 32) 38 38 rfl 51 Try.underlying38 hszE _ _ _ _ _ _ rfl rfl w2.heap.size 0 (List.replicate N (.int .u64 0)) 51 (by first | exact hblk | simpa using hblk) (List.replicate (Nat.min 1 N) (.int .u64 X)) (by simp) ?hpos ?hfit ?h1 w2.heap.size w2 hb (Nat.le_refl _) ?_); (case hpos => intro h0_; exact ⟨rfl, A, rfl, fun j v hv => hcp w3 hb j v hv⟩); (case hfit => simp only [List.length_replicate, Nat.zero_add]; exact Nat.min_le_right 1 N); (case h1 => intro v hv; rw [List.eq_of_mem_replicate hv]; rfl); intro w4 hblk4 hb4))
  have HBK := Aside0.mk hblk4
  have HB4 := Aside0.mk hb4
  clear hblk4 hb4 hcp hblk hb
  obtain ⟨Z, hZ⟩ : ∃ Z, Z = Value.int .u64 0 := ⟨_, rfl⟩
  go_loopg [8] (N + 1) (fun kq v8 w' => ∃ n9 : Int, v8 = .int .i64 n9 ∧ Aside0 (0 ≤ n9 ∧ n9 ≤ N ∧ (N : Int) + 1 ≤ kq + n9 ∧ (0 < N → 1 ≤ n9)) ∧ Aside0 (w'.heap[w2.heap.size]? = some (.cells (List.replicate n9.toNat (Value.int .u64 X) ++ List.replicate (N - n9.toNat) (Value.int .u64 0)).toArray 51 (0, 0))) ∧ Aside0 (Below w2.heap.size w2 w'))
  case atStart =>
    refine ⟨((Nat.min 1 N : Nat) : Int), (by first | rfl | (simp; done) | (simp [goInt]; done)), ⟨by have h1_ : Nat.min 1 N ≤ N := Nat.min_le_right 1 N; have h2_ : 0 < N → Nat.min 1 N = 1 := fun h => Nat.min_eq_left h; omega⟩, ⟨?_⟩, HB4⟩
    refine Eq.trans HBK.out ?_
    congr 2
    simp [splice]
  case round =>
    clear HBK HB4
    obtain ⟨n9, rfl, HK, HBK, HB⟩ := hrel
    cases gk with
    | zero => have := HK.out; exact absurd this (by omega)
    | succ k1 =>
      by_cases hi9 : n9 < (N : Int)
      · have d5 : decide (n9 < (N : Int)) = true := decide_eq_true hi9
        have hk9 := HK.out
        have p9 : 0 ≤ n9 := by omega
        have q9 : n9 ≤ (N : Int) := by omega
        have hne := eq_false (show ¬ N = n9.toNat by omega)
        have hm1 : Nat.min n9.toNat (N - n9.toNat) ≤ n9.toNat := Nat.min_le_left _ _
        have hm2 : Nat.min n9.toNat (N - n9.toNat) ≤ N - n9.toNat := Nat.min_le_right _ _
        have hm3 : 0 < Nat.min n9.toNat (N - n9.toNat) := by rw [show ∀ a b, Nat.min a b = min a b from fun _ _ => rfl]; omega
        have hsrc : ∀ (j : Nat) v, (List.replicate (Nat.min n9.toNat (N - n9.toNat)) (Value.int .u64 X))[j]? = some v → wr.cell? (Addr.add ⟨w2.heap.size, 0, none⟩ j) = some v := fun j v hv => by
          rw [List.getElem?_replicate] at hv
          split at hv
          · rename_i hj
            obtain rfl := Option.some.inj hv
            rw [show Addr.add ⟨w2.heap.size, 0, none⟩ j = ⟨w2.heap.size, j, none⟩ by unfold Addr.add; split <;> simp_all]
            unfold World.cell?
            simp only [HBK.out]
            have hjn : j < n9.toNat := by omega
            simp [List.getElem?_append_left, hjn]
          · cases hv
        obtain ⟨M, hM⟩ : ∃ M, M = Nat.min n9.toNat (N - n9.toNat) := ⟨_, rfl⟩
        rw [← hM] at hm1 hm2 hm3 hsrc
        have hM' := Aside0.mk hM
        clear hM
        go_wp2
        go_region_law (refine step_copy_splice rfl (.tmp 41) (.tmp 44) 38 38 rfl 51 Try.underlying38 hszE (some ⟨w2.heap.size, n9.toNat, none⟩) (some ⟨w2.heap.size, 0, none⟩) (N - n9.toNat) (N - n9.toNat) n9.toNat N (by simp [Act.eval, Act.put, hne]) (by simp [Act.eval, Act.put]) w2.heap.size n9.toNat (List.replicate n9.toNat (Value.int .u64 X) ++ List.replicate (N - n9.toNat) (Value.int .u64 0)) 51 HBK.out (List.replicate M (Value.int .u64 X)) (by rw [List.length_replicate]; exact hM'.out) (fun _ => ⟨rfl, _, rfl, hsrc⟩) (by simp only [List.length_append, List.length_replicate]; omega) (fun v hv => by rw [List.eq_of_mem_replicate hv]; rfl) w2.heap.size w2 (by first | exact HB.out | exact below_drew1 HB.out) (Nat.le_refl _) ?_; intro w4 hg4 hb4)
        have hw : IntKind.i64.wrap (n9 + (M : Int)) = n9 + (M : Int) := by rw [IntKind.wrap_i64]; have := hN'.out; omega
        go_wp2
        go_roundg k1
        case measure => omega
        case rel =>
          refine ⟨n9 + (M : Int), (by first | rfl | (simp; done) | (simp [hw]; done) | (simp [goInt, hw]; done)), ⟨by omega⟩, ⟨Eq.trans hg4 ?_⟩, ⟨hb4⟩⟩
          have e1 : (n9 + (M : Int)).toNat = n9.toNat + M := by omega
          rw [e1]
          congr 2
          unfold splice
          rw [List.length_replicate, List.take_left' (List.length_replicate ..), ← List.drop_drop, List.drop_left' (List.length_replicate ..), List.drop_replicate, ← List.append_assoc, List.replicate_append_replicate, show N - n9.toNat - M = N - (n9.toNat + M) by omega]
      · have d5 : decide (n9 < (N : Int)) = false := decide_eq_false hi9
        have hk9 := HK.out
        go_wp2
        go_ret
        have hn9 : n9.toNat = N := by omega
        refine ⟨_, rfl, Kd.R_of_own (enc := Value.int .u64) (h1 := fun _ => rfl) ?_ (fun _ _ => trivial), HB.out⟩
        have hb9 := HBK.out
        rw [hn9, Nat.sub_self] at hb9
        have hNN := hN'.out
        refine ⟨by simp [encs], .inr ⟨w2.heap.size, N, _, by simp [← hNN], Nat.le_refl _, hb9, by simp [← hNN], by unfold maxLen; omega, by simp, by simp [encs, ← hNN, rd]⟩⟩
end Go.Proofs.Ytbgjoiccehiglaa.Print
end
section
namespace Go.Proofs.Ytbgjoiccehiglaa.Print
open Go.RowKit Go.Proofs.YtbgjoiccehiglaaW.PrintWords Go.Proofs.YtbgjoiccehiglaaW.PrintLast Go.Proofs.YtbgjoiccehiglaaW.PrintMore
attribute [local go_sem] max2_int min2_int max_two min_two max_three min_three max_four min_four
set_option linter.unusedVariables false
set_option linter.unusedSimpArgs false
attribute [local go_sem high] eqA53
mutual
def runs_Spread.j0 : Nat → List (S53) → Int → Bool → Option (List Int × Bool)
  | 0, _, _, _ => none
  | k + 1, x0, x1, x15 => if x15 = true then (some (([] : List Int), false)) else (runs_Spread.l0 k x1 ([] : List Int) x0 (x0.length : Int) 0)
def runs_Spread.l0 : Nat → Int → List Int → List (S53) → Int → Int → Option (List Int × Bool)
  | 0, _, _, _, _, _ => none
  | k + 1, x1, x6, x16, x17, x18 => if x18 < x17 then (if 0 ≤ x18 then (if x18 < (x16.length : Int) then (if ((rd_T53 x16 x18).f1) > (wrap64 (x1 - (x6.length : Int))) then (some (([] : List Int), false)) else ((slices_Repeat_uint64_uint64.f (([(rd_T53 x16 x18).f0] : List Int)) ((rd_T53 x16 x18).f1)).bind fun t275 => (if x6.length + t275.length < 17592186044416 then (runs_Spread.l0 k x1 (x6 ++ t275) x16 x17 (wrap64 (x18 + 1))) else (none)))) else (none)) else (none)) else (some (x6, true))
end
def runs_Spread.f (k : Nat) (l0 : List (S53)) (a1 : Int) : Option (List Int × Bool) := (runs_May.f k l0).bind fun t269 => (if t269 = true then (runs_Spread.j0 k l0 a1 (decide (a1 < 0))) else (runs_Spread.j0 k l0 a1 true))
theorem runs_Spread.mono_l : ∀ k, (∀ y0 y1 y2, LeO (runs_Spread.j0 k y0 y1 y2) (runs_Spread.j0 (k + 1) y0 y1 y2)) ∧ (∀ y0 y1 y2 y3 y4, LeO (runs_Spread.l0 k y0 y1 y2 y3 y4) (runs_Spread.l0 (k + 1) y0 y1 y2 y3 y4))
  | 0 => ⟨fun _ _ _ r h => by simp [runs_Spread.j0] at h, fun _ _ _ _ _ r h => by simp [runs_Spread.l0] at h⟩
  | k + 1 => by
    obtain ⟨ih0, ih1⟩ := runs_Spread.mono_l k
    refine ⟨?_, ?_⟩
    · intro y0 y1 y2
      unfold runs_Spread.j0
      repeat' first
      | (with_reducible exact ih0 _ _ _)
      | (with_reducible exact ih1 _ _ _ _ _)
      | (with_reducible exact runs_May.mono _ _)
      | (with_reducible exact LeO.refl _)
      | (with_reducible exact LeO.none _)
      | (with_reducible refine LeO.ite ?_ ?_)
      | (with_reducible refine LeO.bind ?_ (fun _ => ?_))
      | exact ih0 _ _ _
      | exact ih1 _ _ _ _ _
      | exact runs_May.mono _ _
      | exact LeO.none _
      | refine LeO.ite ?_ ?_
      | refine LeO.bind ?_ (fun _ => ?_)
    · intro y0 y1 y2 y3 y4
      unfold runs_Spread.l0
      repeat' first
      | (with_reducible exact ih0 _ _ _)
      | (with_reducible exact ih1 _ _ _ _ _)
      | (with_reducible exact runs_May.mono _ _)
      | (with_reducible exact LeO.refl _)
      | (with_reducible exact LeO.none _)
      | (with_reducible refine LeO.ite ?_ ?_)
      | (with_reducible refine LeO.bind ?_ (fun _ => ?_))
      | exact ih0 _ _ _
      | exact ih1 _ _ _ _ _
      | exact runs_May.mono _ _
      | exact LeO.none _
      | refine LeO.ite ?_ ?_
      | refine LeO.bind ?_ (fun _ => ?_)
theorem runs_Spread.mono : ∀ a0 a1 k, LeO (runs_Spread.f k a0 a1) (runs_Spread.f (k + 1) a0 a1) := by
  intro a0 a1 k
  obtain ⟨ih0, ih1⟩ := runs_Spread.mono_l k
  unfold runs_Spread.f
  repeat' first
      | (with_reducible exact ih0 _ _ _)
      | (with_reducible exact ih1 _ _ _ _ _)
      | (with_reducible exact runs_May.mono _ _)
      | (with_reducible exact LeO.refl _)
      | (with_reducible exact LeO.none _)
      | (with_reducible refine LeO.ite ?_ ?_)
      | (with_reducible refine LeO.bind ?_ (fun _ => ?_))
      | exact ih0 _ _ _
      | exact ih1 _ _ _ _ _
      | exact runs_May.mono _ _
      | exact LeO.none _
      | refine LeO.ite ?_ ?_
      | refine LeO.bind ?_ (fun _ => ?_)
set_option maxHeartbeats 8000000 in
set_option maxRecDepth 100000 in
theorem runs_Spread.calls (k : Nat) (A0 : Option Addr) (c0 : Nat) (l0 : List (S53)) (a1 : Int) (r1 : List Int) (r2 : Bool) (w : World) (hr0 : Kd.C k53 w A0 l0.length l0) (hc0 : l0.length ≤ c0) (h : runs_Spread.f k l0 a1 = some (r1, r2)) :
    Calls Try.prog 39 #[.slice A0 l0.length c0, .int .i64 a1] w fun e w' => ∃ v0_ : Value, e = .returned (.tuple #[v0_, .bool r2]) ∧ Kd.R (Kd.int .u64) 51 w' w.heap.size (fun _ => True) v0_ r1 ∧ Below w.heap.size w w' := by
  have hu53 := Try.underlying53
  have HR0 := Aside0.mk hr0
  have HC0 := Aside0.mk hc0
  clear hr0 hc0
  have HB := Aside0.mk (Below.refl w.heap.size w)
  have H : ((runs_May.f k l0).bind fun t269 => (if t269 = true then (runs_Spread.j0 k l0 a1 (decide (a1 < 0))) else (runs_Spread.j0 k l0 a1 true))) = some (r1, r2) := h
  clear h
  have HC3 := Aside0.mk H
  clear H
  go_enter Try.func39, Try.ntmps39
  go_upto_region 1 with (fail)
  go_cut [15] (fun v15 wc => ∃ (kq : Nat) (x15_2 : Bool), v15 = .bool x15_2 ∧ Aside0 (runs_Spread.j0 kq l0 a1 x15_2 = some (r1, r2)) ∧ Aside0 (kq ≤ k) ∧ Aside0 (Below w.heap.size w wc))
  case first =>
    have H := HC3.out
    clear HC3
    replace H := Option.bind_eq_some_iff.mp H
    obtain ⟨t269, A40, H⟩ := H
    replace H : (if t269 = true then (runs_Spread.j0 k l0 a1 (decide (a1 < 0))) else (runs_Spread.j0 k l0 a1 true)) = some (r1, r2) := H
    have A4 := Aside0.mk A40
    clear A40
    by_cases c5 : t269 = true
    · subst c5
      have H1 : (runs_Spread.j0 k l0 a1 (decide (a1 < 0))) = some (r1, r2) := by rw [if_pos rfl] at H; exact H
      clear H
      have H := H1
      clear H1
      have H' := Aside0.mk H
      clear H
      go_wp2_with (first | ((with_reducible refine gate_callee (f := 46) rfl ?_); refine goesL_ (some 10) rfl rfl Try.func46 (by kernel_rfl) rfl #[.slice A0 l0.length c0] rfl (by (try simp only [List.map_toArray, List.map_cons, List.map_nil]); first | done | rfl | (simp only [List.length_drop, List.length_take]; rfl)) ?_; (with_reducible refine (runs_May.calls k _ _ l0 true _ ?side1 ?side2 A4.out).mono ?_); (case side1 => repeat (first | exact (Kd.C_below HR0.out HB.out) | (with_reducible refine Kd.C_alloc ?_ _) | (with_reducible refine Kd.C_drewN ?_ _) | (with_reducible refine Kd.C_drew ?_))); (case side2 => exact HC0.out); rintro e w6 ⟨rfl, hb⟩; refine ⟨_, rfl, ?_⟩; have n0_ := Aside0.mk (below_step (by repeat (first | (with_reducible first | exact HB.out | apply below_alloc | apply pw_below_drewN | apply below_drew1) | exact HB.out)) hb); clear HB; have HB := n0_; clear n0_; (try clear hb); (try clear hb2); (try clear hk); (try clear hi)))
      go_meet
      case rel => exact ⟨_, (decide (a1 < 0)), (by first | rfl | (simp; done) | (simp [*]; done)), H', ⟨by first | omega | exact Nat.le_refl _⟩, ⟨by repeat (first | (with_reducible first | exact HB.out | apply below_alloc | apply pw_below_drewN | apply below_drew1) | exact HB.out)⟩⟩
    · replace c5 := Bool.eq_false_iff.mpr c5
      subst c5
      have H1 : (runs_Spread.j0 k l0 a1 true) = some (r1, r2) := by rw [if_neg (show ¬ (false = true) by decide)] at H; exact H
      clear H
      have H := H1
      clear H1
      have H' := Aside0.mk H
      clear H
      go_wp2_with (first | ((with_reducible refine gate_callee (f := 46) rfl ?_); refine goesL_ (some 10) rfl rfl Try.func46 (by kernel_rfl) rfl #[.slice A0 l0.length c0] rfl (by (try simp only [List.map_toArray, List.map_cons, List.map_nil]); first | done | rfl | (simp only [List.length_drop, List.length_take]; rfl)) ?_; (with_reducible refine (runs_May.calls k _ _ l0 false _ ?side1 ?side2 A4.out).mono ?_); (case side1 => repeat (first | exact (Kd.C_below HR0.out HB.out) | (with_reducible refine Kd.C_alloc ?_ _) | (with_reducible refine Kd.C_drewN ?_ _) | (with_reducible refine Kd.C_drew ?_))); (case side2 => exact HC0.out); rintro e w7 ⟨rfl, hb⟩; refine ⟨_, rfl, ?_⟩; have n0_ := Aside0.mk (below_step (by repeat (first | (with_reducible first | exact HB.out | apply below_alloc | apply pw_below_drewN | apply below_drew1) | exact HB.out)) hb); clear HB; have HB := n0_; clear n0_; (try clear hb); (try clear hb2); (try clear hk); (try clear hi)))
      go_meet
      case rel => exact ⟨_, (true), (by first | rfl | (simp; done) | (simp [*]; done)), H', ⟨by first | omega | exact Nat.le_refl _⟩, ⟨by repeat (first | (with_reducible first | exact HB.out | apply below_alloc | apply pw_below_drewN | apply below_drew1) | exact HB.out)⟩⟩
  case rest =>
    clear HC3
    try clear p2
    try clear c3
    try clear c4
    try clear c5
    obtain ⟨kq, x15_2, rfl, HA, HJ2, HB⟩ := hcut
    cases kq with
    | zero => exact absurd HA.out (by simp [runs_Spread.j0])
    | succ kj2 =>
      have H := HA.out
      clear HA
      simp only [runs_Spread.j0] at H
      by_cases c8 : x15_2 = true
      · subst c8
        have H1 : (some (([] : List Int), false)) = some (r1, r2) := by rw [if_pos rfl] at H; exact H
        clear H
        have H := H1
        clear H1
        simp only [Option.some.injEq, Prod.mk.injEq] at H
        obtain ⟨rfl, rfl⟩ := H
        go_wp2
        go_ret2
        exact ⟨_, by first | rfl | (simp [errW_none, errW_some] <;> rfl) | (simp [*, errW_none, errW_some] <;> rfl), by first | exact Kd.R_nil _ _ _ _ _ | exact Kd.N_nil _ _ _ _ _ | exact Kd.V_nil _ _ _ _ _ | exact Kd.Q_nil _ _ _ _ _ | exact Kd.S_nil _ _ _ _ _, by repeat (first | (with_reducible first | exact HB.out | apply below_alloc | apply pw_below_drewN | apply below_drew1) | exact HB.out)⟩
      · replace c8 := Bool.eq_false_iff.mpr c8
        subst c8
        have H1 : (runs_Spread.l0 kj2 a1 ([] : List Int) l0 (l0.length : Int) 0) = some (r1, r2) := by rw [if_neg (show ¬ (false = true) by decide)] at H; exact H
        clear H
        have H := H1
        clear H1
        have H' := Aside0.mk H
        clear H
        go_wp2
        go_loopg [6, 18] kj2 (fun kq v6 v18 w' => ∃ (x6_2 : List Int) (x18_2 : Int), v18 = .int .i64 x18_2 ∧ Aside0 (runs_Spread.l0 kq a1 x6_2 l0 (l0.length : Int) x18_2 = some (r1, r2)) ∧ Aside0 (kq ≤ kj2) ∧ Aside0 (Kd.R (Kd.int .u64) 51 w' w.heap.size (fun _ => True) v6 x6_2) ∧ Aside0 (Below w.heap.size w w'))
        case atStart => exact ⟨(([] : List Int)), (0), (by first | rfl | (simp; done) | (simp [*]; done)), H', ⟨Nat.le_refl _⟩, ⟨by first | exact Kd.R_nil _ _ _ _ _ | exact Kd.N_nil _ _ _ _ _ | exact Kd.V_nil _ _ _ _ _ | exact Kd.Q_nil _ _ _ _ _ | exact Kd.S_nil _ _ _ _ _⟩, ⟨by repeat (first | (with_reducible first | exact HB.out | apply below_alloc | apply pw_below_drewN | apply below_drew1) | exact HB.out)⟩⟩
        case round =>
          clear H'
          try clear p2
          try clear c3
          try clear c4
          try clear c5
          try clear c8
          try clear p2
          obtain ⟨x6_2, x18_2, rfl, HA, HK2, HO_6, HB⟩ := hrel
          cases gk with
          | zero => exact absurd HA.out (by simp [runs_Spread.l0])
          | succ k2 =>
            have H := HA.out
            clear HA
            simp only [runs_Spread.l0] at H
            by_cases c9 : x18_2 < (l0.length : Int)
            · rw [if_pos c9] at H
              have c9b0 : decide (x18_2 < (l0.length : Int)) = true := decide_eq_true c9
              clear c9
              by_cases c10 : 0 ≤ x18_2
              · rw [if_pos c10] at H
                have c10b0 : decide (0 ≤ x18_2) = true := decide_eq_true c10
                clear c10
                by_cases c11 : x18_2 < (l0.length : Int)
                · rw [if_pos c11] at H
                  have c11b0 : decide (x18_2 < (l0.length : Int)) = true := decide_eq_true c11
                  clear c11
                  by_cases c12 : ((rd_T53 l0 x18_2).f1) > (wrap64 (a1 - (x6_2.length : Int)))
                  · rw [if_pos c12] at H
                    have c12b0 : decide ((wrap64 (a1 - (x6_2.length : Int))) < ((rd_T53 l0 x18_2).f1)) = true := decide_eq_true c12
                    clear c12
                    simp only [Option.some.injEq, Prod.mk.injEq] at H
                    obtain ⟨rfl, rfl⟩ := H
                    have p270 : 0 ≤ (x18_2 : Int) := of_decide_eq_true (by first | (with_reducible assumption) | assumption)
                    have q270 : x18_2 < (l0.length : Int) := of_decide_eq_true (by first | (with_reducible assumption) | assumption)
                    obtain ⟨ad270, e270, hx270_0, hx270_1⟩ := at_T53 HR0.out x18_2 p270 q270
                    cases e270
                    replace hx270_0 := (HB.out.cell (World.block_lt_of_cell? w _ hx270_0)).trans hx270_0
                    replace hx270_1 := (HB.out.cell (World.block_lt_of_cell? w _ hx270_1)).trans hx270_1
                    replace p270 := eq_true p270
                    replace q270 := eq_true q270
                    go_wp2_with (first | ((with_reducible refine gate_dst (N := 8) rfl ?_); refine box_event ?hg (N := 8) ?hd (cs := #[.int .u64 0, .int .i64 0]) (t := 53) ?hr ?_; (case hd => rfl); (case hg => rfl); (case hr => first | (go_simp; done) | (go_simp; rfl)); intro gb271 hg w13 hbox hb; have n0_ := Aside0.mk (Kd.R_below (by (with_reducible repeat (first | apply Kd.R_alloc | apply Kd.R_drewN | apply Kd.R_drew)); exact HO_6.out) hb); have n1_ := Aside0.mk (below_step (by repeat (first | (with_reducible first | exact HB.out | apply below_alloc | apply pw_below_drewN | apply below_drew1) | exact HB.out)) hb); have n2_ := Aside0.mk (hbox); have n3_ := Aside0.mk ((by rw [hg]; exact (below_size (by repeat (first | (with_reducible first | exact HB.out | apply below_alloc | apply pw_below_drewN | apply below_drew1) | exact HB.out))) : w.heap.size ≤ gb271)); have n4_ := Aside0.mk ((by rw [hg]; exact (below_size (by repeat (first | (with_reducible first | exact HB.out | apply below_alloc | apply pw_below_drewN | apply below_drew1) | exact HB.out))) : w.heap.size ≤ gb271)); clear HO_6; clear HB; have HO_6 := n0_; have HB := n1_; have BK271 := n2_; have GW271 := n3_; have GE271 := n4_; clear n0_ n1_ n2_ n3_ n4_; clear hb hbox hg; have hcz14_0 : w13.cell? ⟨gb271, 0, none⟩ = some (.int .u64 0) := (blk_cell BK271.out 0).trans rfl; have hcz14_1 : w13.cell? ⟨gb271, 1, none⟩ = some (.int .i64 0) := (blk_cell BK271.out 1).trans rfl; have hfz14_0 := blk_frozen BK271.out 0; have hfz14_1 := blk_frozen BK271.out 1; obtain ⟨Ao15, co15, eo15⟩ := Kd.R_slice HO_6.out; subst eo15))
                    go_ret2
                    exact ⟨_, by first | rfl | (simp [errW_none, errW_some] <;> rfl) | (simp [*, errW_none, errW_some] <;> rfl), by first | exact Kd.R_nil _ _ _ _ _ | exact Kd.N_nil _ _ _ _ _ | exact Kd.V_nil _ _ _ _ _ | exact Kd.Q_nil _ _ _ _ _ | exact Kd.S_nil _ _ _ _ _, by repeat (first | (with_reducible first | exact HB.out | apply below_alloc | apply pw_below_drewN | apply below_drew1 | refine below_set ?_ GE271.out) | exact HB.out)⟩
                  · rw [if_neg c12] at H
                    have c12b0 : decide ((wrap64 (a1 - (x6_2.length : Int))) < ((rd_T53 l0 x18_2).f1)) = false := decide_eq_false c12
                    clear c12
                    obtain ⟨y272, hy272⟩ : ∃ y_ : List Int, y_ = (([(rd_T53 l0 x18_2).f0] : List Int)) := ⟨_, rfl⟩
                    replace H : ((slices_Repeat_uint64_uint64.f y272 ((rd_T53 l0 x18_2).f1)).bind fun t275 => (if x6_2.length + t275.length < 17592186044416 then (runs_Spread.l0 k2 a1 (x6_2 ++ t275) l0 (l0.length : Int) (wrap64 (x18_2 + 1))) else (none))) = some (r1, r2) := by first | (rw [hy272]; with_reducible exact H) | (have H2_ := (Option.bind_some _ _).symm.trans H; rw [hy272]; with_reducible exact H2_) | (have H2_ := (Option.bind_some _ _).symm.trans H; with_reducible exact H2_) | with_reducible exact H | (rw [hy272]; exact H) | exact H
                    have Ny272 := Aside0.mk hy272
                    clear hy272
                    replace H := Option.bind_eq_some_iff.mp H
                    obtain ⟨t275, A160, H⟩ := H
                    replace H : (if x6_2.length + t275.length < 17592186044416 then (runs_Spread.l0 k2 a1 (x6_2 ++ t275) l0 (l0.length : Int) (wrap64 (x18_2 + 1))) else (none)) = some (r1, r2) := H
                    have A16 := Aside0.mk A160
                    clear A160
                    by_cases c17 : x6_2.length + t275.length < 17592186044416
                    · rw [if_pos c17] at H
                      have LMc17 := Aside0.mk c17
                      clear c17
                      obtain ⟨y278, hy278⟩ : ∃ y_ : List Int, y_ = (x6_2 ++ t275) := ⟨_, rfl⟩
                      replace H : (runs_Spread.l0 k2 a1 y278 l0 (l0.length : Int) (wrap64 (x18_2 + 1))) = some (r1, r2) := by first | (rw [hy278]; with_reducible exact H) | (have H2_ := (Option.bind_some _ _).symm.trans H; rw [hy278]; with_reducible exact H2_) | (have H2_ := (Option.bind_some _ _).symm.trans H; with_reducible exact H2_) | with_reducible exact H | (rw [hy278]; exact H) | exact H
                      have Ny278 := Aside0.mk hy278
                      clear hy278
                      have H' := Aside0.mk H
                      clear H
                      have p270 : 0 ≤ (x18_2 : Int) := of_decide_eq_true (by first | (with_reducible assumption) | assumption)
                      have q270 : x18_2 < (l0.length : Int) := of_decide_eq_true (by first | (with_reducible assumption) | assumption)
                      obtain ⟨ad270, e270, hx270_0, hx270_1⟩ := at_T53 HR0.out x18_2 p270 q270
                      cases e270
                      replace hx270_0 := (HB.out.cell (World.block_lt_of_cell? w _ hx270_0)).trans hx270_0
                      replace hx270_1 := (HB.out.cell (World.block_lt_of_cell? w _ hx270_1)).trans hx270_1
                      replace p270 := eq_true p270
                      replace q270 := eq_true q270
                      go_wp2_with (first | ((with_reducible refine gate_dst (N := 8) rfl ?_); refine box_event ?hg (N := 8) ?hd (cs := #[.int .u64 0, .int .i64 0]) (t := 53) ?hr ?_; (case hd => rfl); (case hg => rfl); (case hr => first | (go_simp; done) | (go_simp; rfl)); intro gb271 hg w18 hbox hb; have n0_ := Aside0.mk (Kd.R_below (by (with_reducible repeat (first | apply Kd.R_alloc | apply Kd.R_drewN | apply Kd.R_drew)); exact HO_6.out) hb); have n1_ := Aside0.mk (below_step (by repeat (first | (with_reducible first | exact HB.out | apply below_alloc | apply pw_below_drewN | apply below_drew1) | exact HB.out)) hb); have n2_ := Aside0.mk (hbox); have n3_ := Aside0.mk ((by rw [hg]; exact (below_size (by repeat (first | (with_reducible first | exact HB.out | apply below_alloc | apply pw_below_drewN | apply below_drew1) | exact HB.out))) : w.heap.size ≤ gb271)); have n4_ := Aside0.mk ((by rw [hg]; exact (below_size (by repeat (first | (with_reducible first | exact HB.out | apply below_alloc | apply pw_below_drewN | apply below_drew1) | exact HB.out))) : w.heap.size ≤ gb271)); clear HO_6; clear HB; have HO_6 := n0_; have HB := n1_; have BK271 := n2_; have GW271 := n3_; have GE271 := n4_; clear n0_ n1_ n2_ n3_ n4_; clear hb hbox hg; have hcz19_0 : w18.cell? ⟨gb271, 0, none⟩ = some (.int .u64 0) := (blk_cell BK271.out 0).trans rfl; have hcz19_1 : w18.cell? ⟨gb271, 1, none⟩ = some (.int .i64 0) := (blk_cell BK271.out 1).trans rfl; have hfz19_0 := blk_frozen BK271.out 0; have hfz19_1 := blk_frozen BK271.out 1; obtain ⟨Ao20, co20, eo20⟩ := Kd.R_slice HO_6.out; subst eo20) | ((with_reducible refine gate_dst (N := 32) rfl ?_); refine Kd.R_lit (Kd.int .u64) _ 51 ?hg (N := 32) ?hd (xs := ([(rd_T53 l0 x18_2).f0] : List Int)) (inner := [.int .u64 ((rd_T53 l0 x18_2).f0)]) (ok := fun _ => True) (okp := fun _ => True) ?hr ?hp (fun _ hk => hk) trivial (Below.refl _ _) (Nat.le_refl _) (by simp) ?_; (case hd => rfl); (case hg => rfl); (case hr => first | (go_simp; done) | (go_simp; rfl)); (case hp => exact (Reps.one (show Kd.M (Kd.int .u64) _ _ _ ((rd_T53 l0 x18_2).f0) [.int .u64 ((rd_T53 l0 x18_2).f0)] from rfl) (Reps.none _ _))); intro v273 w21 ho22 hb hg_ hnew_; clear hg_ hnew_; (first | rw [← Ny272.out] at ho22 | (simp only [Int.reduceToNat] at ho22; rw [← Ny272.out] at ho22)); have n0_ := Aside0.mk (Kd.R_elder' (by (with_reducible repeat (first | apply Kd.R_alloc | apply Kd.R_drewN | apply Kd.R_drew)); exact (Kd.R_mono (Kd.R_far (p := ⟨gb271, 1, none⟩) (Kd.R_far (p := ⟨gb271, 0, none⟩) (Kd.R_types HO_6.out BK271.out (by decide)) (fun _ hk => hk.2) (.int .u64 ((rd_T53 l0 x18_2).f0))) (fun _ hk => hk.2) (.int .i64 ((rd_T53 l0 x18_2).f1))) (fun _ h_ => h_.1))) (Kd.R_base ho22) hb); have n1_ := Aside0.mk (Kd.R_lower (Kd.R_new' ho22 (Kd.R_lt (by (with_reducible repeat (first | apply Kd.R_alloc | apply Kd.R_drewN | apply Kd.R_drew)); exact (Kd.R_mono (Kd.R_far (p := ⟨gb271, 1, none⟩) (Kd.R_far (p := ⟨gb271, 0, none⟩) (Kd.R_types HO_6.out BK271.out (by decide)) (fun _ hk => hk.2) (.int .u64 ((rd_T53 l0 x18_2).f0))) (fun _ hk => hk.2) (.int .i64 ((rd_T53 l0 x18_2).f1))) (fun _ h_ => h_.1))))) (below_size (by repeat (first | (with_reducible first | exact HB.out | apply below_alloc | apply pw_below_drewN | apply below_drew1 | refine below_set ?_ GE271.out) | exact HB.out)))); have n2_ := Aside0.mk (blk_below (g := gb271) (o := .cells #[.int .u64 ((rd_T53 l0 x18_2).f0), .int .i64 ((rd_T53 l0 x18_2).f1)] 53 (0, 0)) (by (with_reducible repeat (first | refine blk_drewN ?_ _ | refine blk_drew ?_ | refine blk_alloc ?_ _)); refine blk_put (cs := #[.int .u64 ((rd_T53 l0 x18_2).f0), .int .i64 0]) ?_ 1 _ rfl; (with_reducible repeat (first | refine blk_drewN ?_ _ | refine blk_drew ?_ | refine blk_alloc ?_ _)); refine blk_put (cs := #[.int .u64 0, .int .i64 0]) ?_ 0 _ rfl; (with_reducible repeat (first | refine blk_drewN ?_ _ | refine blk_drew ?_ | refine blk_alloc ?_ _)); exact BK271.out) hb); have n3_ := Aside0.mk (below_step (by repeat (first | (with_reducible first | exact HB.out | apply below_alloc | apply pw_below_drewN | apply below_drew1 | refine below_set ?_ GE271.out) | exact HB.out)) hb); clear HO_6; clear BK271; clear HB; have HO_6 := n0_; have HO274 := n1_; have BK271 := n2_; have HB := n3_; clear n0_ n1_ n2_ n3_; clear hb ho22; have hcz23_0 : w21.cell? ⟨gb271, 0, none⟩ = some (.int .u64 ((rd_T53 l0 x18_2).f0)) := (blk_cell BK271.out 0).trans rfl; have hcz23_1 : w21.cell? ⟨gb271, 1, none⟩ = some (.int .i64 ((rd_T53 l0 x18_2).f1)) := (blk_cell BK271.out 1).trans rfl; have hfz23_0 := blk_frozen BK271.out 0; have hfz23_1 := blk_frozen BK271.out 1; obtain ⟨Ao24, co24, eo24⟩ := Kd.R_slice HO274.out; subst eo24) | ((with_reducible refine gate_callee (f := 88) rfl ?_); refine goesL_ (some 35) rfl rfl Try.func88 (by kernel_rfl) rfl #[.slice Ao24 y272.length co24, .int .i64 ((rd_T53 l0 x18_2).f1)] rfl (by (try simp only [List.map_toArray, List.map_cons, List.map_nil]); first | done | rfl | (simp only [List.length_drop, List.length_take]; rfl)) ?_; (with_reducible refine (slices_Repeat_uint64_uint64.calls _ _ y272 ((rd_T53 l0 x18_2).f1) t275 _ ?side1 ?side2 A16.out).mono ?_); (case side1 => repeat (first | exact (Kd.R_reads' HO274.out).2.2 | (with_reducible refine Kd.C_alloc ?_ _) | (with_reducible refine Kd.C_drewN ?_ _) | (with_reducible refine Kd.C_drew ?_))); (case side2 => exact (Kd.R_reads' HO274.out).2.1); rintro e w25 ⟨v276, rfl, ho0, hb⟩; refine ⟨_, rfl, ?_⟩; have n0_ := Aside0.mk (Kd.R_elder' (by (with_reducible repeat (first | apply Kd.R_alloc | apply Kd.R_drewN | apply Kd.R_drew)); exact HO_6.out) (Kd.R_base ho0) hb); have n1_ := Aside0.mk (Kd.R_elder' (by (with_reducible repeat (first | apply Kd.R_alloc | apply Kd.R_drewN | apply Kd.R_drew)); exact HO274.out) (Kd.R_base ho0) hb); have n2_ := Aside0.mk (Kd.R_lower (Kd.R_new' (Kd.R_new' ho0 (Kd.R_lt (by (with_reducible repeat (first | apply Kd.R_alloc | apply Kd.R_drewN | apply Kd.R_drew)); exact HO_6.out))) (Kd.R_lt (by (with_reducible repeat (first | apply Kd.R_alloc | apply Kd.R_drewN | apply Kd.R_drew)); exact HO274.out))) (below_size (by repeat (first | (with_reducible first | exact HB.out | apply below_alloc | apply pw_below_drewN | apply below_drew1 | refine below_set ?_ GE271.out) | exact HB.out)))); have n3_ := Aside0.mk (blk_below (g := gb271) (o := .cells #[.int .u64 ((rd_T53 l0 x18_2).f0), .int .i64 ((rd_T53 l0 x18_2).f1)] 53 (0, 0)) (by (with_reducible repeat (first | refine blk_drewN ?_ _ | refine blk_drew ?_ | refine blk_alloc ?_ _)); exact BK271.out) hb); have n4_ := Aside0.mk (below_step (by repeat (first | (with_reducible first | exact HB.out | apply below_alloc | apply pw_below_drewN | apply below_drew1 | refine below_set ?_ GE271.out) | exact HB.out)) hb); clear HO_6; clear HO274; clear BK271; clear HB; have HO_6 := n0_; have HO274 := n1_; have HO277 := n2_; have BK271 := n3_; have HB := n4_; clear n0_ n1_ n2_ n3_ n4_; (try clear hb); (try clear hb2); (try clear hk); (try clear hi); (try clear ho0); obtain ⟨Ao27, co27, eo27⟩ := Kd.R_slice HO277.out; subst eo27) | ((with_reducible refine gate_builtin (b := .append) (xs := #[.tmp 29, .tmp 35]) rfl ?_); at_builtin; refine Kd.R_append_rows (Kd.int .u64) (w0 := w) w.heap.size rfl (.tmp 29) (.tmp 35) 38 51 (.int .u64 0) 8 rfl Try.underlying38 info51 rfl (by decide) (by omega) (.slice Ao20 x6_2.length co20) x6_2 t275 _ _ _ (fun k_ => some k_ ≠ (.slice Ao24 y272.length co24 : Value).ownBlock ∧ some k_ ≠ (.slice Ao27 t275.length co27 : Value).ownBlock) (fun _ => False) rfl rfl ?aO ?aR (fun _ _ h => h) (fun _ h => h.elim) ?aF ?aB ?aS ?aL ?_; (case aR => repeat (first | exact (Kd.R_reads' HO277.out).2.2 | (with_reducible refine Kd.C_alloc ?_ _) | (with_reducible refine Kd.C_drewN ?_ _) | (with_reducible refine Kd.C_drew ?_))); (case aB => exact (by repeat (first | (with_reducible first | exact HB.out | apply below_alloc | apply pw_below_drewN | apply below_drew1 | refine below_set ?_ GE271.out) | exact HB.out))); (case aF => exact (fun k_ hk => ⟨Kd.fresh' (Kd.R_lt (by (with_reducible repeat (first | apply Kd.R_alloc | apply Kd.R_drewN | apply Kd.R_drew)); exact HO274.out)) k_ hk, Kd.fresh' (Kd.R_lt (by (with_reducible repeat (first | apply Kd.R_alloc | apply Kd.R_drewN | apply Kd.R_drew)); exact HO277.out)) k_ hk⟩)); (case aO => exact (by (with_reducible repeat (first | apply Kd.R_alloc | apply Kd.R_drewN | apply Kd.R_drew)); exact Kd.R_mono HO_6.out (fun _ hk => ⟨hk.1.2, hk.2⟩))); (case aS => exact (below_size (by repeat (first | (with_reducible first | exact HB.out | apply below_alloc | apply pw_below_drewN | apply below_drew1 | refine below_set ?_ GE271.out) | exact HB.out)))); (case aL => have := LMc17.out; omega); intro v279 w26 ho hb hg hat; rw [← Ny278.out] at ho; have n0_ := Aside0.mk (blk_grown (g := gb271) (o := .cells #[.int .u64 ((rd_T53 l0 x18_2).f0), .int .i64 ((rd_T53 l0 x18_2).f1)] 53 (0, 0)) (by (with_reducible repeat (first | refine blk_drewN ?_ _ | refine blk_drew ?_ | refine blk_alloc ?_ _)); exact BK271.out) hg (Kd.R_ne HO_6.out BK271.out (by decide))); have n1_ := Aside0.mk (Kd.R_after (ok := (fun k_ => some k_ ≠ (.slice Ao27 t275.length co27 : Value).ownBlock)) (by (with_reducible repeat (first | apply Kd.R_alloc | apply Kd.R_drewN | apply Kd.R_drew)); exact Kd.R_mono HO274.out (fun _ hk => ⟨hk.2, hk.1.2⟩)) hg hat); have n2_ := Aside0.mk (Kd.R_after (ok := (fun k_ => some k_ ≠ (.slice Ao24 y272.length co24 : Value).ownBlock)) (by (with_reducible repeat (first | apply Kd.R_alloc | apply Kd.R_drewN | apply Kd.R_drew)); exact Kd.R_mono HO277.out (fun _ hk => ⟨hk.2, hk.1.2⟩)) hg hat); have n3_ := Aside0.mk (hb); have n4_ := Aside0.mk (ho); clear BK271; clear HO274; clear HO277; clear HB; clear HO_6; have BK271 := n0_; have HO274 := n1_; have HO277 := n2_; have HB := n3_; have HO280 := n4_; clear n0_ n1_ n2_ n3_ n4_; clear ho hb hg hat))
                      go_roundg k2
                      case measure => have := HJ2.out; have := HK2.out; omega
                      case rel => exact ⟨(y278), (wrap64 (x18_2 + 1)), (by first | rfl | (simp; done) | (simp [*]; done)), H', ⟨by have := HJ2.out; have := HK2.out; omega⟩, ⟨by (with_reducible repeat (first | apply Kd.R_alloc | apply Kd.R_drewN | apply Kd.R_drew)); exact Kd.R_mono HO280.out (fun _ hk => trivial)⟩, ⟨by repeat (first | (with_reducible first | exact HB.out | apply below_alloc | apply pw_below_drewN | apply below_drew1 | refine below_set ?_ GE271.out) | exact HB.out)⟩⟩
                    · rw [if_neg c17] at H
                      exact absurd H (by simp)
                · rw [if_neg c11] at H
                  exact absurd H (by simp)
              · rw [if_neg c10] at H
                exact absurd H (by simp)
            · rw [if_neg c9] at H
              have c9b0 : decide (x18_2 < (l0.length : Int)) = false := decide_eq_false c9
              clear c9
              simp only [Option.some.injEq, Prod.mk.injEq] at H
              obtain ⟨rfl, rfl⟩ := H
              go_wp2
              go_ret2
              exact ⟨_, by first | rfl | (simp [errW_none, errW_some] <;> rfl) | (simp [*, errW_none, errW_some] <;> rfl), by (with_reducible repeat (first | apply Kd.R_alloc | apply Kd.R_drewN | apply Kd.R_drew)); exact HO_6.out, by repeat (first | (with_reducible first | exact HB.out | apply below_alloc | apply pw_below_drewN | apply below_drew1) | exact HB.out)⟩
def bonsairef06_SameRuns.l0 : Nat → List (S53) → List (S53) → Int → Option (Bool)
  | 0, _, _, _ => none
  | k + 1, x0, x1, x5 => if x5 < (x0.length : Int) then (if 0 ≤ x5 then (if x5 < (x1.length : Int) then (if (!(((rd_T53 x0 x5).f0) == ((rd_T53 x1 x5).f0)) || (!(((rd_T53 x0 x5).f1) == ((rd_T53 x1 x5).f1)))) = true then (some false) else (bonsairef06_SameRuns.l0 k x0 x1 (wrap64 (x5 + 1)))) else (none)) else (none)) else (some true)
def bonsairef06_SameRuns.f (k : Nat) (l0 : List (S53)) (l1 : List (S53)) : Option (Bool) := if (l0.length : Int) = (l1.length : Int) then (bonsairef06_SameRuns.l0 k l0 l1 0) else (some false)
theorem bonsairef06_SameRuns.mono_l : ∀ k, (∀ y0 y1 y2, LeO (bonsairef06_SameRuns.l0 k y0 y1 y2) (bonsairef06_SameRuns.l0 (k + 1) y0 y1 y2))
  | 0 => fun _ _ _ r h => by simp [bonsairef06_SameRuns.l0] at h
  | k + 1 => by
    have ih0 := bonsairef06_SameRuns.mono_l k
    · intro y0 y1 y2
      unfold bonsairef06_SameRuns.l0
      repeat' first
      | (with_reducible exact ih0 _ _ _)
      | (with_reducible exact LeO.refl _)
      | (with_reducible exact LeO.none _)
      | (with_reducible refine LeO.ite ?_ ?_)
      | (with_reducible refine LeO.bind ?_ (fun _ => ?_))
      | exact ih0 _ _ _
      | exact LeO.none _
      | refine LeO.ite ?_ ?_
      | refine LeO.bind ?_ (fun _ => ?_)
theorem bonsairef06_SameRuns.mono : ∀ a0 a1 k, LeO (bonsairef06_SameRuns.f k a0 a1) (bonsairef06_SameRuns.f (k + 1) a0 a1) := by
  intro a0 a1 k
  have ih0 := bonsairef06_SameRuns.mono_l k
  unfold bonsairef06_SameRuns.f
  repeat' first
      | (with_reducible exact ih0 _ _ _)
      | (with_reducible exact LeO.refl _)
      | (with_reducible exact LeO.none _)
      | (with_reducible refine LeO.ite ?_ ?_)
      | (with_reducible refine LeO.bind ?_ (fun _ => ?_))
      | exact ih0 _ _ _
      | exact LeO.none _
      | refine LeO.ite ?_ ?_
      | refine LeO.bind ?_ (fun _ => ?_)
set_option maxHeartbeats 8000000 in
set_option maxRecDepth 100000 in
theorem bonsairef06_SameRuns.calls (k : Nat) (A0 : Option Addr) (c0 : Nat) (l0 : List (S53)) (A1 : Option Addr) (c1 : Nat) (l1 : List (S53)) (r : Bool) (w : World) (hr0 : Kd.C k53 w A0 l0.length l0) (hc0 : l0.length ≤ c0) (hr1 : Kd.C k53 w A1 l1.length l1) (hc1 : l1.length ≤ c1) (h : bonsairef06_SameRuns.f k l0 l1 = some r) :
    Calls Try.prog 41 #[.slice A0 l0.length c0, .slice A1 l1.length c1] w fun e w' => e = .returned (.bool r) ∧ Drawn0 w w' := by
  have hu53 := Try.underlying53
  have HR0 := Aside0.mk hr0
  have HC0 := Aside0.mk hc0
  clear hr0 hc0
  have HR1 := Aside0.mk hr1
  have HC1 := Aside0.mk hc1
  clear hr1 hc1
  have H : (if (l0.length : Int) = (l1.length : Int) then (bonsairef06_SameRuns.l0 k l0 l1 0) else (some false)) = some r := h
  clear h
  by_cases c3 : (l0.length : Int) = (l1.length : Int)
  · rw [if_pos c3] at H
    have c3b0 : ((l0.length : Int) == (l1.length : Int)) = true := beq_iff_eq.mpr c3
    have c3b1 : ((l0.length : Int) != (l1.length : Int)) = false := bne_eq_false_iff_eq.mpr c3
    have c3b2 : (l0.length == l1.length) = true := by first | simpa using c3 | (simp at c3 ⊢; omega)
    clear c3
    have H' := Aside0.mk H
    clear H
    go_enter Try.func41, Try.ntmps41
    go_wp2
    repeat (go_quiet (fail); try go_wp2)
    go_loopg [5] k (fun kq v5 w' => ∃ (x5_1 : Int), v5 = .int .i64 x5_1 ∧ Aside0 (bonsairef06_SameRuns.l0 kq l0 l1 x5_1 = some r) ∧ Aside0 (kq ≤ k) ∧ Drawn0 w w')
    case atStart => exact ⟨(0), (by first | rfl | (simp; done) | (simp [*]; done)), H', ⟨Nat.le_refl _⟩, by repeat (first | exact Drawn0.refl _ | apply Drawn0.step)⟩
    case round =>
      clear H'
      try clear c1
      try clear p2
      try clear c3
      try clear c3b0
      try clear c3b1
      try clear c3b2
      obtain ⟨x5_1, rfl, HA, HK1, ⟨m1, rfl⟩⟩ := hrel
      cases gk with
      | zero => exact absurd HA.out (by simp [bonsairef06_SameRuns.l0])
      | succ k1 =>
        have H := HA.out
        clear HA
        simp only [bonsairef06_SameRuns.l0] at H
        by_cases c4 : x5_1 < (l0.length : Int)
        · rw [if_pos c4] at H
          have c4b0 : decide (x5_1 < (l0.length : Int)) = true := decide_eq_true c4
          clear c4
          by_cases c5 : 0 ≤ x5_1
          · rw [if_pos c5] at H
            have c5b0 : decide (0 ≤ x5_1) = true := decide_eq_true c5
            clear c5
            by_cases c6 : x5_1 < (l1.length : Int)
            · rw [if_pos c6] at H
              have c6b0 : decide (x5_1 < (l1.length : Int)) = true := decide_eq_true c6
              clear c6
              by_cases c7 : (!(((rd_T53 l0 x5_1).f0) == ((rd_T53 l1 x5_1).f0)) || (!(((rd_T53 l0 x5_1).f1) == ((rd_T53 l1 x5_1).f1)))) = true
              · rw [if_pos c7] at H
                have c7b0 : (!(((rd_T53 l0 x5_1).f0) == ((rd_T53 l1 x5_1).f0)) || (!(((rd_T53 l0 x5_1).f1) == ((rd_T53 l1 x5_1).f1)))) = true := c7
                clear c7
                obtain rfl := Option.some.inj H
                have p281 : 0 ≤ (x5_1 : Int) := of_decide_eq_true (by first | (with_reducible assumption) | assumption)
                have q281 : x5_1 < (l0.length : Int) := of_decide_eq_true (by first | (with_reducible assumption) | assumption)
                obtain ⟨ad281, e281, hx281_0, hx281_1⟩ := at_T53 HR0.out x5_1 p281 q281
                cases e281
                replace p281 := eq_true p281
                replace q281 := eq_true q281
                have p282 : 0 ≤ (x5_1 : Int) := of_decide_eq_true (by first | (with_reducible assumption) | assumption)
                have q282 : x5_1 < (l1.length : Int) := of_decide_eq_true (by first | (with_reducible assumption) | assumption)
                obtain ⟨ad282, e282, hx282_0, hx282_1⟩ := at_T53 HR1.out x5_1 p282 q282
                cases e282
                replace p282 := eq_true p282
                replace q282 := eq_true q282
                go_wp2
                repeat (go_quiet (fail); try go_wp2)
                go_ret
                exact ⟨by first | rfl | (simp; done) | (simp [*]; done), by repeat (first | exact Drawn0.refl _ | apply Drawn0.step)⟩
              · rw [if_neg c7] at H
                have c7b0 : (!(((rd_T53 l0 x5_1).f0) == ((rd_T53 l1 x5_1).f0)) || (!(((rd_T53 l0 x5_1).f1) == ((rd_T53 l1 x5_1).f1)))) = false := by simpa using c7
                clear c7
                have H' := Aside0.mk H
                clear H
                have p281 : 0 ≤ (x5_1 : Int) := of_decide_eq_true (by first | (with_reducible assumption) | assumption)
                have q281 : x5_1 < (l0.length : Int) := of_decide_eq_true (by first | (with_reducible assumption) | assumption)
                obtain ⟨ad281, e281, hx281_0, hx281_1⟩ := at_T53 HR0.out x5_1 p281 q281
                cases e281
                replace p281 := eq_true p281
                replace q281 := eq_true q281
                have p282 : 0 ≤ (x5_1 : Int) := of_decide_eq_true (by first | (with_reducible assumption) | assumption)
                have q282 : x5_1 < (l1.length : Int) := of_decide_eq_true (by first | (with_reducible assumption) | assumption)
                obtain ⟨ad282, e282, hx282_0, hx282_1⟩ := at_T53 HR1.out x5_1 p282 q282
                cases e282
                replace p282 := eq_true p282
                replace q282 := eq_true q282
                go_wp2
                repeat (go_quiet (fail); try go_wp2)
                go_roundg k1
                case measure => have := HK1.out; omega
                case rel => exact ⟨(wrap64 (x5_1 + 1)), (by first | rfl | (simp; done) | (simp [*]; done)), H', ⟨by have := HK1.out; omega⟩, by repeat (first | exact Drawn0.refl _ | apply Drawn0.step)⟩
            · rw [if_neg c6] at H
              exact absurd H (by simp)
          · rw [if_neg c5] at H
            exact absurd H (by simp)
        · rw [if_neg c4] at H
          have c4b0 : decide (x5_1 < (l0.length : Int)) = false := decide_eq_false c4
          clear c4
          obtain rfl := Option.some.inj H
          go_wp2
          repeat (go_quiet (fail); try go_wp2)
          go_ret
          exact ⟨by first | rfl | (simp; done) | (simp [*]; done), by repeat (first | exact Drawn0.refl _ | apply Drawn0.step)⟩
  · rw [if_neg c3] at H
    have c3b0 : ((l0.length : Int) == (l1.length : Int)) = false := beq_eq_false_iff_ne.mpr c3
    have c3b1 : ((l0.length : Int) != (l1.length : Int)) = true := bne_iff_ne.mpr c3
    have c3b2 : (l0.length == l1.length) = false := by first | simpa using c3 | (simp at c3 ⊢; omega)
    obtain rfl := Option.some.inj H
    go_enter Try.func41, Try.ntmps41
    go_wp2
    repeat (go_quiet (fail); try go_wp2)
    go_ret
    exact ⟨by first | rfl | (simp; done) | (simp [*]; done), by repeat (first | exact Drawn0.refl _ | apply Drawn0.step)⟩
def runs_of_uint64.l0 : Nat → List (S98) → List Int → Int → Int → Option ((List (S98)))
  | 0, _, _, _, _ => none
  | k + 1, x3, x7, x8, x9 => if x9 < x8 then (if 0 ≤ x9 then (if x9 < (x7.length : Int) then (if (wrap64 ((x3.length : Int) - 1)) ≥ 0 then (if 0 ≤ (wrap64 ((x3.length : Int) - 1)) then (if (wrap64 ((x3.length : Int) - 1)) < (x3.length : Int) then (if ((rd_T98 x3 (wrap64 ((x3.length : Int) - 1))).f0) = (rd x7 x9) then (runs_of_uint64.l0 k (x3.set ((wrap64 ((x3.length : Int) - 1)) : Int).toNat (⟨(rd_T98 x3 (wrap64 ((x3.length : Int) - 1))).f0, wrap64 (((rd_T98 x3 (wrap64 ((x3.length : Int) - 1))).f1) + 1)⟩ : S98)) x7 x8 (wrap64 (x9 + 1))) else (if x3.length < 8796093022208 then (runs_of_uint64.l0 k (x3 ++ [(⟨rd x7 x9, 1⟩ : S98)]) x7 x8 (wrap64 (x9 + 1))) else (none))) else (none)) else (none)) else (if x3.length < 8796093022208 then (runs_of_uint64.l0 k (x3 ++ [(⟨rd x7 x9, 1⟩ : S98)]) x7 x8 (wrap64 (x9 + 1))) else (none))) else (none)) else (none)) else (some x3)
def runs_of_uint64.f (k : Nat) (l0 : List Int) : Option ((List (S98))) := runs_of_uint64.l0 k ([] : List (S98)) l0 (l0.length : Int) 0
theorem runs_of_uint64.mono_l : ∀ k, (∀ y0 y1 y2 y3, LeO (runs_of_uint64.l0 k y0 y1 y2 y3) (runs_of_uint64.l0 (k + 1) y0 y1 y2 y3))
  | 0 => fun _ _ _ _ r h => by simp [runs_of_uint64.l0] at h
  | k + 1 => by
    have ih0 := runs_of_uint64.mono_l k
    · intro y0 y1 y2 y3
      unfold runs_of_uint64.l0
      repeat' first
      | (with_reducible exact ih0 _ _ _ _)
      | (with_reducible exact LeO.refl _)
      | (with_reducible exact LeO.none _)
      | (with_reducible refine LeO.ite ?_ ?_)
      | (with_reducible refine LeO.bind ?_ (fun _ => ?_))
      | exact ih0 _ _ _ _
      | exact LeO.none _
      | refine LeO.ite ?_ ?_
      | refine LeO.bind ?_ (fun _ => ?_)
theorem runs_of_uint64.mono : ∀ a0 k, LeO (runs_of_uint64.f k a0) (runs_of_uint64.f (k + 1) a0) := by
  intro a0 k
  have ih0 := runs_of_uint64.mono_l k
  unfold runs_of_uint64.f
  repeat' first
      | (with_reducible exact ih0 _ _ _ _)
      | (with_reducible exact LeO.refl _)
      | (with_reducible exact LeO.none _)
      | (with_reducible refine LeO.ite ?_ ?_)
      | (with_reducible refine LeO.bind ?_ (fun _ => ?_))
      | exact ih0 _ _ _ _
      | exact LeO.none _
      | refine LeO.ite ?_ ?_
      | refine LeO.bind ?_ (fun _ => ?_)
set_option maxHeartbeats 8000000 in
set_option maxRecDepth 100000 in
theorem runs_of_uint64.calls (k : Nat) (A0 : Option Addr) (c0 : Nat) (l0 : List Int) (r : List (S98)) (w : World) (hr0 : Kd.C (Kd.int .u64) w A0 l0.length l0) (hc0 : l0.length ≤ c0) (h : runs_of_uint64.f k l0 = some r) :
    Calls Try.prog 89 #[.slice A0 l0.length c0] w fun e w' => ∃ v0_ : Value, e = .returned (v0_) ∧ Kd.R k98 98 w' w.heap.size (fun _ => True) v0_ r ∧ Below w.heap.size w w' := by
  have hu98 := Try.underlying98
  have HR0 := Aside0.mk hr0
  have HC0 := Aside0.mk hc0
  clear hr0 hc0
  have HB := Aside0.mk (Below.refl w.heap.size w)
  have H : (runs_of_uint64.l0 k ([] : List (S98)) l0 (l0.length : Int) 0) = some r := h
  clear h
  have H' := Aside0.mk H
  clear H
  go_enter Try.func89, Try.ntmps89
  go_wp2
  go_loopg [3, 9] k (fun kq v3 v9 w' => ∃ (x3_1 : List (S98)) (x9_1 : Int), v9 = .int .i64 x9_1 ∧ Aside0 (runs_of_uint64.l0 kq x3_1 l0 (l0.length : Int) x9_1 = some r) ∧ Aside0 (kq ≤ k) ∧ Aside0 (Kd.R k98 98 w' w.heap.size (fun _ => True) v3 x3_1) ∧ Aside0 (Below w.heap.size w w'))
  case atStart => exact ⟨(([] : List (S98))), (0), (by first | rfl | (simp; done) | (simp [*]; done)), H', ⟨Nat.le_refl _⟩, ⟨by first | exact Kd.R_nil _ _ _ _ _ | exact Kd.N_nil _ _ _ _ _ | exact Kd.V_nil _ _ _ _ _ | exact Kd.Q_nil _ _ _ _ _ | exact Kd.S_nil _ _ _ _ _⟩, ⟨by repeat (first | (with_reducible first | exact HB.out | apply below_alloc | apply pw_below_drewN | apply below_drew1) | exact HB.out)⟩⟩
  case round =>
    clear H'
    obtain ⟨x3_1, x9_1, rfl, HA, HK1, HO_3, HB⟩ := hrel
    cases gk with
    | zero => exact absurd HA.out (by simp [runs_of_uint64.l0])
    | succ k1 =>
      have H := HA.out
      clear HA
      simp only [runs_of_uint64.l0] at H
      by_cases c2 : x9_1 < (l0.length : Int)
      · rw [if_pos c2] at H
        have c2b0 : decide (x9_1 < (l0.length : Int)) = true := decide_eq_true c2
        clear c2
        by_cases c3 : 0 ≤ x9_1
        · rw [if_pos c3] at H
          have c3b0 : decide (0 ≤ x9_1) = true := decide_eq_true c3
          clear c3
          by_cases c4 : x9_1 < (l0.length : Int)
          · rw [if_pos c4] at H
            have c4b0 : decide (x9_1 < (l0.length : Int)) = true := decide_eq_true c4
            clear c4
            by_cases c5 : (wrap64 ((x3_1.length : Int) - 1)) ≥ 0
            · rw [if_pos c5] at H
              have c5b0 : decide (0 ≤ (wrap64 ((x3_1.length : Int) - 1))) = true := decide_eq_true c5
              clear c5
              obtain ⟨ji6, hji6⟩ : ∃ j_ : Int, (wrap64 ((x3_1.length : Int) - 1)) = j_ := ⟨_, rfl⟩
              replace H : (if 0 ≤ (ji6) then (if (ji6) < (x3_1.length : Int) then (if ((rd_T98 x3_1 (ji6)).f0) = (rd l0 x9_1) then (runs_of_uint64.l0 k1 (x3_1.set ((ji6) : Int).toNat (⟨(rd_T98 x3_1 (ji6)).f0, wrap64 (((rd_T98 x3_1 (ji6)).f1) + 1)⟩ : S98)) l0 (l0.length : Int) (wrap64 (x9_1 + 1))) else (if x3_1.length < 8796093022208 then (runs_of_uint64.l0 k1 (x3_1 ++ [(⟨rd l0 x9_1, 1⟩ : S98)]) l0 (l0.length : Int) (wrap64 (x9_1 + 1))) else (none))) else (none)) else (none)) = some r := by first | (rw [hji6] at H; exact H) | (simp only [hji6] at H ⊢; exact H)
              (try rw [hji6] at c5b0)
              have hji6w : (IntKind.i64.wrap ((x3_1.length : Int) - 1)) = ji6 := (i64_w _).trans hji6
              by_cases c7 : 0 ≤ (ji6)
              · rw [if_pos c7] at H
                have c7b0 : decide (0 ≤ (ji6)) = true := decide_eq_true c7
                clear c7
                by_cases c8 : (ji6) < (x3_1.length : Int)
                · rw [if_pos c8] at H
                  have c8b0 : decide ((ji6) < (x3_1.length : Int)) = true := decide_eq_true c8
                  clear c8
                  by_cases c9 : ((rd_T98 x3_1 (ji6)).f0) = (rd l0 x9_1)
                  · rw [if_pos c9] at H
                    have c9b0 : (((rd_T98 x3_1 (ji6)).f0) == (rd l0 x9_1)) = true := beq_iff_eq.mpr c9
                    have c9b1 : (((rd_T98 x3_1 (ji6)).f0) != (rd l0 x9_1)) = false := bne_eq_false_iff_eq.mpr c9
                    clear c9
                    obtain ⟨y286, hy286⟩ : ∃ y_ : List (S98), y_ = (x3_1.set ((ji6) : Int).toNat (⟨(rd_T98 x3_1 (ji6)).f0, wrap64 (((rd_T98 x3_1 (ji6)).f1) + 1)⟩ : S98)) := ⟨_, rfl⟩
                    replace H : (runs_of_uint64.l0 k1 y286 l0 (l0.length : Int) (wrap64 (x9_1 + 1))) = some r := by first | (rw [hy286]; with_reducible exact H) | (have H2_ := (Option.bind_some _ _).symm.trans H; rw [hy286]; with_reducible exact H2_) | (have H2_ := (Option.bind_some _ _).symm.trans H; with_reducible exact H2_) | with_reducible exact H | (rw [hy286]; exact H) | exact H
                    have Ny286 := Aside0.mk hy286
                    clear hy286
                    have H' := Aside0.mk H
                    clear H
                    have p283 : 0 ≤ (x9_1 : Int) := of_decide_eq_true (by first | (with_reducible assumption) | assumption)
                    have q283 : x9_1 < (l0.length : Int) := of_decide_eq_true (by first | (with_reducible assumption) | assumption)
                    obtain ⟨ad283, e283, hx283_0⟩ := Kd.at_int HR0.out x9_1 p283 q283
                    cases e283
                    replace hx283_0 := (HB.out.cell (World.block_lt_of_cell? w _ hx283_0)).trans hx283_0
                    replace p283 := eq_true p283
                    replace q283 := eq_true q283
                    obtain ⟨Ao11, co11, eo11⟩ := Kd.R_slice HO_3.out
                    subst eo11
                    have p284 : 0 ≤ ((ji6) : Int) := of_decide_eq_true (by first | (with_reducible assumption) | assumption)
                    have q284 : (ji6) < (x3_1.length : Int) := of_decide_eq_true (by first | (with_reducible assumption) | assumption)
                    obtain ⟨ad284, e284, hx284_0, hx284_1⟩ := at_T98 (Kd.R_reads' HO_3.out).2.2 (ji6) p284 q284
                    cases e284
                    replace p284 := eq_true p284
                    replace q284 := eq_true q284
                    have p285 : 0 ≤ ((ji6) : Int) := of_decide_eq_true (by first | (with_reducible assumption) | assumption)
                    have q285 : (ji6) < (x3_1.length : Int) := of_decide_eq_true (by first | (with_reducible assumption) | assumption)
                    obtain ⟨ad285, e285, hx285_0, hx285_1⟩ := at_T98 (Kd.R_reads' HO_3.out).2.2 (ji6) p285 q285
                    obtain rfl : ad284 = ad285 := (by injection e285)
                    replace p285 := eq_true p285
                    replace q285 := eq_true q285
                    have p10 : 0 ≤ ((ji6) : Int) := of_decide_eq_true (by first | (with_reducible assumption) | assumption)
                    have q10 : ((ji6) : Int) < ((x3_1.length : Int) : Int) := of_decide_eq_true (by first | (with_reducible assumption) | assumption)
                    obtain ⟨go10, co10, eo10, gb10, gl10, cl10, HG10⟩ := Kd.R_form HO_3.out (by omega)
                    (first | cases eo10 | (injection eo10 with ea_ en_ ec_; (first | subst ea_ | (injection ea_ with ea_; subst ea_)); subst ec_; clear en_))
                    have GB10 := Aside0.mk gb10
                    have GG10 := Aside0.mk HG10
                    clear gb10 gl10 HG10
                    (first | simp only [add_plain] at hx284_0 | skip)
                    (first | simp only [add_plain] at hx284_1 | skip)
                    (first | simp only [add_plain] at hx285_0 | skip)
                    (first | simp only [add_plain] at hx285_1 | skip)
                    obtain ⟨ce10, hcl10, hM10, hcc10, hfr10⟩ := Kd.R_elem HO_3.out z98 ((ji6) : Int) p10 q10
                    obtain rfl := k98_openM hM10
                    have hx10_0 : wr.cell? ⟨go10, ((ji6) : Int).toNat * 2, none⟩ = some (.int .u64 ((rd_T98 x3_1 (ji6)).f0)) := hcc10 0 _ rfl
                    have hx10_1 : wr.cell? ⟨go10, ((ji6) : Int).toNat * 2 + 1, none⟩ = some (.int .i64 ((rd_T98 x3_1 (ji6)).f1)) := hcc10 1 _ rfl
                    have hf10_0 : wr.frozen? ⟨go10, ((ji6) : Int).toNat * 2, none⟩ = false := hfr10 0
                    have hf10_1 : wr.frozen? ⟨go10, ((ji6) : Int).toNat * 2 + 1, none⟩ = false := hfr10 1
                    clear hcl10 hcc10 hfr10 hM10
                    replace p10 := eq_true p10
                    replace q10 := eq_true q10
                    have HX12 := Aside0.mk (show Kd.R k98 98 wr w.heap.size (fun _ => True) (.slice (some ⟨go10, 0, none⟩) x3_1.length co11) x3_1 from (by (with_reducible repeat (first | apply Kd.R_alloc | apply Kd.R_drewN | apply Kd.R_drew)); exact HO_3.out))
                    obtain ⟨ce12, hcl12, hM12, hcc12, hfr12⟩ := Kd.R_elem HX12.out z98 ((ji6) : Int) (of_decide_eq_true (by first | (with_reducible assumption) | assumption)) (by have h_ : ((ji6) : Int) < ((x3_1.length : Int) : Int) := of_decide_eq_true (by first | (with_reducible assumption) | assumption); first | exact h_ | (have e_ := (Kd.R_reads' HO_3.out).1; omega) | simpa using h_)
                    obtain rfl := k98_openM hM12
                    have HP12 := Kd.R_seg HX12.out ((ji6) : Int) (of_decide_eq_true (by first | (with_reducible assumption) | assumption)) (by have h_ : ((ji6) : Int) < ((x3_1.length : Int) : Int) := of_decide_eq_true (by first | (with_reducible assumption) | assumption); first | exact h_ | (have e_ := (Kd.R_reads' HO_3.out).1; omega) | simpa using h_) (seg := [.int .i64 (wrap64 (((rd_T98 x3_1 (ji6)).f1) + 1))]) (j := 1) hcl12 hcc12 (show 2 ≤ 2 from by decide) (x' := (⟨(rd_T98 x3_1 (ji6)).f0, wrap64 (((rd_T98 x3_1 (ji6)).f1) + 1)⟩ : S98)) (k98_mkM _ _ _ (⟨(rd_T98 x3_1 (ji6)).f0, wrap64 (((rd_T98 x3_1 (ji6)).f1) + 1)⟩ : S98) ) (fun _ hk => hk)
                    have hx12_1 := hcc12 1 _ rfl
                    (try simp only [show (k98).sz = 2 from rfl, Nat.mul_one, Nat.add_zero] at hx12_1)
                    have hf12_1 := hfr12 1
                    (try simp only [show (k98).sz = 2 from rfl, Nat.mul_one, Nat.add_zero] at hf12_1)
                    clear hcl12 hcc12 hfr12 hM12
                    go_wp2_with (first | ((with_reducible refine gate_store (t := 3) (p := 34) rfl ?_); refine store_event (t := 3) (p := 34) (v := ?vo_w13) (w1 := (wr.setCell ⟨go10, ((ji6) : Int).toNat * 2 + 1, none⟩ (.int .i64 (wrap64 (((rd_T98 x3_1 (ji6)).f1) + 1))))) ?hg ?ho ?hn ?hr ?_; (case ho => rfl); (case hg => rfl); (case hn => rfl); (case hr => first | (go_simp; done) | (go_simp; rfl)); intro w13 hw; have hg : wr.grownBy w13 (some go10) := (by rw [hw]; exact HP12.2); have hp_ : Kd.R k98 98 w13 w.heap.size (fun _ => True) (.slice (some ⟨go10, 0, none⟩) x3_1.length co11) y286 := (by rw [hw, Ny286.out]; exact HP12.1); clear HP12; have n0_ := Aside0.mk (hp_); have n1_ := Aside0.mk ((by rw [hw]; exact below_set (HB.out) GB10.out : Below w.heap.size w w13)); clear HO_3; clear HB; have HO_3 := n0_; have HB := n1_; clear n0_ n1_; clear hg hw hp_))
                    go_roundg k1
                    case measure => have := HK1.out; omega
                    case rel => exact ⟨(y286), (wrap64 (x9_1 + 1)), (by first | rfl | (simp; done) | (simp [*]; done)), H', ⟨by have := HK1.out; omega⟩, ⟨by (with_reducible repeat (first | apply Kd.R_alloc | apply Kd.R_drewN | apply Kd.R_drew)); exact HO_3.out⟩, ⟨by repeat (first | (with_reducible first | exact HB.out | apply below_alloc | apply pw_below_drewN | apply below_drew1) | exact HB.out)⟩⟩
                  · rw [if_neg c9] at H
                    have c9b0 : (((rd_T98 x3_1 (ji6)).f0) == (rd l0 x9_1)) = false := beq_eq_false_iff_ne.mpr c9
                    have c9b1 : (((rd_T98 x3_1 (ji6)).f0) != (rd l0 x9_1)) = true := bne_iff_ne.mpr c9
                    by_cases c14 : x3_1.length < 8796093022208
                    · rw [if_pos c14] at H
                      have LMc14 := Aside0.mk c14
                      clear c14
                      obtain ⟨y287, hy287⟩ : ∃ y_ : List (S98), y_ = (x3_1 ++ [(⟨rd l0 x9_1, 1⟩ : S98)]) := ⟨_, rfl⟩
                      replace H : (runs_of_uint64.l0 k1 y287 l0 (l0.length : Int) (wrap64 (x9_1 + 1))) = some r := by first | (rw [hy287]; with_reducible exact H) | (have H2_ := (Option.bind_some _ _).symm.trans H; rw [hy287]; with_reducible exact H2_) | (have H2_ := (Option.bind_some _ _).symm.trans H; with_reducible exact H2_) | with_reducible exact H | (rw [hy287]; exact H) | exact H
                      have Ny287 := Aside0.mk hy287
                      clear hy287
                      have H' := Aside0.mk H
                      clear H
                      have p283 : 0 ≤ (x9_1 : Int) := of_decide_eq_true (by first | (with_reducible assumption) | assumption)
                      have q283 : x9_1 < (l0.length : Int) := of_decide_eq_true (by first | (with_reducible assumption) | assumption)
                      obtain ⟨ad283, e283, hx283_0⟩ := Kd.at_int HR0.out x9_1 p283 q283
                      cases e283
                      replace hx283_0 := (HB.out.cell (World.block_lt_of_cell? w _ hx283_0)).trans hx283_0
                      replace p283 := eq_true p283
                      replace q283 := eq_true q283
                      obtain ⟨Ao15, co15, eo15⟩ := Kd.R_slice HO_3.out
                      subst eo15
                      have p284 : 0 ≤ ((ji6) : Int) := of_decide_eq_true (by first | (with_reducible assumption) | assumption)
                      have q284 : (ji6) < (x3_1.length : Int) := of_decide_eq_true (by first | (with_reducible assumption) | assumption)
                      obtain ⟨ad284, e284, hx284_0, hx284_1⟩ := at_T98 (Kd.R_reads' HO_3.out).2.2 (ji6) p284 q284
                      cases e284
                      replace p284 := eq_true p284
                      replace q284 := eq_true q284
                      go_wp2_with (first | ((with_reducible refine gate_builtin (b := .append) (xs := #[.tmp 35, .tmp 38]) rfl ?_); at_builtin; refine Kd.R_append k98 (w0 := w) w.heap.size rfl (.tmp 35) (.tmp 38) 95 98 (.agg #[(.int .u64 0), (.int .i64 0)]) 16 rfl Try.underlying95 info98 rfl (by decide) (by omega) (.slice (some ad284) x3_1.length co15) x3_1 (⟨rd l0 x9_1, 1⟩ : S98) [.int .u64 (rd l0 x9_1), .int .i64 1] (fun _ => True) (fun _ => False) rfl rfl ?aP (fun _ hk => hk.elim) ?aF ?aO ?aB ?aS ?aL ?_; (case aP => exact k98_mkM _ _ _ (⟨rd l0 x9_1, 1⟩ : S98)); (case aB => exact (by repeat (first | (with_reducible first | exact HB.out | apply below_alloc | apply pw_below_drewN | apply below_drew1) | exact HB.out))); (case aF => exact (fun _ _ => trivial)); (case aO => exact (by (with_reducible repeat (first | apply Kd.R_alloc | apply Kd.R_drewN | apply Kd.R_drew)); exact HO_3.out)); (case aS => exact (below_size (by repeat (first | (with_reducible first | exact HB.out | apply below_alloc | apply pw_below_drewN | apply below_drew1) | exact HB.out)))); (case aL => have := LMc14.out; omega); intro v288 w16 ho hb hg hat; rw [← Ny287.out] at ho; have n0_ := Aside0.mk (hb); have n1_ := Aside0.mk (ho); clear HB; clear HO_3; have HB := n0_; have HO289 := n1_; clear n0_ n1_; clear ho hb hg hat))
                      go_roundg k1
                      case measure => have := HK1.out; omega
                      case rel => exact ⟨(y287), (wrap64 (x9_1 + 1)), (by first | rfl | (simp; done) | (simp [*]; done)), H', ⟨by have := HK1.out; omega⟩, ⟨by (with_reducible repeat (first | apply Kd.R_alloc | apply Kd.R_drewN | apply Kd.R_drew)); exact HO289.out⟩, ⟨by repeat (first | (with_reducible first | exact HB.out | apply below_alloc | apply pw_below_drewN | apply below_drew1) | exact HB.out)⟩⟩
                    · rw [if_neg c14] at H
                      exact absurd H (by simp)
                · rw [if_neg c8] at H
                  exact absurd H (by simp)
              · rw [if_neg c7] at H
                exact absurd H (by simp)
            · rw [if_neg c5] at H
              have c5b0 : decide (0 ≤ (wrap64 ((x3_1.length : Int) - 1))) = false := decide_eq_false c5
              clear c5
              by_cases c17 : x3_1.length < 8796093022208
              · rw [if_pos c17] at H
                have LMc17 := Aside0.mk c17
                clear c17
                obtain ⟨y290, hy290⟩ : ∃ y_ : List (S98), y_ = (x3_1 ++ [(⟨rd l0 x9_1, 1⟩ : S98)]) := ⟨_, rfl⟩
                replace H : (runs_of_uint64.l0 k1 y290 l0 (l0.length : Int) (wrap64 (x9_1 + 1))) = some r := by first | (rw [hy290]; with_reducible exact H) | (have H2_ := (Option.bind_some _ _).symm.trans H; rw [hy290]; with_reducible exact H2_) | (have H2_ := (Option.bind_some _ _).symm.trans H; with_reducible exact H2_) | with_reducible exact H | (rw [hy290]; exact H) | exact H
                have Ny290 := Aside0.mk hy290
                clear hy290
                have H' := Aside0.mk H
                clear H
                have p283 : 0 ≤ (x9_1 : Int) := of_decide_eq_true (by first | (with_reducible assumption) | assumption)
                have q283 : x9_1 < (l0.length : Int) := of_decide_eq_true (by first | (with_reducible assumption) | assumption)
                obtain ⟨ad283, e283, hx283_0⟩ := Kd.at_int HR0.out x9_1 p283 q283
                cases e283
                replace hx283_0 := (HB.out.cell (World.block_lt_of_cell? w _ hx283_0)).trans hx283_0
                replace p283 := eq_true p283
                replace q283 := eq_true q283
                obtain ⟨Ao18, co18, eo18⟩ := Kd.R_slice HO_3.out
                subst eo18
                go_wp2_with (first | ((with_reducible refine gate_builtin (b := .append) (xs := #[.tmp 35, .tmp 38]) rfl ?_); at_builtin; refine Kd.R_append k98 (w0 := w) w.heap.size rfl (.tmp 35) (.tmp 38) 95 98 (.agg #[(.int .u64 0), (.int .i64 0)]) 16 rfl Try.underlying95 info98 rfl (by decide) (by omega) (.slice Ao18 x3_1.length co18) x3_1 (⟨rd l0 x9_1, 1⟩ : S98) [.int .u64 (rd l0 x9_1), .int .i64 1] (fun _ => True) (fun _ => False) rfl rfl ?aP (fun _ hk => hk.elim) ?aF ?aO ?aB ?aS ?aL ?_; (case aP => exact k98_mkM _ _ _ (⟨rd l0 x9_1, 1⟩ : S98)); (case aB => exact (by repeat (first | (with_reducible first | exact HB.out | apply below_alloc | apply pw_below_drewN | apply below_drew1) | exact HB.out))); (case aF => exact (fun _ _ => trivial)); (case aO => exact (by (with_reducible repeat (first | apply Kd.R_alloc | apply Kd.R_drewN | apply Kd.R_drew)); exact HO_3.out)); (case aS => exact (below_size (by repeat (first | (with_reducible first | exact HB.out | apply below_alloc | apply pw_below_drewN | apply below_drew1) | exact HB.out)))); (case aL => have := LMc17.out; omega); intro v291 w19 ho hb hg hat; rw [← Ny290.out] at ho; have n0_ := Aside0.mk (hb); have n1_ := Aside0.mk (ho); clear HB; clear HO_3; have HB := n0_; have HO292 := n1_; clear n0_ n1_; clear ho hb hg hat))
                go_roundg k1
                case measure => have := HK1.out; omega
                case rel => exact ⟨(y290), (wrap64 (x9_1 + 1)), (by first | rfl | (simp; done) | (simp [*]; done)), H', ⟨by have := HK1.out; omega⟩, ⟨by (with_reducible repeat (first | apply Kd.R_alloc | apply Kd.R_drewN | apply Kd.R_drew)); exact HO292.out⟩, ⟨by repeat (first | (with_reducible first | exact HB.out | apply below_alloc | apply pw_below_drewN | apply below_drew1) | exact HB.out)⟩⟩
              · rw [if_neg c17] at H
                exact absurd H (by simp)
          · rw [if_neg c4] at H
            exact absurd H (by simp)
        · rw [if_neg c3] at H
          exact absurd H (by simp)
      · rw [if_neg c2] at H
        have c2b0 : decide (x9_1 < (l0.length : Int)) = false := decide_eq_false c2
        clear c2
        obtain rfl := Option.some.inj H
        go_wp2
        go_ret
        exact ⟨_, by first | rfl | (simp [errW_none, errW_some] <;> rfl) | (simp [*, errW_none, errW_some] <;> rfl), by (with_reducible repeat (first | apply Kd.R_alloc | apply Kd.R_drewN | apply Kd.R_drew)); exact HO_3.out, by repeat (first | (with_reducible first | exact HB.out | apply below_alloc | apply pw_below_drewN | apply below_drew1) | exact HB.out)⟩
def runs_Runs.l0 : Nat → List (S53) → List (S98) → Int → Int → Option ((List (S53)))
  | 0, _, _, _, _ => none
  | k + 1, x3, x7, x8, x9 => if x9 < x8 then (if 0 ≤ x9 then (if x9 < (x7.length : Int) then (if x3.length < 8796093022208 then (runs_Runs.l0 k (x3 ++ [(⟨(rd_T98 x7 x9).f0, (rd_T98 x7 x9).f1⟩ : S53)]) x7 x8 (wrap64 (x9 + 1))) else (none)) else (none)) else (none)) else (some x3)
def runs_Runs.f (k : Nat) (l0 : List Int) : Option ((List (S53))) := (runs_of_uint64.f k l0).bind fun t293 => (runs_Runs.l0 k ([] : List (S53)) t293 (t293.length : Int) 0)
theorem runs_Runs.mono_l : ∀ k, (∀ y0 y1 y2 y3, LeO (runs_Runs.l0 k y0 y1 y2 y3) (runs_Runs.l0 (k + 1) y0 y1 y2 y3))
  | 0 => fun _ _ _ _ r h => by simp [runs_Runs.l0] at h
  | k + 1 => by
    have ih0 := runs_Runs.mono_l k
    · intro y0 y1 y2 y3
      unfold runs_Runs.l0
      repeat' first
      | (with_reducible exact ih0 _ _ _ _)
      | (with_reducible exact runs_of_uint64.mono _ _)
      | (with_reducible exact LeO.refl _)
      | (with_reducible exact LeO.none _)
      | (with_reducible refine LeO.ite ?_ ?_)
      | (with_reducible refine LeO.bind ?_ (fun _ => ?_))
      | exact ih0 _ _ _ _
      | exact runs_of_uint64.mono _ _
      | exact LeO.none _
      | refine LeO.ite ?_ ?_
      | refine LeO.bind ?_ (fun _ => ?_)
theorem runs_Runs.mono : ∀ a0 k, LeO (runs_Runs.f k a0) (runs_Runs.f (k + 1) a0) := by
  intro a0 k
  have ih0 := runs_Runs.mono_l k
  unfold runs_Runs.f
  repeat' first
      | (with_reducible exact ih0 _ _ _ _)
      | (with_reducible exact runs_of_uint64.mono _ _)
      | (with_reducible exact LeO.refl _)
      | (with_reducible exact LeO.none _)
      | (with_reducible refine LeO.ite ?_ ?_)
      | (with_reducible refine LeO.bind ?_ (fun _ => ?_))
      | exact ih0 _ _ _ _
      | exact runs_of_uint64.mono _ _
      | exact LeO.none _
      | refine LeO.ite ?_ ?_
      | refine LeO.bind ?_ (fun _ => ?_)
set_option maxHeartbeats 8000000 in
set_option maxRecDepth 100000 in
theorem runs_Runs.calls (k : Nat) (A0 : Option Addr) (c0 : Nat) (l0 : List Int) (r : List (S53)) (w : World) (hr0 : Kd.C (Kd.int .u64) w A0 l0.length l0) (hc0 : l0.length ≤ c0) (h : runs_Runs.f k l0 = some r) :
    Calls Try.prog 42 #[.slice A0 l0.length c0] w fun e w' => ∃ v0_ : Value, e = .returned (v0_) ∧ Kd.R k53 53 w' w.heap.size (fun _ => True) v0_ r ∧ Below w.heap.size w w' := by
  have hu98 := Try.underlying98
  have hu53 := Try.underlying53
  have HR0 := Aside0.mk hr0
  have HC0 := Aside0.mk hc0
  clear hr0 hc0
  have HB := Aside0.mk (Below.refl w.heap.size w)
  have H : ((runs_of_uint64.f k l0).bind fun t293 => (runs_Runs.l0 k ([] : List (S53)) t293 (t293.length : Int) 0)) = some r := h
  clear h
  replace H := Option.bind_eq_some_iff.mp H
  obtain ⟨t293, A20, H⟩ := H
  replace H : (runs_Runs.l0 k ([] : List (S53)) t293 (t293.length : Int) 0) = some r := H
  have A2 := Aside0.mk A20
  clear A20
  have H' := Aside0.mk H
  clear H
  go_enter Try.func42, Try.ntmps42
  go_wp2_with (first | ((with_reducible refine gate_callee (f := 89) rfl ?_); refine goesL_ (some 7) rfl rfl Try.func89 (by kernel_rfl) rfl #[.slice A0 l0.length c0] rfl (by (try simp only [List.map_toArray, List.map_cons, List.map_nil]); first | done | rfl | (simp only [List.length_drop, List.length_take]; rfl)) ?_; (with_reducible refine (runs_of_uint64.calls k _ _ l0 t293 _ ?side1 ?side2 A2.out).mono ?_); (case side1 => repeat (first | exact HR0.out | (with_reducible refine Kd.C_alloc ?_ _) | (with_reducible refine Kd.C_drewN ?_ _) | (with_reducible refine Kd.C_drew ?_))); (case side2 => exact HC0.out); rintro e w3 ⟨v294, rfl, ho0, hb⟩; refine ⟨_, rfl, ?_⟩; have n0_ := Aside0.mk (Kd.R_lower ho0 (below_size (by repeat (first | (with_reducible first | exact HB.out | apply below_alloc | apply pw_below_drewN | apply below_drew1) | exact HB.out)))); have n1_ := Aside0.mk (below_step (by repeat (first | (with_reducible first | exact HB.out | apply below_alloc | apply pw_below_drewN | apply below_drew1) | exact HB.out)) hb); clear HB; have HO295 := n0_; have HB := n1_; clear n0_ n1_; (try clear hb); (try clear hb2); (try clear hk); (try clear hi); (try clear ho0); obtain ⟨Ao4, co4, eo4⟩ := Kd.R_slice HO295.out; subst eo4))
  go_loopg [3, 9] k (fun kq v3 v9 w' => ∃ (x3_1 : List (S53)) (x9_1 : Int), v9 = .int .i64 x9_1 ∧ Aside0 (runs_Runs.l0 kq x3_1 t293 (t293.length : Int) x9_1 = some r) ∧ Aside0 (kq ≤ k) ∧ Aside0 (Kd.R k53 53 w' w.heap.size (fun _ => True) v3 x3_1) ∧ Aside0 (Kd.R k98 98 w' w.heap.size (fun _ => True) (.slice Ao4 t293.length co4) t293) ∧ Aside0 (Below w.heap.size w w'))
  case atStart => exact ⟨(([] : List (S53))), (0), (by first | rfl | (simp; done) | (simp [*]; done)), H', ⟨Nat.le_refl _⟩, ⟨by first | exact Kd.R_nil _ _ _ _ _ | exact Kd.N_nil _ _ _ _ _ | exact Kd.V_nil _ _ _ _ _ | exact Kd.Q_nil _ _ _ _ _ | exact Kd.S_nil _ _ _ _ _⟩, ⟨by (with_reducible repeat (first | apply Kd.R_alloc | apply Kd.R_drewN | apply Kd.R_drew)); exact HO295.out⟩, ⟨by repeat (first | (with_reducible first | exact HB.out | apply below_alloc | apply pw_below_drewN | apply below_drew1) | exact HB.out)⟩⟩
  case round =>
    clear H'
    try clear p2
    try clear c4
    obtain ⟨x3_1, x9_1, rfl, HA, HK1, HO_3, HO_7, HB⟩ := hrel
    cases gk with
    | zero => exact absurd HA.out (by simp [runs_Runs.l0])
    | succ k1 =>
      have H := HA.out
      clear HA
      simp only [runs_Runs.l0] at H
      by_cases c5 : x9_1 < (t293.length : Int)
      · rw [if_pos c5] at H
        have c5b0 : decide (x9_1 < (t293.length : Int)) = true := decide_eq_true c5
        clear c5
        by_cases c6 : 0 ≤ x9_1
        · rw [if_pos c6] at H
          have c6b0 : decide (0 ≤ x9_1) = true := decide_eq_true c6
          clear c6
          by_cases c7 : x9_1 < (t293.length : Int)
          · rw [if_pos c7] at H
            have c7b0 : decide (x9_1 < (t293.length : Int)) = true := decide_eq_true c7
            clear c7
            by_cases c8 : x3_1.length < 8796093022208
            · rw [if_pos c8] at H
              have LMc8 := Aside0.mk c8
              clear c8
              obtain ⟨y298, hy298⟩ : ∃ y_ : List (S53), y_ = (x3_1 ++ [(⟨(rd_T98 t293 x9_1).f0, (rd_T98 t293 x9_1).f1⟩ : S53)]) := ⟨_, rfl⟩
              replace H : (runs_Runs.l0 k1 y298 t293 (t293.length : Int) (wrap64 (x9_1 + 1))) = some r := by first | (rw [hy298]; with_reducible exact H) | (have H2_ := (Option.bind_some _ _).symm.trans H; rw [hy298]; with_reducible exact H2_) | (have H2_ := (Option.bind_some _ _).symm.trans H; with_reducible exact H2_) | with_reducible exact H | (rw [hy298]; exact H) | exact H
              have Ny298 := Aside0.mk hy298
              clear hy298
              have H' := Aside0.mk H
              clear H
              have p296 : 0 ≤ (x9_1 : Int) := of_decide_eq_true (by first | (with_reducible assumption) | assumption)
              have q296 : x9_1 < (t293.length : Int) := of_decide_eq_true (by first | (with_reducible assumption) | assumption)
              obtain ⟨ad296, e296, hx296_0, hx296_1⟩ := at_T98 (Kd.R_reads' HO_7.out).2.2 x9_1 p296 q296
              cases e296
              replace p296 := eq_true p296
              replace q296 := eq_true q296
              go_wp2_with (first | ((with_reducible refine gate_dst (N := 5) rfl ?_); refine box_event ?hg (N := 5) ?hd (cs := #[.int .u64 0, .int .i64 0]) (t := 98) ?hr ?_; (case hd => rfl); (case hg => rfl); (case hr => first | (go_simp; done) | (go_simp; rfl)); intro gb297 hg w9 hbox hb; have n0_ := Aside0.mk (Kd.R_below (by (with_reducible repeat (first | apply Kd.R_alloc | apply Kd.R_drewN | apply Kd.R_drew)); exact HO_3.out) hb); have n1_ := Aside0.mk (Kd.R_below (Kd.R_elderB (by (with_reducible repeat (first | apply Kd.R_alloc | apply Kd.R_drewN | apply Kd.R_drew)); exact HO_7.out) gb297 (Nat.le_of_eq hg.symm)) hb); have n2_ := Aside0.mk (below_step (by repeat (first | (with_reducible first | exact HB.out | apply below_alloc | apply pw_below_drewN | apply below_drew1) | exact HB.out)) hb); have n3_ := Aside0.mk (hbox); have n4_ := Aside0.mk ((by rw [hg]; exact (below_size (by repeat (first | (with_reducible first | exact HB.out | apply below_alloc | apply pw_below_drewN | apply below_drew1) | exact HB.out))) : w.heap.size ≤ gb297)); have n5_ := Aside0.mk ((by rw [hg]; exact (below_size (by repeat (first | (with_reducible first | exact HB.out | apply below_alloc | apply pw_below_drewN | apply below_drew1) | exact HB.out))) : w.heap.size ≤ gb297)); clear HO_3; clear HO_7; clear HB; have HO_3 := n0_; have HO_7 := n1_; have HB := n2_; have BK297 := n3_; have GW297 := n4_; have GE297 := n5_; clear n0_ n1_ n2_ n3_ n4_ n5_; clear hb hbox hg; have hcz10_0 : w9.cell? ⟨gb297, 0, none⟩ = some (.int .u64 0) := (blk_cell BK297.out 0).trans rfl; have hcz10_1 : w9.cell? ⟨gb297, 1, none⟩ = some (.int .i64 0) := (blk_cell BK297.out 1).trans rfl; have hfz10_0 := blk_frozen BK297.out 0; have hfz10_1 := blk_frozen BK297.out 1) | ((with_reducible refine gate_builtin (b := .append) (xs := #[.tmp 13, .tmp 19]) rfl ?_); at_builtin; refine Kd.R_append k53 (w0 := w) w.heap.size rfl (.tmp 13) (.tmp 19) 39 53 (.agg #[(.int .u64 0), (.int .i64 0)]) 16 rfl Try.underlying39 info53 rfl (by decide) (by omega) u3 x3_1 (⟨(rd_T98 t293 x9_1).f0, (rd_T98 t293 x9_1).f1⟩ : S53) [.int .u64 ((rd_T98 t293 x9_1).f0), .int .i64 ((rd_T98 t293 x9_1).f1)] (fun _ => True) (fun _ => False) rfl (by first | (go_simp; done) | (go_simp; rfl)) ?aP (fun _ hk => hk.elim) ?aF ?aO ?aB ?aS ?aL ?_; (case aP => exact k53_mkM _ _ _ (⟨(rd_T98 t293 x9_1).f0, (rd_T98 t293 x9_1).f1⟩ : S53)); (case aB => exact (by repeat (first | (with_reducible first | exact HB.out | apply below_alloc | apply pw_below_drewN | apply below_drew1 | refine below_set ?_ GE297.out) | exact HB.out))); (case aF => exact (fun _ _ => trivial)); (case aO => exact (by (with_reducible repeat (first | apply Kd.R_alloc | apply Kd.R_drewN | apply Kd.R_drew)); exact Kd.R_mono (Kd.R_far (p := ⟨gb297, 1, none⟩) (Kd.R_far (p := ⟨gb297, 0, none⟩) (Kd.R_types HO_3.out BK297.out (by decide)) (fun _ hk => hk.2) (.int .u64 ((rd_T98 t293 x9_1).f0))) (fun _ hk => hk.2) (.int .i64 ((rd_T98 t293 x9_1).f1))) (fun _ hk => trivial))); (case aS => exact (below_size (by repeat (first | (with_reducible first | exact HB.out | apply below_alloc | apply pw_below_drewN | apply below_drew1 | refine below_set ?_ GE297.out) | exact HB.out)))); (case aL => have := LMc8.out; omega); intro v299 w11 ho hb hg hat; rw [← Ny298.out] at ho; have n0_ := Aside0.mk (Kd.R_over' (by (with_reducible repeat (first | apply Kd.R_alloc | apply Kd.R_drewN | apply Kd.R_drew)); exact (Kd.R_mono (Kd.R_far (p := ⟨gb297, 1, none⟩) (Kd.R_far (p := ⟨gb297, 0, none⟩) (Kd.R_mono HO_7.out (fun k_ hk => (⟨hk, hk.2⟩ : _ ∧ k_ ≠ gb297))) (fun _ hk => hk.2) (.int .u64 ((rd_T98 t293 x9_1).f0))) (fun _ hk => hk.2) (.int .i64 ((rd_T98 t293 x9_1).f1))) (fun _ h_ => h_.1))) (Kd.R_typed (by (with_reducible repeat (first | apply Kd.R_alloc | apply Kd.R_drewN | apply Kd.R_drew)); exact (Kd.R_mono (Kd.R_far (p := ⟨gb297, 1, none⟩) (Kd.R_far (p := ⟨gb297, 0, none⟩) (Kd.R_types HO_3.out BK297.out (by decide)) (fun _ hk => hk.2) (.int .u64 ((rd_T98 t293 x9_1).f0))) (fun _ hk => hk.2) (.int .i64 ((rd_T98 t293 x9_1).f1))) (fun _ h_ => h_.1)))) (by decide) hg); have n1_ := Aside0.mk (blk_grown (g := gb297) (o := .cells #[.int .u64 ((rd_T98 t293 x9_1).f0), .int .i64 ((rd_T98 t293 x9_1).f1)] 98 (0, 0)) (by (with_reducible repeat (first | refine blk_drewN ?_ _ | refine blk_drew ?_ | refine blk_alloc ?_ _)); refine blk_put (cs := #[.int .u64 ((rd_T98 t293 x9_1).f0), .int .i64 0]) ?_ 1 _ rfl; (with_reducible repeat (first | refine blk_drewN ?_ _ | refine blk_drew ?_ | refine blk_alloc ?_ _)); refine blk_put (cs := #[.int .u64 0, .int .i64 0]) ?_ 0 _ rfl; (with_reducible repeat (first | refine blk_drewN ?_ _ | refine blk_drew ?_ | refine blk_alloc ?_ _)); exact BK297.out) hg (Kd.R_ne HO_3.out BK297.out (by decide))); have n2_ := Aside0.mk (hb); have n3_ := Aside0.mk (ho); clear HO_7; clear BK297; clear HB; clear HO_3; have HO_7 := n0_; have BK297 := n1_; have HB := n2_; have HO300 := n3_; clear n0_ n1_ n2_ n3_; clear ho hb hg hat))
              go_roundg k1
              case measure => have := HK1.out; omega
              case rel => exact ⟨(y298), (wrap64 (x9_1 + 1)), (by first | rfl | (simp; done) | (simp [*]; done)), H', ⟨by have := HK1.out; omega⟩, ⟨by (with_reducible repeat (first | apply Kd.R_alloc | apply Kd.R_drewN | apply Kd.R_drew)); exact HO300.out⟩, ⟨by (with_reducible repeat (first | apply Kd.R_alloc | apply Kd.R_drewN | apply Kd.R_drew)); exact Kd.R_mono HO_7.out (fun _ hk => trivial)⟩, ⟨by repeat (first | (with_reducible first | exact HB.out | apply below_alloc | apply pw_below_drewN | apply below_drew1 | refine below_set ?_ GE297.out) | exact HB.out)⟩⟩
            · rw [if_neg c8] at H
              exact absurd H (by simp)
          · rw [if_neg c7] at H
            exact absurd H (by simp)
        · rw [if_neg c6] at H
          exact absurd H (by simp)
      · rw [if_neg c5] at H
        have c5b0 : decide (x9_1 < (t293.length : Int)) = false := decide_eq_false c5
        clear c5
        obtain rfl := Option.some.inj H
        go_wp2
        go_ret
        exact ⟨_, by first | rfl | (simp [errW_none, errW_some] <;> rfl) | (simp [*, errW_none, errW_some] <;> rfl), by (with_reducible repeat (first | apply Kd.R_alloc | apply Kd.R_drewN | apply Kd.R_drew)); exact HO_3.out, by repeat (first | (with_reducible first | exact HB.out | apply below_alloc | apply pw_below_drewN | apply below_drew1) | exact HB.out)⟩
def runs_Encode.g (k : Nat) : List S98 → ByteArray → Option ByteArray
  | [], acc => some acc
  | x :: xs, acc => (pack_Put.f k x.f0).bind fun a => (pack_Put.f k (IntKind.u64.wrap x.f1)).bind fun b => if acc.size + a.size + b.size ≤ 140737488355328 then runs_Encode.g k xs ((acc ++ a) ++ b) else none
def runs_Encode.f (k : Nat) (l0 : List Int) : Option ByteArray := (runs_of_uint64.f k l0).bind fun t => if t.length < 4611686018427387904 then runs_Encode.g k t ByteArray.empty else none
theorem runs_Encode.mono : ∀ a0 k, LeO (runs_Encode.f k a0) (runs_Encode.f (k + 1) a0) := by
  have hg : ∀ (k : Nat) (l : List S98) (acc : ByteArray), LeO (runs_Encode.g k l acc) (runs_Encode.g (k + 1) l acc) := by
    intro k l
    induction l with
    | nil => intro acc; exact LeO.refl _
    | cons x xs ih =>
      intro acc
      unfold runs_Encode.g
      refine LeO.bind (pack_Put.mono _ _) fun a => LeO.bind (pack_Put.mono _ _) fun b => LeO.ite (ih _) (LeO.refl _)
  intro a0 k
  exact LeO.bind (runs_of_uint64.mono _ _) fun t => LeO.ite (hg k t _) (LeO.refl _)
set_option maxHeartbeats 8000000 in
set_option maxRecDepth 100000 in
theorem runs_Encode.calls (k : Nat) (A0 : Option Addr) (c0 : Nat) (l0 : List Int) (r : ByteArray) (w : World) (hr0 : Kd.C (Kd.int .u64) w A0 l0.length l0) (hc0 : l0.length ≤ c0) (h : runs_Encode.f k l0 = some r) :
    Calls Try.prog 44 #[.slice A0 l0.length c0] w fun e w' => e = .returned (.string r) ∧ Below w.heap.size w w' := by
  have hu98 := Try.underlying98
  have H := h
  clear h
  unfold runs_Encode.f at H
  obtain ⟨t, A20, H⟩ := Option.bind_eq_some_iff.mp H
  have A2 := Aside0.mk A20
  by_cases hlen : t.length < 4611686018427387904
  case neg => rw [if_neg hlen] at H; exact absurd H (by simp)
  rw [if_pos hlen] at H
  have LM := Aside0.mk hlen
  clear hlen
  have H' := Aside0.mk H
  have HR0 := Aside0.mk hr0
  have HC0 := Aside0.mk hc0
  clear A20 H hr0 hc0
  have HB := Aside0.mk (Below.refl w.heap.size w)
  go_enter Try.func44, Try.ntmps44
  go_wp2_with (go_at_call 89; (with_reducible refine (runs_of_uint64.calls k _ _ l0 t _ ?side1 ?side2 A2.out).mono ?_); (case side1 => (with_reducible refine Kd.C_alloc ?_ _); exact HR0.out); (case side2 => exact HC0.out); rintro e w3 ⟨v0, rfl, ho0, hb⟩; obtain ⟨Ao4, co4, eo4⟩ := Kd.R_slice ho0; subst eo4)
  have hbb : w3.heap[w.heap.size]? = some (.cells #[.pointer none, .slice none 0 0] 102 (0, 0)) := by rw [hb.block _ (by show _ < (w.heap.push _).size; simp)]; show (w.heap.push _)[w.heap.size]? = _; simp
  have hBld : Build.Bld w.heap.size w.heap.size ByteArray.empty w3 := (Build.Bld.fresh w).below hb
  have HO := Aside0.mk (Kd.R_lower ho0 (show w.heap.size ≤ (w.alloc (.cells #[.pointer none, .slice none 0 0] 102)).heap.size from by show _ ≤ (w.heap.push _).size; simp))
  have HB3 := Aside0.mk (below_step (by repeat (first | (with_reducible first | exact HB.out | apply below_alloc | apply pw_below_drewN | apply below_drew1) | exact HB.out)) hb)
  have HBl := Aside0.mk hBld
  clear hb ho0 hBld hbb HB
  go_loopg [9] (t.length + 1) (fun kq v9 w' => ∃ (x9 : Int) (acc : ByteArray), v9 = .int .i64 x9 ∧ Aside0 (0 ≤ x9 ∧ x9 ≤ t.length ∧ (kq : Int) + x9 = t.length + 1) ∧ Aside0 (runs_Encode.g k (t.drop x9.toNat) acc = some r) ∧ Aside0 (Build.Bld w.heap.size w.heap.size acc w') ∧ Aside0 (Kd.R k98 98 w' w.heap.size (fun _ => True) (.slice Ao4 t.length co4) t) ∧ Aside0 (Below w.heap.size w w'))
  case atStart => exact ⟨0, ByteArray.empty, by simp, ⟨by omega⟩, H', HBl, HO, HB3⟩
  case round =>
    clear HO HB3 HBl H'
    obtain ⟨x9, acc, rfl, HK, HG, HBl, HO, HB⟩ := hrel
    cases gk with
    | zero => have := HK.out; exact absurd this (by omega)
    | succ k1 =>
      by_cases hi : x9 < (t.length : Int)
      · have c5b0 : decide (x9 < (t.length : Int)) = true := decide_eq_true (by omega)
        have hk9 := HK.out
        have hdrop : t.drop x9.toNat = rd_T98 t x9 :: t.drop (x9.toNat + 1) := by
          rw [List.drop_eq_getElem_cons (show x9.toNat < t.length by omega)]
          congr 1
          unfold rd_T98
          simp [List.getD_eq_getElem?_getD, show x9.toNat < t.length by omega]
        have hG := HG.out
        clear HG
        rw [hdrop] at hG
        unfold runs_Encode.g at hG
        obtain ⟨a, A30, hG⟩ := Option.bind_eq_some_iff.mp hG
        obtain ⟨b, A40, hG⟩ := Option.bind_eq_some_iff.mp hG
        by_cases hz : acc.size + a.size + b.size ≤ 140737488355328
        · rw [if_pos hz] at hG
          have H' := Aside0.mk hG
          have A3 := Aside0.mk A30
          have A4 := Aside0.mk A40
          clear hG A30 A40 hdrop
          have p290 : 0 ≤ x9 := by omega
          have q290 : x9 < (t.length : Int) := by omega
          obtain ⟨ad290, e290, hx290_0, hx290_1⟩ := at_T98 (Kd.R_reads' HO.out).2.2 x9 p290 q290
          cases e290
          have hi0 := Aside0.mk hi
          clear hi hk9
          replace p290 := eq_true p290
          replace q290 := eq_true q290
          go_wp2_with (go_at_call 78; (with_reducible refine (pack_Put.calls k _ a _ A3.out).mono ?_); rintro e w5 ⟨rfl, hb⟩; have n0_ := Aside0.mk ((HBl.out.alloc _).below hb); have n1_ := Aside0.mk (Kd.R_below (Kd.R_alloc HO.out _) hb); have n2_ := Aside0.mk (below_step (by repeat (first | (with_reducible first | exact HB.out | apply below_alloc | apply pw_below_drewN | apply below_drew1) | exact HB.out)) hb); have hk5 := (hb.block wr.heap.size (by show _ < (wr.heap.push _).size; simp)).trans (blk_new wr _); clear HBl HO HB hb hx290_0 hx290_1; have HBl := n0_; have HO := n1_; have HB := n2_; clear n0_ n1_ n2_)
          go_wp2_with (go_at_call 90; (with_reducible refine (Build.write w.heap.size w.heap.size acc a _ HBl.out (by omega) (below_size HB.out)).mono ?_); rintro e w6 ⟨rfl, hbl, hb, hk⟩; obtain ⟨bs, hbs⟩ := HBl.out.block; have n0_ := Aside0.mk (Build.R_kept HO.out hk ⟨bs, hbs⟩ (by decide)); have n2_ := Aside0.mk (HB.out.trans hb); have hk6 := Build.block_kept hk hbs hk5 (by decide); have hc1 : w6.cell? ⟨wr.heap.size, 1, none⟩ = some (.int .i64 (rd_T98 t x9).f1) := (blk_cell hk6 1).trans rfl; clear HBl HO HB hb hk hk5 hbs; have HBl := Aside0.mk hbl; have HO := n0_; have HB := n2_; clear n0_ n2_ hbl)
          go_wp2_with (go_at_call 78; (with_reducible refine (pack_Put.calls k _ b _ A4.out).mono ?_); rintro e w7 ⟨rfl, hb⟩; have n0_ := Aside0.mk (HBl.out.below hb); have n1_ := Aside0.mk (Kd.R_below HO.out hb); have n2_ := Aside0.mk (below_step HB.out hb); clear HBl HO HB hb hc1; have HBl := n0_; have HO := n1_; have HB := n2_; clear n0_ n1_ n2_)
          go_wp2_with (go_at_call 90; (with_reducible refine (Build.write w.heap.size w.heap.size (acc ++ a) b _ HBl.out (by rw [ByteArray.size_append]; omega) (below_size HB.out)).mono ?_); rintro e w8 ⟨rfl, hbl, hb, hk⟩; have n0_ := Aside0.mk (Build.R_kept HO.out hk HBl.out.block (by decide)); have n2_ := Aside0.mk (HB.out.trans hb); clear HBl HO HB hb hk; have HBl := Aside0.mk hbl; have HO := n0_; have HB := n2_; clear n0_ n2_ hbl)
          go_roundg k1
          case measure => have := HK.out; omega
          case rel => exact ⟨wrap64 (x9 + 1), (acc ++ a) ++ b, (by first | rfl | (simp; done) | (simp [*]; done)), ⟨by have := HK.out; have := hi0.out; have := LM.out; unfold wrap64; omega⟩, ⟨by rw [show (wrap64 (x9 + 1)).toNat = x9.toNat + 1 by have := HK.out; have := LM.out; unfold wrap64; omega]; exact H'.out⟩, HBl, HO, HB⟩
        · rw [if_neg hz] at hG
          exact absurd hG (by simp)
      · have c5b0 : decide (x9 < (t.length : Int)) = false := decide_eq_false hi
        have hk9 := HK.out
        have hG := HG.out
        rw [List.drop_eq_nil_of_le (by omega)] at hG
        unfold runs_Encode.g at hG
        obtain rfl := Option.some.inj hG
        clear hG HG hi hk9
        go_wp2_with (go_at_call 91; (with_reducible refine (Build.string w.heap.size w.heap.size acc _ HBl.out (below_size HB.out)).mono ?_); rintro e w9 ⟨rfl, hb, hk⟩; have n2_ := Aside0.mk (HB.out.trans hb); clear HB; have HB := n2_; clear n2_)
        go_ret
        exact ⟨rfl, HB.out⟩
end Go.Proofs.Ytbgjoiccehiglaa.Print
end
