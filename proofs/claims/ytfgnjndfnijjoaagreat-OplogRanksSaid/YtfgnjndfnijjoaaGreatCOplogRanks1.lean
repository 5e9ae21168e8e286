/- Part 1 of what OplogRanks stands on: merged by a program of this session out of its texts. -/
import Derived.OpenShut
import Derived.ChangeArms
import Derived.ChangeSlices
import Derived.DataElems
import Derived.Shelf.Strings.Builder1
import Derived.Shelf.Strings.BuilderF
import Derived.Shelf.Strings.BuilderK
import Derived.Shelf.Bits.Mul64
import Derived.Test.YtfgnjndfnijjoaaGreatProg
import Derived.WalkKit
import Derived.RowKit3
import Derived.Below
import Derived.Deep.Draws
import Derived.Deep.AppendLies
import Derived.Maps.AppendAt
import Derived.OwnWalk
import Derived.Laws.BytesArg
import Derived.Laws.MakeOwn
import Derived.Laws.OwnMore
import Derived.Deep.OwnRows
import Derived.Tactics
import Derived.Lib.ConvBytes
import Derived.Laws.Slices
import Derived.KernelRfl
import Derived.Deep.LoopGhost
import Derived.Deep.QuietTactic
import Derived.BigQuiet
import Derived.WideLaws
import Derived.Deep.DeepCutAuto
import Derived.Deep.CutBlock
import Derived.Deep.RegionHeld3
import Derived.Laws.Rows
import Derived.Lib.AppendStr
import Derived.ArgAppend
import Derived.Laws.IdiomCopy
import Derived.OrdersHeld
import Derived.Laws.BitsLemmas
import Derived.RowKit
import Derived.Defers
import Derived.Recover
import Derived.WalkMore
import Derived.Laws.FloatArith
import Derived.WalkLawsBesides
import Derived.Laws.CopyOwn
import Derived.Deep.RegionLaw
import Derived.Maps.OwnSet
import Derived.RangeFuncNested
import Derived.RangeFuncBound
import Derived.RangeFuncCalls
import Derived.RangeFuncLeaves
import Derived.RangeFuncBox
import Derived.Shelf.Abstract
import Derived.Shelf.RegionOpen
import Derived.IntWalk
import Derived.OwnWalkIn
import Derived.TacticsInMore
import Derived.LoopNIn
import Derived.LoopIn
import Derived.Test.YtfgnjndfnijjoaaGreatCOplogRanks0
section
namespace Go.Proofs.YtfgnjndfnijjoaaGreat.LibO
open Go.RowKit Go.Proofs.YtfgnjndfnijjoaaGreatW.PrintWords Go.Proofs.YtfgnjndfnijjoaaGreatW.PrintLast Go.Proofs.YtfgnjndfnijjoaaGreatW.PrintMore Go.ChangeShapes
section
variable {H : Type} {enc : TypeId × Value → H} {P : Program} {W : World} {base : Nat} {spare : Nat → Bool} {held : Bool}
def DD (enc : TypeId × Value → H) (P : Program) (W : World) (base : Nat) (spare : Nat → Bool) (held : Bool) {α : Type} (d : Kd α) (Q : α → Prop) (t : TypeId) : Prop :=
  ∀ fuel cs x, DataW.trod enc P W base spare held fuel t cs = some x → ∃ a, d.K W a cs ∧ Q a
theorem GQ {t : TypeId} (ht : P.underlying t = some (.float .f64)) {fuel : Nat} {cs : List Value} {x : DataW H × List MemPlace} (h : DataW.trod enc P W base spare held fuel t cs = some x) : ∃ b, cs = [.float .f64 b] ∧ (Lit.float .f64 b).wf = true := by
 cases fuel with
 | zero => simp [DataW.trod] at h
 | succ n =>
  unfold DataW.trod at h; rw [ht] at h
  split at h <;> simp_all
theorem FO {t : TypeId} (ht : P.underlying t = some (.float .f64)) : DD enc P W base spare held Kd.flt (fun x => ∃ b, FB b x) t := fun fuel cs x h => by
  obtain ⟨b, rfl, hw⟩ := GQ ht h
  have hb : b < 18446744073709551616 := of_decide_eq_true hw
  exact ⟨((dD b : Nat) : Int), ⟨b, rfl, ⟨hb, rfl⟩⟩, b, ⟨hb, rfl⟩⟩
theorem GR {a : Addr} {n : Nat} {cs : List Value} (h : W.cells? base a n = some cs) : cs.length = n ∧ ∀ i u, cs[i]? = some u → W.cell? (a.add i) = some u := by
 unfold World.cells? at h
 split at h
 ·
  have hl := mapM_some_length h; rw [List.length_range] at hl; refine ⟨hl, fun i u hu => ?_⟩; have hi : i < cs.length := (List.getElem?_eq_some_iff.mp hu).1; have := mapM_some_get h i i (by rw [List.getElem?_range (by omega)]); rw [this, hu]
 · exact absurd h (by simp)
theorem row_of {α : Type} {d : Kd α} {Q : α → Prop} {t e : TypeId} {fuel : Nat} {cs : List Value} {x : DataW H × List MemPlace} (ht : P.underlying t = some (.slice e)) (hc : P.cellsOf e = d.sz) (h : DD enc P W base spare held d Q e)
    (hx : DataW.trod enc P W base spare held fuel t cs = some x) : ∃ (A : Option Addr) (c : Nat) (l : List α), cs = [.slice A l.length c] ∧ l.length ≤ c ∧ c ≤ maxLen ∧ Kd.C d W A l.length l ∧ ∀ y ∈ l, Q y := by
 rcases DataW.trod_slice ht hx with ⟨rfl, _⟩ | ⟨a, len, cap, elems, rest, n, _, rfl, rfl, hb, hl, hm, hlen, hel, hsp, hns⟩
 · exact ⟨none, 0, [], rfl, Nat.le_refl _, Nat.zero_le _, ⟨rfl, Nat.zero_le _, fun h => absurd h (Nat.lt_irrefl 0)⟩, fun y hy => by simp at hy⟩
 ·
  have key : ∀ m, m ≤ len → ∃ l : List α, l.length = m ∧ (∀ y ∈ l, Q y) ∧ ∀ j p, l[j]? = some p → ∃ c, c.length = d.sz ∧ d.K W p c ∧ ∀ i u, c[i]? = some u → W.cell? (a.add (j * d.sz + i)) = some u := by
   intro m
   induction m with
   | zero => exact fun _ => ⟨[], rfl, fun y hy => by simp at hy, fun j p hj => by simp at hj⟩
   | succ m ih =>
    intro hm1; obtain ⟨l, h1, h2, h3⟩ := ih (by omega); have hme := hel m (by omega); rw [List.getElem?_eq_getElem (by omega), Option.bind_eq_some_iff] at hme; obtain ⟨cs', hcs, hy⟩ := hme; obtain ⟨p, hk, hq⟩ := h _ _ _ hy; obtain ⟨hcl, hcell⟩ := GR hcs; refine ⟨l ++ [p], by simp [h1], fun y hy => ?_, fun j q hj => ?_⟩
    ·
     rcases List.mem_append.mp hy with hy | hy
     · exact h2 y hy
     · simp at hy; subst hy; exact hq
    ·
     by_cases hjm : j < l.length
     ·
      rw [List.getElem?_append_left hjm] at hj; exact h3 j q hj
     ·
      rw [List.getElem?_append_right (by omega)] at hj
      have hj0 : j - l.length = 0 := by
       have := (List.getElem?_eq_some_iff.mp hj).1
       simp at this
       omega
      rw [hj0] at hj; obtain rfl : p = q := by simpa using hj
      obtain rfl : j = m := by omega
      refine ⟨cs', by rw [hcl, hc], hk, fun i u hu => ?_⟩; have := hcell i u hu; rw [hc] at this
      rwa [Addr.add_add] at this
  obtain ⟨l, h1, h2, h3⟩ := key len (Nat.le_refl _); have hmx : maxLen ≤ 9223372036854775807 := by decide
  exact ⟨some a, cap, l, by rw [h1], by omega, hm, ⟨rfl, by omega, fun _ => ⟨a, rfl, h3⟩⟩, h2⟩
theorem FP {α : Type} {d : Kd α} {Q : α → Prop} {t e : TypeId} {a : Option Addr} {len cap : Nat} {dd : DataW H} {ps : List MemPlace} (ht : P.underlying t = some (.slice e)) (hc : P.cellsOf e = d.sz) (h : DD enc P W base spare held d Q e)
    (hx : DataW.Trod enc P W base spare held t (.slice a len cap) dd ps) : ∃ l : List α, len = l.length ∧ l.length ≤ cap ∧ l.length ≤ maxLen ∧ Kd.C d W a l.length l ∧ ∀ y ∈ l, Q y := by
 obtain ⟨fuel, hf⟩ := hx; obtain ⟨A, c, l, he, h1, h2, h3, h4⟩ := row_of ht hc h hf
 simp [Value.cells] at he
 obtain ⟨rfl, rfl, rfl⟩ := he; exact ⟨l, rfl, h1, by omega, h3, h4⟩
end
end Go.Proofs.YtfgnjndfnijjoaaGreat.LibO
end
section
namespace Go.Proofs
open Go.Shelf
def Tryz.uM : Go.Shelf.Ren := ⟨fun | 169 => 86 | n => n, fun | 70 => 101 | 9 => 9 | 0 => 0 | 72 => 104 | 37 => 102 | 127 => 164 | 3 => 3 | 5 => 5 | n => n, fun | n => n⟩
theorem Tryz.J5 : Go.Proofs.Lays.n169 Tryz.prog Tryz.uM := {
  mixed := by kernel_rfl
  f169 := Tryz.func86.trans (congrArg some (by kernel_rfl))
  t0 := Tryz.underlying0
  a0 := Tryz.isAgg0
  z0 := Tryz.sizeOf0
  v0 := Tryz.zeroValue0
  t3 := Tryz.underlying3
  a3 := Tryz.isAgg3
  z3 := Tryz.sizeOf3
  v3 := Tryz.zeroValue3
  t9 := Tryz.underlying9
  a9 := Tryz.isAgg9
  z9 := Tryz.sizeOf9
  v9 := Tryz.zeroValue9
  t37 := Tryz.underlying102
  a37 := Tryz.isAgg102
  z37 := Tryz.sizeOf102
  v37 := Tryz.zeroValue102
  t70 := Tryz.underlying101
  a70 := Tryz.isAgg101
  z70 := Tryz.sizeOf101
  v70 := Tryz.zeroValue101
  t72 := Tryz.underlying104
  a72 := Tryz.isAgg104
  z72 := Tryz.sizeOf104
  v72 := Tryz.zeroValue104
  t127 := Tryz.underlying164
  a127 := Tryz.isAgg164
  z127 := Tryz.sizeOf164
  v127 := Tryz.zeroValue164 }
theorem Tryz.uG : Builder.Extra Tryz.prog Tryz.uM := {
  sizeBuilder := by kernel_rfl
  liesBuilder := by kernel_rfl
  t5 := Tryz.underlying5
  a5 := Tryz.isAgg5
  z5 := Tryz.sizeOf5
  v5 := Tryz.zeroValue5
  infoByte := by kernel_rfl
  cellsByte := by kernel_rfl
  sizeByte := by kernel_rfl
  neB5 := by decide }
open Go.RowKit in
theorem Tryz.Builder_String_any_k (B b : Nat) (l : List UInt8) (w : World) (h : Lib.IsBuilderF 104 5 B b (Lib.byteCells l) w) (hBw : B ≤ w.heap.size) :
    Calls Tryz.prog 86 #[.pointer (some ⟨b, 0, none⟩)] w fun e w' => e = .returned (.string ⟨l.toArray⟩) ∧ (Lib.IsBuilderF 104 5 B b (Lib.byteCells l) w' ∧ Below B w w' ∧ Lib.OthersKept 5 (some b) w w') := Any.Builder_String_any_k Tryz.J5 Tryz.uG B b l w h hBw
def Tryz.CC : Go.Shelf.Ren := ⟨fun | 212 => 176 | 263 => 181 | 264 => 182 | n => n, fun | 46 => 118 | 51 => 206 | 146 => 207 | 53 => 60 | 148 => 209 | n => n, fun | n => n⟩
theorem Tryz.J6 : Go.Proofs.Lays.n212 Tryz.prog Tryz.CC := {
  mixed := by kernel_rfl
  f212 := Tryz.func176.trans (congrArg some (by kernel_rfl))
  f263 := Tryz.func181.trans (congrArg some (by kernel_rfl))
  f264 := Tryz.func182.trans (congrArg some (by kernel_rfl))
  t46 := Tryz.underlying118
  a46 := Tryz.isAgg118
  z46 := Tryz.sizeOf118
  v46 := Tryz.zeroValue118
  t51 := Tryz.underlying206
  a51 := Tryz.isAgg206
  z51 := Tryz.sizeOf206
  v51 := Tryz.zeroValue206
  t53 := Tryz.underlying60
  a53 := Tryz.isAgg60
  z53 := Tryz.sizeOf60
  v53 := Tryz.zeroValue60
  t146 := Tryz.underlying207
  a146 := Tryz.isAgg207
  z146 := Tryz.sizeOf207
  v146 := Tryz.zeroValue207
  t148 := Tryz.underlying209
  a148 := Tryz.isAgg209
  z148 := Tryz.sizeOf209
  v148 := Tryz.zeroValue209 }
open Go.RowKit Go.Lib in
theorem Tryz.bits_Mul (x y : Nat) (hx : x < 18446744073709551616) (hy : y < 18446744073709551616) (w : World) :
    Calls Tryz.prog 176 #[.int .u64 x, .int .u64 y] w fun e w' => e = .returned (.tuple #[.int .u64 ((x * y / 18446744073709551616 : Nat) : Int), .int .u64 ((x * y % 18446744073709551616 : Nat) : Int)]) ∧ w' = w := Any.bits_Mul Tryz.J6 x y hx hy w
end Go.Proofs
end
section
namespace Go.Proofs.YtfgnjndfnijjoaaGreat.Build
open Go.RowKit Go.Shelf
theorem CU : (Tryz.prog.info? 104).map (·.size) = some 2 := by kernel_rfl
theorem J7 : liesAt Tryz.prog Tryz.prog.depth 104 (2 / Tryz.prog.cellsOf 104) 0 104 1 = true := by kernel_rfl
theorem infoByte : (Tryz.prog.info? 5).map (fun i => (i.zero, i.size, i.bytes)) = some (some (.int .u8 0), 1, 1) := by kernel_rfl
set_option maxHeartbeats 1000000 in
set_option maxRecDepth 100000 in
theorem DE (b : Nat) (w : World) (h0 : w.cell? ⟨b, 0, none⟩ = some (.pointer (some ⟨b, 0, none⟩))) :
    Calls Tryz.prog 144 #[.pointer (some ⟨b, 0, none⟩)] w fun e w' => e = .returned (.tuple #[]) ∧ w' = w := by
 obtain ⟨j, hj, _⟩ := Option.map_eq_some_iff.1 CU; go_enter Tryz.func144, Tryz.ntmps144
 go_wp2
 rw [Lib.run_neq_ptr_same w _ Tryz.underlying101 hj]
 go_wp2
 go_end0
 exact ⟨rfl, rfl⟩
set_option maxHeartbeats 1000000 in
set_option maxRecDepth 100000 in
theorem CD (b : Nat) (w : World) (h0 : w.cell? ⟨b, 0, none⟩ = some (.pointer none)) (hsh : w.shape? b = some (104, 2)) (hfz : w.frozen? ⟨b, 0, none⟩ = false) :
    Calls Tryz.prog 144 #[.pointer (some ⟨b, 0, none⟩)] w fun e w' => e = .returned (.tuple #[]) ∧ w' = w.setCell ⟨b, 0, none⟩ (.pointer (some ⟨b, 0, none⟩)) := by
 obtain ⟨j, hj, hjs⟩ := Option.map_eq_some_iff.1 CU; go_enter Tryz.func144, Tryz.ntmps144
 go_wp2
 rw [Lib.run_to_unsafe w ⟨b, 0, none⟩ Tryz.underlying101 Tryz.underlying192 hj (by rw [hjs]; decide) hsh (Nat.zero_lt_succ 1)]; simp only [Result.andThen]; rw [Oper.upon_value]
 go_wp2
 rw [run_callFunc_extern Tryz.func171 (by kernel_rfl) (by kernel_rfl) (by kernel_rfl) (e := Extern.AbiNoEscape.same) (by kernel_rfl)]; rw [Lib.run_noEscape]; simp only [Result.andThen]; rw [Oper.upon_value]
 go_wp2
 rw [Lib.run_from_unsafe w ⟨b, 0, none⟩ Tryz.underlying192 Tryz.underlying101 hj hsh J7]; simp only [Result.andThen]; rw [Oper.upon_value]
 go_wp2
 go_end0
 exact ⟨rfl, rfl⟩
def Bld (B b : Nat) (s : ByteArray) (w : World) : Prop := Lib.IsBuilderF 104 5 B b (Lib.strCells s) w
theorem Bld.fresh (w : World) : Bld w.heap.size w.heap.size ByteArray.empty (w.alloc (.cells #[.pointer none, .slice none 0 0] 104)) := Lib.IsBuilderF.of (Lib.fresh_isBuilder 104 5 w)
theorem Bld.alloc {B b : Nat} {s : ByteArray} {w : World} (h : Bld B b s w) (o : Obj) : Bld B b s (w.alloc o) := Lib.IsBuilderF.alloc h o
theorem Bld.drewN {B b : Nat} {s : ByteArray} {w : World} (h : Bld B b s w) (n : Nat) : Bld B b s (w.drewN n) := h
theorem FQ (s t : ByteArray) : Lib.strCells s ++ Lib.strCells t = Lib.strCells (s ++ t) := by simp [Lib.strCells]
theorem check (B b : Nat) (s : ByteArray) (w : World) (h : Bld B b s w) :
    Calls Tryz.prog 144 #[.pointer (some ⟨b, 0, none⟩)] w fun e w' => e = .returned (.tuple #[]) ∧ (Lib.BuilderAtF 104 5 B b (.pointer (some ⟨b, 0, none⟩)) (Lib.strCells s) w' ∧ Below B w w' ∧ Lib.OthersKept 5 (some b) w w') := by
 rcases h with h | h
 ·
  refine (CD b w h.cell0 h.shape h.frozen0).mono ?_; rintro e w' ⟨rfl, rfl⟩; exact ⟨rfl, h.used _, (Below.refl B w).setCell (p := ⟨b, 0, none⟩) h.1 _, (Lib.OthersKept.refl _ _ w).setCell ⟨b, 0, none⟩ rfl _⟩
 ·
  refine (DE b w h.cell0).mono ?_; rintro e w' ⟨rfl, rfl⟩; exact ⟨rfl, h, Below.refl B _, Lib.OthersKept.refl _ _ _⟩
set_option maxHeartbeats 2000000 in
set_option maxRecDepth 100000 in
theorem write (B b : Nat) (s t : ByteArray) (w : World) (h : Bld B b s w) (hlen : s.size + t.size ≤ 140737488355328) (hBw : B ≤ w.heap.size) :
    Calls Tryz.prog 85 #[.pointer (some ⟨b, 0, none⟩), .string t] w fun e w' => e = .returned (.tuple #[.int .i64 t.size, .nilIface]) ∧ Bld B b (s ++ t) w' ∧ Below B w w' ∧ Lib.OthersKept 5 (some b) w w' := by
 obtain ⟨i0, hi, hz0, hz1, hz2⟩ := info_parts infoByte; have hsl := Lib.strCells_length s; go_enter Tryz.func85, Tryz.ntmps85
 go_wp2_with (go_at_call 144; refine (check B b s _ h).mono ?_)
 rintro e w1 ⟨rfl, h1, hb1, hk1⟩; obtain ⟨hB, v, hbk, hown, hne⟩ := h1; have c0 : w1.cell? ⟨b, 0, none⟩ = some (.pointer (some ⟨b, 0, none⟩)) := by rw [Lib.cell_of_heap hbk]; rfl
 have c1 : w1.cell? ⟨b, 1, none⟩ = some v := by rw [Lib.cell_of_heap hbk]; rfl
 go_wp2_with (at_builtin; refine Lib.wpList_append_own_stringF _ rfl _ _ 102 9 rfl B 5 i0 Tryz.underlying102 Tryz.underlying9 hi hz0 hz1 hz2 _ _ _ rfl hown t rfl ?c3 ?c4 ?c5 ?_)
 case c3 => unfold maxLen; omega
 case c4 => omega
 case c5 => have := hb1.size; omega
 intro v' w2 hown' hgrow _
 have hlt : b < w1.heap.size := by
  rcases Nat.lt_or_ge b w1.heap.size with h' | h'
  · exact h'
  · simp [Array.getElem?_eq_none h'] at hbk
 have hb2 : w2.heap[b]? = some (.cells #[.pointer (some ⟨b, 0, none⟩), v] 104 (0, 0)) := by
  rw [hgrow.block b hlt (fun e => hne e.symm)]; exact hbk
 have d0 : w2.cell? ⟨b, 0, none⟩ = some (.pointer (some ⟨b, 0, none⟩)) := by rw [Lib.cell_of_heap hb2]; rfl
 have d1 : w2.cell? ⟨b, 1, none⟩ = some v := by rw [Lib.cell_of_heap hb2]; rfl
 have f1 : w2.frozen? ⟨b, 1, none⟩ = false := Lib.frozen_of_heap hb2 1
 obtain ⟨ao, n', cap, rfl⟩ : ∃ ao n' cap, v' = .slice ao n' cap := by
  rcases hown'.2 with ⟨hv, _⟩ | ⟨g, cap, cur, fz, hv, _⟩
  · exact ⟨_, _, _, hv⟩
  · exact ⟨_, _, _, hv⟩
 go_wp2
 go_ret2
 refine ⟨rfl, .inr ?_, ?_, (hk1.grown hgrow (Lib.ownsRowF_kind hown)).setCell ⟨b, 1, none⟩ rfl _⟩
 ·
  refine Lib.BuilderAtF.put (T := 104) (e := 5) hB hb2 (bs' := Lib.strCells (s ++ t)) ?_ (by decide); rw [← FQ]
  simpa [Lib.strCells_length] using hown'
 · exact (hb1.grown hgrow (by have := hb1.size; omega) (fun k hk => (hown.lt k hk).1)).setCell (p := ⟨b, 1, none⟩) hB _
theorem string (B b : Nat) (s : ByteArray) (w : World) (h : Bld B b s w) (hBw : B ≤ w.heap.size) :
    Calls Tryz.prog 86 #[.pointer (some ⟨b, 0, none⟩)] w fun e w' => e = .returned (.string s) ∧ Below B w w' ∧ Lib.OthersKept 5 (some b) w w' :=
  (Tryz.Builder_String_any_k B b s.data.toList w h hBw).mono fun _ _ ⟨he, _, hb, hk⟩ => ⟨he, hb, hk⟩
theorem Bld.block {B b : Nat} {s : ByteArray} {w : World} (h : Bld B b s w) : ∃ cs, w.heap[b]? = some (.cells cs 104 (0, 0)) := by
 rcases h with ⟨_, v, hb, _⟩ | ⟨_, v, hb, _⟩ <;> exact ⟨_, hb⟩
theorem ld {w w' : World} (h : Below w.heap.size w w') : w.grownBy w' none := ⟨h.os, h.tape, h.output, h.size, fun k hk _ => h.block k hk⟩
theorem Bld.below {B b : Nat} {s : ByteArray} {w w' : World} (h : Bld B b s w) (hb : Below w.heap.size w w') : Bld B b s w' := by
 have go : ∀ {p : Value}, Lib.BuilderAtF 104 5 B b p (Lib.strCells s) w → Lib.BuilderAtF 104 5 B b p (Lib.strCells s) w' := fun {p} hh => by
  have hlt := hh.lt; obtain ⟨hB, v, hv, hown, hne⟩ := hh; exact ⟨hB, v, (hb.block b hlt).trans hv, hown.kept (ld hb) (by cases hv : v.ownBlock <;> simp), hne⟩
 exact h.elim (fun x => .inl (go x)) (fun x => .inr (go x))
theorem Bld.lt {B b : Nat} {s : ByteArray} {w : World} (h : Bld B b s w) : b < w.heap.size := h.elim (fun x => x.lt) (fun x => x.lt)
theorem DF {w w' : World} {b k : Nat} {cs c : Array Value} {t : TypeId} {fz f : Nat × Nat} (hk : Lib.OthersKept 5 (some b) w w') (hb : w.heap[b]? = some (.cells c 104 f)) (h : w.heap[k]? = some (.cells cs t fz)) (ht : t ≠ 5 ∧ t ≠ 104) : w'.heap[k]? = some (.cells cs t fz) := by
 refine hk k _ h (fun hh => ?_) (fun c' fz' hh => ?_)
 ·
  obtain rfl := Option.some.inj hh; rw [h] at hb; simp only [Option.some.injEq, Obj.cells.injEq] at hb; exact ht.2 hb.2.1
 ·
  simp only [Obj.cells.injEq] at hh; exact ht.1 hh.2.1
theorem n8 {α : Type} {d : YtfgnjndfnijjoaaGreatW.PrintWords.Kd α} {e : Nat} {w w' : World} {base b : Nat} {ok : Nat → Prop} {v : Value} {xs : List α} (h : d.R e w base ok v xs) (hk : Lib.OthersKept 5 (some b) w w') (hb : ∃ cs, w.heap[b]? = some (.cells cs 104 (0, 0)))
    (hE : ∀ q ∈ e :: d.E, q ≠ 5 ∧ q ≠ 104) : d.R e w' base ok v xs := by
 refine YtfgnjndfnijjoaaGreatW.PrintWords.Kd.au (YtfgnjndfnijjoaaGreatW.PrintWords.Kd.o4 (YtfgnjndfnijjoaaGreatW.PrintWords.Kd.kG h) (w1 := w') ?_) (fun k hk => hk.1); rintro k ⟨_, _, _, q, hq, cells, hc⟩; have hn := hE q hq; rw [hc]; refine hk k _ hc (fun hh => ?_) (fun c fz hh => ?_)
 ·
  obtain ⟨cs, hb⟩ := hb; obtain rfl := Option.some.inj hh; rw [hc] at hb; simp only [Option.some.injEq, Obj.cells.injEq] at hb; exact hn.2 hb.2.1
 ·
  simp only [Obj.cells.injEq] at hh; exact hn.1 hh.2.1
theorem rY {P : Program} {ops : Array Oper} {rest : List Oper} {o : Oper} {a : Act} {Q : Exit → Act → World → Prop} {W : World} (hgd : o.guard = none) {D : Tmp} (_hd : o.dst = some D) {cs : Array Value} {t : TypeId} (n c : Nat)
    (hrun : (execOp a.eval o).run P W = .ok (.value (.slice (some ⟨W.heap.size, 0, none⟩) n c)) (W.alloc (.cells cs t (0, 0))))
    (h : ∀ g, g = W.heap.size → ∀ w1, w1.heap[g]? = some (.cells cs t (0, 0)) → Below W.heap.size W w1 → wpList P ops Q rest (a.put o.dst (.slice (some ⟨g, 0, none⟩) n c)) w1) : wpList P ops Q (o :: rest) a W :=
  YtfgnjndfnijjoaaGreatW.PrintWords.Kd.j6 hgd hrun (h _ rfl _ (YtfgnjndfnijjoaaGreatW.PrintWords.eJ W _) (YtfgnjndfnijjoaaGreatW.PrintWords.aH (Below.refl _ _) _))
end Go.Proofs.YtfgnjndfnijjoaaGreat.Build
end
section
namespace Go.Proofs.YtfgnjndfnijjoaaGreat.Print
open Go.RowKit Go.Proofs.YtfgnjndfnijjoaaGreatW.PrintWords Go.Proofs.YtfgnjndfnijjoaaGreatW.PrintLast Go.Proofs.YtfgnjndfnijjoaaGreatW.PrintMore
attribute [local go_sem] dJ dK eF eG cZ dc dL dM
attribute [local go_sem] bH
set_option linter.unusedVariables false
set_option linter.unusedSimpArgs false
def LC : Option Int → Value
 | none => .nilIface
 | some c => .iface 0 (.int .i64 c)
theorem gX : LC none = .nilIface := rfl
theorem gY (c : Int) : LC (some c) = .iface 0 (.int .i64 c) := rfl
theorem info3 : (Tryz.prog.info? 3).map (fun i => (i.zero, i.size, i.bytes)) = some (some (.int .i64 0), 1, 8) := by kernel_rfl
theorem wh : (Tryz.prog.info? 4).map (fun i => (i.zero, i.size, i.bytes)) = some (some (.bool false), 1, 1) := by kernel_rfl
theorem Ji : (Tryz.prog.info? 5).map (fun i => (i.zero, i.size, i.bytes)) = some (some (.int .u8 0), 1, 1) := by kernel_rfl
theorem rZ : (Tryz.prog.info? 9).map (fun i => (i.zero, i.size, i.bytes)) = some (some (.string ⟨#[]⟩), 1, 16) := by kernel_rfl
theorem AP : (Tryz.prog.info? 49).map (fun i => (i.zero, i.size, i.bytes)) = some (some (.float .f64 0), 1, 8) := by kernel_rfl
theorem LD : (Tryz.prog.info? 51).map (fun i => (i.zero, i.size, i.bytes)) = some (some (.agg #[(.int .i64 0), (.int .i64 0), (.int .i64 0), (.int .i64 0), (.string ⟨#[]⟩), (.float .f64 0)]), 6, 56) := by kernel_rfl
theorem LF : (Tryz.prog.info? 53).map (fun i => (i.zero, i.size, i.bytes)) = some (some (.agg #[(.int .i64 0), (.string ⟨#[]⟩)]), 2, 24) := by kernel_rfl
theorem wj : (Tryz.prog.info? 60).map (fun i => (i.zero, i.size, i.bytes)) = some (some (.int .u64 0), 1, 8) := by kernel_rfl
theorem CV : (Tryz.prog.info? 126).map (fun i => (i.zero, i.size, i.bytes)) = some (some (.agg #[(.int .u64 0), (.int .i64 0)]), 2, 16) := by kernel_rfl
theorem CW : (Tryz.prog.info? 133).map (fun i => (i.zero, i.size, i.bytes)) = some (some (.agg #[(.int .u64 0), (.int .i64 0)]), 2, 16) := by kernel_rfl
structure S48 where
 f0 : Int
 f1 : Int
def z48 : S48 := ⟨(0 : Int), (0 : Int)⟩
def k48 : Kd S48 := Kd.iso (Kd.pair (Kd.int .i64) (Kd.int .i64)) (fun x : S48 => (x.f0, x.f1))
theorem GS {w : World} {x : S48} {cs : List Value} (h : k48.K w x cs) : cs = [.int .i64 x.f0, .int .i64 x.f1] := by
 obtain ⟨_, _, rfl, rfl, rfl⟩ := h; exact rfl
theorem J8 (w : World) (base : Nat) (ok : Nat → Prop) (x : S48)  : k48.M w base ok x [.int .i64 x.f0, .int .i64 x.f1] := ⟨[.int .i64 x.f0], [.int .i64 x.f1], rfl, rfl, rfl⟩
def jl (xs : List Int) (i : Int) : Int := xs.getD i.toNat (0 : Int)
theorem ug {w : World} {A : Option Addr} {n : Nat} {xs : List Int} (h : Kd.C Kd.flt w A n xs) (i : Int) (h0 : 0 ≤ i) (h1 : i < n) : ∃ ad b0, A = some ad ∧ w.cell? (ad.add i.toNat) = some (.float .f64 b0) ∧ FB b0 (jl xs i) := by
 obtain ⟨ad, c, e, _, hK, hc0⟩ := Kd.pI h (0 : Int) i h0 h1; have hc : ∀ j u, c[j]? = some u → w.cell? (ad.add (i.toNat * 1 + j)) = some u := hc0; obtain ⟨b0, rfl, q0⟩ := hK; exact ⟨ad, b0, e, by have hq := hc 0 _ rfl; rwa [Nat.mul_one, Nat.add_zero] at hq, q0⟩
structure S51 where
 f0 : S48
 f1 : Int
 f2 : Int
 f3 : ByteArray
 f4 : Int
def z51 : S51 := ⟨z48, (0 : Int), (0 : Int), (⟨#[]⟩ : ByteArray), (0 : Int)⟩
def k51 : Kd S51 := Kd.iso (Kd.pair k48 (Kd.pair (Kd.int .i64) (Kd.pair (Kd.int .i64) (Kd.pair Kd.string Kd.flt)))) (fun x : S51 => (x.f0, x.f1, x.f2, x.f3, x.f4))
theorem GU {w : World} {x : S51} {cs : List Value} (h : k51.K w x cs) : ∃ b5, cs = [.int .i64 x.f0.f0, .int .i64 x.f0.f1, .int .i64 x.f1, .int .i64 x.f2, .string x.f3, .float .f64 b5] ∧ FB b5 x.f4 := by
 obtain ⟨_, _, rfl, s0, ⟨_, _, rfl, rfl, ⟨_, _, rfl, rfl, ⟨_, _, rfl, rfl, ⟨b5, rfl, q5⟩⟩⟩⟩⟩ := h; obtain rfl := GS s0; exact ⟨b5, rfl, q5⟩
theorem qp (w : World) (base : Nat) (ok : Nat → Prop) (x : S51)  {b5 : Nat} (q5 : FB b5 x.f4) : k51.M w base ok x [.int .i64 x.f0.f0, .int .i64 x.f0.f1, .int .i64 x.f1, .int .i64 x.f2, .string x.f3, .float .f64 b5] := ⟨[.int .i64 x.f0.f0, .int .i64 x.f0.f1], [.int .i64 x.f1, .int .i64 x.f2, .string x.f3, .float .f64 b5], rfl, (J8 w base ok x.f0 ), ⟨[.int .i64 x.f1], [.int .i64 x.f2, .string x.f3, .float .f64 b5], rfl, rfl, ⟨[.int .i64 x.f2], [.string x.f3, .float .f64 b5], rfl, rfl, ⟨[.string x.f3], [.float .f64 b5], rfl, rfl, ⟨b5, rfl, q5⟩⟩⟩⟩⟩
def aa (xs : List S51) (i : Int) : S51 := xs.getD i.toNat z51
theorem kF {w : World} {A : Option Addr} {n : Nat} {xs : List S51} (h : Kd.C k51 w A n xs) (i : Int) (h0 : 0 ≤ i) (h1 : i < n) : ∃ ad b5, A = some ad ∧ w.cell? (ad.add (i.toNat * 6)) = some (.int .i64 (aa xs i).f0.f0) ∧ w.cell? ⟨(ad.add (i.toNat * 6)).block, (ad.add (i.toNat * 6)).off + 1, none⟩ = some (.int .i64 (aa xs i).f0.f1) ∧ w.cell? ⟨(ad.add (i.toNat * 6)).block, (ad.add (i.toNat * 6)).off + 2, none⟩ = some (.int .i64 (aa xs i).f1) ∧ w.cell? ⟨(ad.add (i.toNat * 6)).block, (ad.add (i.toNat * 6)).off + 3, none⟩ = some (.int .i64 (aa xs i).f2) ∧ w.cell? ⟨(ad.add (i.toNat * 6)).block, (ad.add (i.toNat * 6)).off + 4, none⟩ = some (.string (aa xs i).f3) ∧ w.cell? ⟨(ad.add (i.toNat * 6)).block, (ad.add (i.toNat * 6)).off + 5, none⟩ = some (.float .f64 b5) ∧ FB b5 (aa xs i).f4 := by
 obtain ⟨ad, c, e, _, hK, hc0⟩ := Kd.pI h z51 i h0 h1; have hc : ∀ j u, c[j]? = some u → w.cell? (ad.add (i.toNat * 6 + j)) = some u := hc0; obtain ⟨b5, rfl, q5⟩ := GU hK; exact ⟨ad, b5, e, hc 0 _ rfl, by rw [← j5 _ _ 1 (by omega)]; exact hc 1 _ rfl, by rw [← j5 _ _ 2 (by omega)]; exact hc 2 _ rfl, by rw [← j5 _ _ 3 (by omega)]; exact hc 3 _ rfl, by rw [← j5 _ _ 4 (by omega)]; exact hc 4 _ rfl, by rw [← j5 _ _ 5 (by omega)]; exact hc 5 _ rfl, q5⟩
structure gV where
 f0 : Int
 f1 : Int
def DG : gV := ⟨(0 : Int), (0 : Int)⟩
def nE : Kd gV := Kd.iso (Kd.pair (Kd.int .u64) (Kd.int .i64)) (fun x : gV => (x.f0, x.f1))
theorem FR {w : World} {x : gV} {cs : List Value} (h : nE.K w x cs) : cs = [.int .u64 x.f0, .int .i64 x.f1] := by
 obtain ⟨_, _, rfl, rfl, rfl⟩ := h; exact rfl
theorem wk {w : World} {base : Nat} {ok : Nat → Prop} {x : gV} {cs : List Value} (h : nE.M w base ok x cs) : cs = [.int .u64 x.f0, .int .i64 x.f1] := by
 obtain ⟨_, _, rfl, rfl, rfl⟩ := h; exact rfl
theorem vo (w : World) (base : Nat) (ok : Nat → Prop) (x : gV)  : nE.M w base ok x [.int .u64 x.f0, .int .i64 x.f1] := ⟨[.int .u64 x.f0], [.int .i64 x.f1], rfl, rfl, rfl⟩
def gu (xs : List gV) (i : Int) : gV := xs.getD i.toNat DG
theorem uh {w : World} {A : Option Addr} {n : Nat} {xs : List gV} (h : Kd.C nE w A n xs) (i : Int) (h0 : 0 ≤ i) (h1 : i < n) : ∃ ad , A = some ad ∧ w.cell? (ad.add (i.toNat * 2)) = some (.int .u64 (gu xs i).f0) ∧ w.cell? ⟨(ad.add (i.toNat * 2)).block, (ad.add (i.toNat * 2)).off + 1, none⟩ = some (.int .i64 (gu xs i).f1) := by
 obtain ⟨ad, c, e, _, hK, hc0⟩ := Kd.pI h DG i h0 h1; have hc : ∀ j u, c[j]? = some u → w.cell? (ad.add (i.toNat * 2 + j)) = some u := hc0; obtain rfl := FR hK; exact ⟨ad, e, hc 0 _ rfl, by rw [← j5 _ _ 1 (by omega)]; exact hc 1 _ rfl⟩
structure S53 where
 f0 : Int
 f1 : ByteArray
def z53 : S53 := ⟨(0 : Int), (⟨#[]⟩ : ByteArray)⟩
def k53 : Kd S53 := Kd.iso (Kd.pair (Kd.int .i64) Kd.string) (fun x : S53 => (x.f0, x.f1))
theorem GV {w : World} {x : S53} {cs : List Value} (h : k53.K w x cs) : cs = [.int .i64 x.f0, .string x.f1] := by
 obtain ⟨_, _, rfl, rfl, rfl⟩ := h; exact rfl
theorem qq (w : World) (base : Nat) (ok : Nat → Prop) (x : S53)  : k53.M w base ok x [.int .i64 x.f0, .string x.f1] := ⟨[.int .i64 x.f0], [.string x.f1], rfl, rfl, rfl⟩
def cE (xs : List S53) (i : Int) : S53 := xs.getD i.toNat z53
theorem jU {w : World} {A : Option Addr} {n : Nat} {xs : List S53} (h : Kd.C k53 w A n xs) (i : Int) (h0 : 0 ≤ i) (h1 : i < n) : ∃ ad , A = some ad ∧ w.cell? (ad.add (i.toNat * 2)) = some (.int .i64 (cE xs i).f0) ∧ w.cell? ⟨(ad.add (i.toNat * 2)).block, (ad.add (i.toNat * 2)).off + 1, none⟩ = some (.string (cE xs i).f1) := by
 obtain ⟨ad, c, e, _, hK, hc0⟩ := Kd.pI h z53 i h0 h1; have hc : ∀ j u, c[j]? = some u → w.cell? (ad.add (i.toNat * 2 + j)) = some u := hc0; obtain rfl := GV hK; exact ⟨ad, e, hc 0 _ rfl, by rw [← j5 _ _ 1 (by omega)]; exact hc 1 _ rfl⟩
structure cB where
 f0 : Int
 f1 : Int
def LG : cB := ⟨(0 : Int), (0 : Int)⟩
def tv : Kd cB := Kd.iso (Kd.pair (Kd.int .u64) (Kd.int .i64)) (fun x : cB => (x.f0, x.f1))
theorem FT {w : World} {x : cB} {cs : List Value} (h : tv.K w x cs) : cs = [.int .u64 x.f0, .int .i64 x.f1] := by
 obtain ⟨_, _, rfl, rfl, rfl⟩ := h; exact rfl
theorem AQ (w : World) (base : Nat) (ok : Nat → Prop) (x : cB)  : tv.M w base ok x [.int .u64 x.f0, .int .i64 x.f1] := ⟨[.int .u64 x.f0], [.int .i64 x.f1], rfl, rfl, rfl⟩
def bn (xs : List cB) (i : Int) : cB := xs.getD i.toNat LG
theorem jD {w : World} {A : Option Addr} {n : Nat} {xs : List cB} (h : Kd.C tv w A n xs) (i : Int) (h0 : 0 ≤ i) (h1 : i < n) : ∃ ad , A = some ad ∧ w.cell? (ad.add (i.toNat * 2)) = some (.int .u64 (bn xs i).f0) ∧ w.cell? ⟨(ad.add (i.toNat * 2)).block, (ad.add (i.toNat * 2)).off + 1, none⟩ = some (.int .i64 (bn xs i).f1) := by
 obtain ⟨ad, c, e, _, hK, hc0⟩ := Kd.pI h LG i h0 h1; have hc : ∀ j u, c[j]? = some u → w.cell? (ad.add (i.toNat * 2 + j)) = some u := hc0; obtain rfl := FT hK; exact ⟨ad, e, hc 0 _ rfl, by rw [← j5 _ _ 1 (by omega)]; exact hc 1 _ rfl⟩
end Go.Proofs.YtfgnjndfnijjoaaGreat.Print
end
section
namespace Go.Proofs.YtfgnjndfnijjoaaGreat.Print
open Go.RowKit Go.Proofs.YtfgnjndfnijjoaaGreatW.PrintWords Go.Proofs.YtfgnjndfnijjoaaGreatW.PrintLast Go.Proofs.YtfgnjndfnijjoaaGreatW.PrintMore
attribute [local go_sem] dJ dK eF eG cZ dc dL dM
attribute [local go_sem] bH
set_option linter.unusedVariables false
set_option linter.unusedSimpArgs false
theorem NN (d : Nat) (w : World) (x0 y0 : Int) (x1 y1 : Int) :
 (Op.equalIn (d + 2) 48 (.agg #[.int .i64 x0, .int .i64 x1]) (.agg #[.int .i64 y0, .int .i64 y1])).run Tryz.prog w = .ok (x0 == y0 && (x1 == y1)) w := by
 refine FN Tryz.underlying48 (by kernel_rfl) ?_; refine AO (by rfl) (by go_simp; rfl) (by go_simp; rfl) (by go_simp) ?_; exact AL (by rfl) (by go_simp; rfl) (by go_simp; rfl) (by go_simp)
end Go.Proofs.YtfgnjndfnijjoaaGreat.Print
end
section
namespace Go.Proofs.YtfgnjndfnijjoaaGreat.Print
open Go.RowKit Go.Proofs.YtfgnjndfnijjoaaGreatW.PrintWords Go.Proofs.YtfgnjndfnijjoaaGreatW.PrintLast Go.Proofs.YtfgnjndfnijjoaaGreatW.PrintMore
attribute [local go_sem] dJ dK eF eG cZ dc dL dM
attribute [local go_sem] bH
set_option linter.unusedVariables false
set_option linter.unusedSimpArgs false
theorem NP (d : Nat) (w : World) (x0 y0 : Int) (x1 y1 : ByteArray) :
 (Op.equalIn (d + 2) 53 (.agg #[.int .i64 x0, .string x1]) (.agg #[.int .i64 y0, .string y1])).run Tryz.prog w = .ok (x0 == y0 && (x1.toList == y1.toList)) w := by
 refine FN Tryz.underlying53 (by kernel_rfl) ?_; refine AO (by rfl) (by go_simp; rfl) (by go_simp; rfl) (by go_simp) ?_; exact AL (by rfl) (by go_simp; rfl) (by go_simp; rfl) (by go_simp)
end Go.Proofs.YtfgnjndfnijjoaaGreat.Print
end
section
namespace Go.Proofs.YtfgnjndfnijjoaaGreat.Print
open Go.RowKit Go.Proofs.YtfgnjndfnijjoaaGreatW.PrintWords Go.Proofs.YtfgnjndfnijjoaaGreatW.PrintLast Go.Proofs.YtfgnjndfnijjoaaGreatW.PrintMore
attribute [local go_sem] dJ dK eF eG cZ dc dL dM
attribute [local go_sem] bH
set_option linter.unusedVariables false
set_option linter.unusedSimpArgs false
def bL.l0 : Nat → Int → List Int → Option (ByteArray)
 | 0, _, _ => none
 | k + 1, x0, x3 => if x0 ≥ 128 then (if x3.length < 140737488355328 then (bL.l0 k (x0 / 128) (x3 ++ [Go.bits .or .u8 ((x0) % 256) 128])) else (none)) else (if x3.length < 140737488355328 then (some (strOfNums (x3 ++ [(x0) % 256]))) else (none))
def bL.f (k : Nat) (a0 : Int) : Option (ByteArray) := bL.l0 k a0 ([] : List Int)
theorem bL.cF : ∀ k, (∀ y0 y1, LeO (bL.l0 k y0 y1) (bL.l0 (k + 1) y0 y1))
 | 0 => fun _ _ r h => by simp [bL.l0] at h
 | k + 1 => by
  have ih0 := bL.cF k
  ·
   intro y0 y1; unfold bL.l0
   repeat' first
   | (with_reducible exact ih0 _ _)
   | (with_reducible exact LeO.refl _)
   | (with_reducible exact LeO.none _)
   | (with_reducible refine LeO.ite ?_ ?_)
   | (with_reducible refine LeO.bind ?_ (fun _ => ?_))
theorem bL.mono : ∀ a0 k, LeO (bL.f k a0) (bL.f (k + 1) a0) := by
 intro a0 k; have ih0 := bL.cF k; unfold bL.f
 repeat' first
  | (with_reducible exact ih0 _ _)
  | (with_reducible exact LeO.refl _)
  | (with_reducible exact LeO.none _)
  | (with_reducible refine LeO.ite ?_ ?_)
  | (with_reducible refine LeO.bind ?_ (fun _ => ?_))
set_option maxHeartbeats 8000000 in
set_option maxRecDepth 100000 in
theorem bL.calls (k : Nat) (a0 : Int) (r : ByteArray) (w : World) (h : bL.f k a0 = some r) :
 Calls Tryz.prog 32 #[.int .u64 a0] w fun e w' => e = .returned (.string r) ∧ Below w.heap.size w w' := by
 have HB := Aside0.mk (Below.refl w.heap.size w); have H := h; unfold bL.f at H; clear h; have H' := Aside0.mk H; clear H; go_enter Tryz.func32, Tryz.ntmps32
 go_wp2
 go_loopg [0, 3] k (fun kq v0 v3 w' => ∃ (nF : Int) (bA : List Int), v0 = .int .u64 nF ∧ Aside0 (bL.l0 kq nF bA = some r) ∧ Aside0 (kq ≤ k) ∧ Aside0 (Kd.R (Kd.int .u8) 5 w' w.heap.size (fun _ => True) v3 bA) ∧ Aside0 (Below w.heap.size w w'))
 case atStart => exact ⟨(a0), (([] : List Int)), sz, H', ⟨Nat.le_refl _⟩, ⟨nz⟩, ⟨hz HB.out⟩⟩
 case round =>
  clear H'; obtain ⟨nF, bA, rfl, HA, HK1, HO_3, HB⟩ := hrel
  cases gk with
  | zero => exact absurd HA.out (by simp [bL.l0])
  | succ k1 =>
   have H := HA.out; clear HA; simp only [bL.l0] at H
   by_cases c2 : nF ≥ 128
   ·
    rw [if_pos c2] at H; have jB : decide (128 ≤ nF) = true := decide_eq_true c2; clear c2; obtain ⟨c3, H⟩ := ifz H; have P4 := Aside0.mk c3; clear c3; obtain ⟨P5, DH⟩ : ∃ y_ : List Int, y_ = (bA ++ [Go.bits .or .u8 ((nF) % 256) 128]) := ⟨_, rfl⟩; (try rw [← DH] at H); have NQ := Aside0.mk DH; clear DH; have H' := Aside0.mk H; clear H
    go_wp2_with (first | ((with_reducible refine eB (b := .append) (xs := #[.tmp 6, .tmp 10]) rfl ?_); at_builtin; refine Kd.gQ (Kd.int .u8) (w0 := w) w.heap.size rfl (.tmp 6) (.tmp 10) 102 5 (.int .u8 0) 1 rfl Tryz.underlying102 Ji rfl (by decide) (by omega) u3 bA (Go.bits .or .u8 ((nF) % 256) 128) [.int .u8 (Go.bits .or .u8 ((nF) % 256) 128)] (fun _ => True) (fun _ => False) rfl rfl ?aP (fun _ hk => hk.elim) ?aF ?aO ?aB ?aS ?aL ?_; (case aP => exact rfl); (case aB => exact (hz HB.out)); (case aF => exact (fun _ _ => trivial)); (case aO => exact (rz HO_3.out)); (case aS => exact (ai (hz HB.out))); (case aL => have := P4.out; omega); intro v103 w4 ho hb hg hat; rw [← NQ.out] at ho; replace HB := am (hb); have NR := am (ho); clear HO_3; clear ho hb hg hat))
    go_roundg k1
    case measure => have := HK1.out; omega
    case rel => exact ⟨(nF / 128), (P5), sz, H', ⟨by have := HK1.out; omega⟩, ⟨rz NR.out⟩, ⟨hz HB.out⟩⟩
   ·
    rw [if_neg c2] at H; have jB : decide (128 ≤ nF) = false := decide_eq_false c2; clear c2; obtain ⟨c5, H⟩ := ifz H; have GW := Aside0.mk c5; clear c5; obtain ⟨UU, DI⟩ : ∃ y_ : List Int, y_ = (bA ++ [(nF) % 256]) := ⟨_, rfl⟩; (try rw [← DI] at H); have NS := Aside0.mk DI; clear DI; obtain rfl := Option.some.inj H
    go_wp2_with (first | ((with_reducible refine eB (b := .append) (xs := #[.tmp 14, .tmp 17]) rfl ?_); at_builtin; refine Kd.gQ (Kd.int .u8) (w0 := w) w.heap.size rfl (.tmp 14) (.tmp 17) 102 5 (.int .u8 0) 1 rfl Tryz.underlying102 Ji rfl (by decide) (by omega) u3 bA ((nF) % 256) [.int .u8 ((nF) % 256)] (fun _ => True) (fun _ => False) rfl rfl ?aP (fun _ hk => hk.elim) ?aF ?aO ?aB ?aS ?aL ?_; (case aP => exact rfl); (case aB => exact (hz HB.out)); (case aF => exact (fun _ _ => trivial)); (case aO => exact (rz HO_3.out)); (case aS => exact (ai (hz HB.out))); (case aL => have := GW.out; omega); intro v106 w6 ho hb hg hat; rw [← NS.out] at ho; replace HB := am (hb); have NT := am (ho); clear HO_3; clear ho hb hg hat; have hcv7 := Du (P := Tryz.prog) Tryz.underlying102 Tryz.underlying5 Tryz.underlying9 (Kd.uX NT.out)))
    go_ret
    exact ⟨ez, hz HB.out⟩
def dm.f (k : Nat) (a0 : ByteArray) : Option (ByteArray) := (bL.f k (IntKind.u64.wrap ((a0.size : Int)))).bind fun t108 => (if t108.size + a0.size ≤ 9223372036854775807 then (some (t108 ++ a0)) else (none))
theorem dm.mono : ∀ a0 k, LeO (dm.f k a0) (dm.f (k + 1) a0) := by
 intro a0 k; unfold dm.f
 repeat' first
  | (with_reducible exact bL.mono _ _)
  | (with_reducible exact LeO.refl _)
  | (with_reducible exact LeO.none _)
  | (with_reducible refine LeO.ite ?_ ?_)
  | (with_reducible refine LeO.bind ?_ (fun _ => ?_))
set_option maxHeartbeats 8000000 in
set_option maxRecDepth 100000 in
theorem dm.calls (k : Nat) (a0 : ByteArray) (r : ByteArray) (w : World) (h : dm.f k a0 = some r) :
 Calls Tryz.prog 18 #[.string a0] w fun e w' => e = .returned (.string r) ∧ Below w.heap.size w w' := by
 have HB := Aside0.mk (Below.refl w.heap.size w); have H := h; unfold dm.f at H; clear h; obtain ⟨t108, A2, H⟩ := bnz H; (try dsimp only at H); obtain ⟨c3, H⟩ := ifz H; have gD := eq_true c3; have kT : decide (t108.size + a0.size ≤ 9223372036854775807) = true := decide_eq_true c3
 try have o5 : (9223372036854775807 < t108.size + a0.size) = False := eq_false (Nat.not_lt.2 c3)
 try (have DJ := o5; simp only [ByteArray.size_append] at DJ)
 clear c3; obtain rfl := Option.some.inj H; go_enter Tryz.func18, Tryz.ntmps18
 go_wp2_with (first | ((with_reducible refine ak (f := 32) rfl ?_); refine aD (some 6) rfl rfl Tryz.func32 (by kernel_rfl) rfl #[.int .u64 (IntKind.u64.wrap ((a0.size : Int)))] rfl mz ?_; (with_reducible refine (bL.calls k (IntKind.u64.wrap ((a0.size : Int))) t108 _ A2.out).mono ?_); rintro e w4 ⟨rfl, hb⟩; refine ⟨_, rfl, ?_⟩; replace HB := sb HB hb; (try clear hb); (try clear hb2); (try clear hk); (try clear hi)))
 go_ret
 exact ⟨ez, hz HB.out⟩
set_option maxHeartbeats 8000000 in
set_option maxRecDepth 100000 in
theorem iW.jV (b : Nat) (s : Bool) (w : World) (h1 : (FloatKind.f64.format.order b 0 == some .lt) = s) (h2 : (FloatKind.f64.format.order b 0 == some .eq) = false) :
    Calls Tryz.prog 107 #[.float .f64 b] w fun e w' => e = .returned (.bool s) ∧ bP w w' := by
 go_enter Tryz.func107, Tryz.ntmps107
 cases s
 ·
  go_wp2
  go_ret
  exact ⟨rfl, bP.refl _⟩
 ·
  go_wp2
  go_ret
  exact ⟨rfl, bP.refl _⟩
set_option maxHeartbeats 8000000 in
set_option maxRecDepth 100000 in
theorem iW.tA (s : Bool) (w : World) :
    Calls Tryz.prog 107 #[.float .f64 (Fl.zero s)] w fun e w' => e = .returned (.bool s) ∧ bP w w' := by
 have h1 : (FloatKind.f64.format.order (Fl.zero s) 0 == some .lt) = false := by cases s <;> decide
 have h2 : (FloatKind.f64.format.order (Fl.zero s) 0 == some .eq) = true := by cases s <;> decide
 have h3 : ∀ W, (binOp .quo 49 (.float .f64 4607182418800017408) (.float .f64 (Fl.zero s))).run Tryz.prog W = .ok (.float .f64 (Fl.inf s)) W := fun W => run_float_arith W .quo 49 .f64 _ _ _ (by cases s <;> decide)
 have h4 : (FloatKind.f64.format.order (Fl.inf s) 0 == some .lt) = s := by cases s <;> decide
 go_enter Tryz.func107, Tryz.ntmps107
 go_wp2
 go_ret
 exact ⟨rfl, bP.refl _⟩
def xI : Array Value := #[.int .i64 512, .float .f64 6913025428013711360, .float .f64 2301339409586323456, .int .i64 256, .float .f64 5760103923406864384, .float .f64 3454260914193170432, .int .i64 128, .float .f64 5183643171103440896, .float .f64 4030721666496593920, .int .i64 64, .float .f64 4895412794951729152, .float .f64 4318952042648305664, .int .i64 32, .float .f64 4751297606875873280, .float .f64 4463067230724161536, .int .i64 16, .float .f64 4679240012837945344, .float .f64 4535124824762089472, .int .i64 8, .float .f64 4643211215818981376, .float .f64 4571153621781053440, .int .i64 4, .float .f64 4625196817309499392, .float .f64 4589168020290535424, .int .i64 2, .float .f64 4616189618054758400, .float .f64 4598175219545276416, .int .i64 1, .float .f64 4611686018427387904, .float .f64 4602678819172646912]
def J9 : Array Value := #[(.int .i64 0), (.float .f64 0), (.float .f64 0), (.int .i64 0), (.float .f64 0), (.float .f64 0), (.int .i64 0), (.float .f64 0), (.float .f64 0), (.int .i64 0), (.float .f64 0), (.float .f64 0), (.int .i64 0), (.float .f64 0), (.float .f64 0), (.int .i64 0), (.float .f64 0), (.float .f64 0), (.int .i64 0), (.float .f64 0), (.float .f64 0), (.int .i64 0), (.float .f64 0), (.float .f64 0), (.int .i64 0), (.float .f64 0), (.float .f64 0), (.int .i64 0), (.float .f64 0), (.float .f64 0)]
def qt : Value := .agg xI
set_option maxHeartbeats 8000000 in
set_option maxRecDepth 100000 in
theorem uN.calls (w : World) :
    Calls Tryz.prog 157 #[] w fun e w' => e = .returned qt ∧ Below w.heap.size w w' := by
 have hu1 := Tryz.underlying178; have hu2 := Tryz.underlying179; have HB := Aside0.mk (Below.refl w.heap.size w); go_enter Tryz.func157, Tryz.ntmps157
 go_wp2_with (first | ((with_reducible refine bG (N := 0) rfl ?_); refine bW rfl (N := 0) rfl (cs := J9) (t := 179) (by kernel_rfl) ?_; intro g hg w2 hbox hb; have hge : Aside0 (w.heap.size ≤ g) := ⟨by omega⟩; have hbx := Aside0.mk hbox; clear hg hbox) | ((with_reducible refine bG (N := 11) rfl ?_); refine Kd.j6 rfl (v := qt) (W := w2) (by kernel_rfl) ?_) | ((with_reducible refine oH (t := 179) (p := 0) rfl ?_); refine nN (t := 179) (p := 0) (v := .tmp 11) (w1 := w2.setRow g xI) rfl rfl rfl (pL rfl rfl rfl hbx.out (by kernel_rfl) (by kernel_rfl) (by kernel_rfl)) ?_; intro w3 hw3))
 refine bodyPost_ret (results_cell_row rfl _ _ g 179 xI (0, 0) _ rfl (by rw [hw3]; exact DA hbx.out) Tryz.underlying179 rfl (by kernel_rfl)) rfl ?_; exact ⟨rfl, by rw [hw3]; exact AG hge.out (w := w) hb⟩
theorem AR (n : Int) (h0 : 0 ≤ n) (h1 : n < 10) : ∃ p : Int, (1 ≤ p ∧ p ≤ 512 ∧ p = 2 ^ (9 - n).toNat) ∧ ∀ (W : World), (Instr.index 179 qt (.int .i64 n)).run Tryz.prog W = .ok (.agg #[.int .i64 p, .float .f64 (Fl.rung 1 p), .float .f64 (Fl.rung 1 (-p))]) W := by
 have hn : n = 0 ∨ n = 1 ∨ n = 2 ∨ n = 3 ∨ n = 4 ∨ n = 5 ∨ n = 6 ∨ n = 7 ∨ n = 8 ∨ n = 9 := by omega
 rcases hn with rfl | rfl | rfl | rfl | rfl | rfl | rfl | rfl | rfl | rfl
 · exact ⟨512, ⟨by omega, by omega, by rfl⟩, fun W => by kernel_rfl⟩
 · exact ⟨256, ⟨by omega, by omega, by rfl⟩, fun W => by kernel_rfl⟩
 · exact ⟨128, ⟨by omega, by omega, by rfl⟩, fun W => by kernel_rfl⟩
 · exact ⟨64, ⟨by omega, by omega, by rfl⟩, fun W => by kernel_rfl⟩
 · exact ⟨32, ⟨by omega, by omega, by rfl⟩, fun W => by kernel_rfl⟩
 · exact ⟨16, ⟨by omega, by omega, by rfl⟩, fun W => by kernel_rfl⟩
 · exact ⟨8, ⟨by omega, by omega, by rfl⟩, fun W => by kernel_rfl⟩
 · exact ⟨4, ⟨by omega, by omega, by rfl⟩, fun W => by kernel_rfl⟩
 · exact ⟨2, ⟨by omega, by omega, by rfl⟩, fun W => by kernel_rfl⟩
 · exact ⟨1, ⟨by omega, by omega, by rfl⟩, fun W => by kernel_rfl⟩
theorem od {m : Nat} (hm : m ≠ 0) (h : m < 9007199254740992) {e k : Int} (he : -1074 ≤ e) (hE : e + m.log2 ≤ 1023) (hk : -1074 ≤ k) (hk2 : k ≤ 1023) (hek : -1074 ≤ e + k) (W : World) :
    (binOp .mul 49 (.float .f64 (Fl.rung m e)) (.float .f64 (Fl.rung 1 k))).run Tryz.prog W = .ok (.float .f64 (Fl.rung m (e + k))) W :=
  run_float_arith W .mul 49 .f64 _ _ _ (by have := Fl.mul_two false hm h he hE hk hk2 hek; rwa [Fl.bX, Fl.bX] at this)
set_option maxHeartbeats 8000000 in
set_option maxRecDepth 100000 in
theorem DK.calls {m : Nat} (hm : m ≠ 0) (h : m < 9007199254740992) (e0 : Int) (he : -1074 ≤ e0) (hE : e0 + m.log2 ≤ 1023) (w : World) :
    Calls Tryz.prog 108 #[.float .f64 (Fl.rung m e0)] w fun e w' => e = .returned (.tuple #[.float .f64 (Fl.rung m (-(m.log2 : Int))), .int .i64 (e0 + m.log2)]) ∧ Below w.heap.size w w' := by
 have hL := Fl.js hm h; obtain ⟨L, hLd⟩ : ∃ L : Int, L = (m.log2 : Int) := ⟨_, rfl⟩; obtain ⟨PV, hPV⟩ : ∃ v, v = qt := ⟨_, rfl⟩; have hu := Tryz.underlying178; go_enter Tryz.func108, Tryz.ntmps108
 go_wp2_with (first | (go_at_call 157; (with_reducible refine (uN.calls _).mono ?_); rintro e' w1 ⟨rfl, hb1⟩))
 rw [← hPV]; have HPV := Aside0.mk hPV; clear hPV; have HB1 := Aside0.mk hb1; clear hb1
 go_loopg [0, 4, 8] 11 (fun kq v0 v4 v8 w' => ∃ (e n i : Int), v0 = .float .f64 (Fl.rung m e) ∧ v4 = .int .i64 n ∧ v8 = .int .i64 i ∧ Aside0 (0 ≤ i ∧ i ≤ 10 ∧ 10 - i < kq ∧ n + e = e0 ∧ -1074 ≤ e ∧ e + L ≤ 1023) ∧ Aside0 (Below w.heap.size w w'))
 case atStart => exact ⟨e0, 0, 0, by first | rfl | simp, by first | rfl | simp, by first | rfl | simp, ⟨by omega⟩, HB1⟩
 case round =>
  clear HB1; obtain ⟨e, n, i, rfl, rfl, rfl, HK, HB⟩ := hrel
  cases gk with
  | zero => have := HK.out; exact absurd this (by omega)
  | succ k1 =>
   by_cases hi : i < 10
   ·
    have d1 : decide (i < 10) = true := decide_eq_true hi; have hk := HK.out; obtain ⟨p, ⟨hp, hp', -⟩, hidx⟩ := AR i hk.1 hi; have HIX := Aside0.mk hidx; clear hidx; have ev : ∀ x : Int, x + (m.log2 : Int) = x + L := fun x => by rw [hLd]
    have ro1 := (Fl.jG hm h (e := e) (k := p) (by omega) (by omega) (by omega) (by omega)).2; have rw1 : IntKind.i64.wrap (i + 1) = i + 1 := by rw [IntKind.wrap_i64]; omega
    by_cases c1 : p ≤ e + m.log2
    ·
     rw [decide_eq_true c1] at ro1; have s1 : (FloatKind.f64.format.order (Fl.rung m e) (Fl.rung 1 p) == some .gt || FloatKind.f64.format.order (Fl.rung m e) (Fl.rung 1 p) == some .eq) = true := ro1; have m1 := od hm h (e := e) (k := -p) (by omega) (by omega) (by omega) (by omega) (by omega); have ro2 := (Fl.jG hm h (e := e + -p) (k := -p) (by omega) (by omega) (by omega) (by omega)).1; rw [decide_eq_false (by omega)] at ro2; have s2 : (FloatKind.f64.format.order (Fl.rung m (e + -p)) (Fl.rung 1 (-p)) == some .lt) = false := ro2; have rw2 : IntKind.i64.wrap (n + p) = n + p := by rw [IntKind.wrap_i64]; omega
     clear ro1 ro2
     go_wp2_with (first | ((with_reducible refine bG (N := 10) rfl ?_); refine Kd.j6 rfl (pM rfl HPV.out rfl (HIX.out _)) ?_))
     go_roundg k1
     case measure => omega
     case rel => exact ⟨e + -p, n + p, i + 1, by rfl, by first | rfl | simp [goInt, rw2], by first | rfl | simp [goInt, rw1], ⟨by omega⟩, ⟨HB.out.alloc HB.out.size _⟩⟩
    ·
     rw [decide_eq_false c1] at ro1; have s1 : (FloatKind.f64.format.order (Fl.rung m e) (Fl.rung 1 p) == some .gt || FloatKind.f64.format.order (Fl.rung m e) (Fl.rung 1 p) == some .eq) = false := ro1; have ro2 := (Fl.jG hm h (e := e) (k := -p) (by omega) (by omega) (by omega) (by omega)).1
     by_cases c2 : e + m.log2 < -p
     ·
      rw [decide_eq_true c2] at ro2; have s2 : (FloatKind.f64.format.order (Fl.rung m e) (Fl.rung 1 (-p)) == some .lt) = true := ro2; have m1 := od hm h (e := e) (k := p) (by omega) (by omega) (by omega) (by omega) (by omega); have rw2 : IntKind.i64.wrap (n - p) = n - p := by rw [IntKind.wrap_i64]; omega
      clear ro1 ro2
      go_wp2_with (first | ((with_reducible refine bG (N := 10) rfl ?_); refine Kd.j6 rfl (pM rfl HPV.out rfl (HIX.out _)) ?_))
      go_roundg k1
      case measure => omega
      case rel => exact ⟨e + p, n - p, i + 1, by rfl, by first | rfl | simp [goInt, rw2], by first | rfl | simp [goInt, rw1], ⟨by omega⟩, ⟨HB.out.alloc HB.out.size _⟩⟩
     ·
      rw [decide_eq_false c2] at ro2; have s2 : (FloatKind.f64.format.order (Fl.rung m e) (Fl.rung 1 (-p)) == some .lt) = false := ro2; clear ro1 ro2
      go_wp2_with (first | ((with_reducible refine bG (N := 10) rfl ?_); refine Kd.j6 rfl (pM rfl HPV.out rfl (HIX.out _)) ?_))
      go_roundg k1
      case measure => omega
      case rel => exact ⟨e, n, i + 1, by rfl, by rfl, by first | rfl | simp [goInt, rw1], ⟨by omega⟩, ⟨HB.out.alloc HB.out.size _⟩⟩
   ·
    have d1 : decide (i < 10) = false := decide_eq_false hi; have hk := HK.out; have HB0 := HB; obtain ⟨wb, hwb⟩ : ∃ x, x = wr := ⟨_, rfl⟩
    go_wp2
    go_loopg [0, 4] 3000 (fun kq v0 v4 w' => ∃ (e n : Int), v0 = .float .f64 (Fl.rung m e) ∧ v4 = .int .i64 n ∧ Aside0 (e + L < kq ∧ n + e = e0 ∧ -1074 ≤ e ∧ e + L ≤ 1023) ∧ Aside0 (Below w.heap.size w w'))
    case atStart => exact ⟨e, n, by rfl, by rfl, ⟨by omega⟩, HB⟩
    case round =>
     clear HB HK hk HB0 hwb; obtain ⟨e, n, rfl, rfl, HK, HB⟩ := hrel; have hk := HK.out; have ro1 := (Fl.jG hm h (e := e) (k := 1) (by omega) (by omega) (by omega) (by omega)).2; rw [kE] at ro1
     by_cases c1 : 1 ≤ e + m.log2
     ·
      cases gk with
      | zero => exact absurd c1 (by omega)
      | succ k2 =>
       rw [decide_eq_true c1] at ro1; have s1 : (FloatKind.f64.format.order (Fl.rung m e) 4611686018427387904 == some .gt || FloatKind.f64.format.order (Fl.rung m e) 4611686018427387904 == some .eq) = true := ro1; have m1 := od hm h (e := e) (k := -1) (by omega) (by omega) (by omega) (by omega) (by omega); rw [qj] at m1; have rw2 : IntKind.i64.wrap (n + 1) = n + 1 := by rw [IntKind.wrap_i64]; omega
       clear ro1
       go_wp2
       go_roundg k2
       case measure => omega
       case rel => exact ⟨e + -1, n + 1, by rfl, by first | rfl | simp [goInt, rw2], ⟨by omega⟩, HB⟩
     ·
      rw [decide_eq_false c1] at ro1; have s1 : (FloatKind.f64.format.order (Fl.rung m e) 4611686018427387904 == some .gt || FloatKind.f64.format.order (Fl.rung m e) 4611686018427387904 == some .eq) = false := ro1; clear ro1
      go_wp2
      go_loopg [0, 4] 3000 (fun kq v0 v4 w' => ∃ (e n : Int), v0 = .float .f64 (Fl.rung m e) ∧ v4 = .int .i64 n ∧ Aside0 (-(e + L) < kq ∧ e + L ≤ 0 ∧ n + e = e0 ∧ -1074 ≤ e) ∧ Aside0 (Below w.heap.size w w'))
      case atStart => exact ⟨e, n, by rfl, by rfl, ⟨by omega⟩, HB⟩
      case round =>
       clear HB HK hk c1 s1; obtain ⟨e, n, rfl, rfl, HK, HB⟩ := hrel; have hk := HK.out; have ro1 := (Fl.jG hm h (e := e) (k := 0) (by omega) (by omega) (by omega) (by omega)).1; rw [tr] at ro1
       by_cases c1 : e + m.log2 < 0
       ·
        cases gk with
        | zero => exact absurd c1 (by omega)
        | succ k2 =>
         rw [decide_eq_true c1] at ro1; have s1 : (FloatKind.f64.format.order (Fl.rung m e) 4607182418800017408 == some .lt) = true := ro1; have m1 := od hm h (e := e) (k := 1) (by omega) (by omega) (by omega) (by omega) (by omega); rw [kE] at m1; have rw2 : IntKind.i64.wrap (n - 1) = n - 1 := by rw [IntKind.wrap_i64]; omega
         clear ro1
         go_wp2
         go_roundg k2
         case measure => omega
         case rel => exact ⟨e + 1, n - 1, by rfl, by first | rfl | simp [goInt, rw2], ⟨by omega⟩, HB⟩
       ·
        rw [decide_eq_false c1] at ro1; have s1 : (FloatKind.f64.format.order (Fl.rung m e) 4607182418800017408 == some .lt) = false := ro1; clear ro1
        go_wp2
        go_ret2
        have he' : e = -(m.log2 : Int) := by omega
        have hn' : n = e0 + m.log2 := by omega
        exact ⟨by rw [← hn', ← he']; rfl, HB.out⟩
def fH.f (a0 : Int) : Option Int := some a0
set_option maxHeartbeats 8000000 in
set_option maxRecDepth 100000 in
theorem fH.nan (bv0 : Nat) (w : World) (hn : 9218868437227405312 < bv0 % 9223372036854775808) :
    Calls Tryz.prog 48 #[.float .f64 bv0] w fun e_ w' => e_ = .returned (.int .u64 (dD bv0 : Nat)) ∧ Below w.heap.size w w' := by
 have h1 := (Fl.pK hn 0).1; have h2 := (Fl.pK hn bv0).1; have g1 : (FloatKind.f64.format.order bv0 0 == some .lt) = false := by show (Ieee.double.order bv0 0 == some .lt) = false; rw [h1]; rfl
 have g2 : (FloatKind.f64.format.order bv0 0 == some .eq) = false := by show (Ieee.double.order bv0 0 == some .eq) = false; rw [h1]; rfl
 have g3 : (FloatKind.f64.format.order bv0 bv0 != some .eq) = true := by show (Ieee.double.order bv0 bv0 != some .eq) = true; rw [h2]; rfl
 have hc : dD bv0 = 9221120237041090560 := by unfold dD; rw [if_pos hn]
 rw [hc]; clear h1 h2; go_enter Tryz.func48, Tryz.ntmps48
 go_wp2_with (first | (go_at_call 107; (with_reducible refine (iW.jV _ false _ g1 g2).mono ?_); rintro e' w1 ⟨rfl, nd, rfl⟩))
 go_ret
 exact ⟨rfl, aG (Below.refl _ _) _⟩
theorem neg_zero (W : World) : (Op.unary .neg (.float .f64 (Fl.zero true))).run Tryz.prog W = .ok (.float .f64 (Fl.zero false)) W := by
 have h : Op.negFloat .f64 (Fl.zero true) = Fl.zero false := by decide
 simp only [Op.unary, h, Sem.run_pure]
set_option maxHeartbeats 8000000 in
set_option maxRecDepth 100000 in
theorem fH.zero (s : Bool) (w : World) :
    Calls Tryz.prog 48 #[.float .f64 (Fl.zero s)] w fun e_ w' => e_ = .returned (.int .u64 (dD (Fl.zero s) : Nat)) ∧ Below w.heap.size w w' := by
 have g3 : (FloatKind.f64.format.order (Fl.zero false) (Fl.zero false) != some .eq) = false := by decide
 have g4 : (FloatKind.f64.format.order (Fl.zero false) 0 == some .eq) = true := by decide
 have hng := neg_zero; have hc : ((dD (Fl.zero s) : Nat) : Int) = (if s then 9223372036854775808 else 0) := by cases s <;> decide
 rw [hc]
 cases s
 ·
  go_enter Tryz.func48, Tryz.ntmps48
  go_wp2_with (first | (go_at_call 107; (with_reducible refine (iW.tA false _).mono ?_); rintro e' w1 ⟨rfl, nd, rfl⟩))
  go_ret
  exact ⟨rfl, aG (Below.refl _ _) _⟩
 ·
  go_enter Tryz.func48, Tryz.ntmps48
  go_wp2_with (first | (go_at_call 107; (with_reducible refine (iW.tA true _).mono ?_); rintro e' w1 ⟨rfl, nd, rfl⟩))
  go_ret
  exact ⟨rfl, aG (Below.refl _ _) _⟩
theorem CX (W : World) : (Op.unary .neg (.float .f64 (Fl.inf true))).run Tryz.prog W = .ok (.float .f64 (Fl.inf false)) W := by
 have h : Op.negFloat .f64 (Fl.inf true) = Fl.inf false := by decide
 simp only [Op.unary, h, Sem.run_pure]
set_option maxHeartbeats 8000000 in
set_option maxRecDepth 100000 in
theorem fH.inf (s : Bool) (w : World) :
    Calls Tryz.prog 48 #[.float .f64 (Fl.inf s)] w fun e_ w' => e_ = .returned (.int .u64 (dD (Fl.inf s) : Nat)) ∧ Below w.heap.size w w' := by
 have g1 : (FloatKind.f64.format.order (Fl.inf s) 0 == some .lt) = s := by cases s <;> decide
 have g2 : (FloatKind.f64.format.order (Fl.inf s) 0 == some .eq) = false := by cases s <;> decide
 have g3 : (FloatKind.f64.format.order (Fl.inf false) (Fl.inf false) != some .eq) = false := by decide
 have g4 : (FloatKind.f64.format.order (Fl.inf false) 0 == some .eq) = false := by decide
 have g5 : ∀ W, (binOp .mul 49 (.float .f64 (Fl.inf false)) (.float .f64 4611686018427387904)).run Tryz.prog W = .ok (.float .f64 (Fl.inf false)) W := fun W => run_float_arith W .mul 49 .f64 _ _ _ (by decide)
 have g6 : (FloatKind.f64.format.order (Fl.inf false) (Fl.inf false) == some .eq) = true := by decide
 have hng := CX; have hc : ((dD (Fl.inf s) : Nat) : Int) = (if s then 18442240474082181120 else 9218868437227405312) := by cases s <;> decide
 rw [hc]
 cases s
 ·
  go_enter Tryz.func48, Tryz.ntmps48
  go_wp2_with (first | (go_at_call 107; (with_reducible refine (iW.jV _ _ _ g1 g2).mono ?_); rintro e' w1 ⟨rfl, nd, rfl⟩))
  go_ret
  exact ⟨rfl, aG (Below.refl _ _) _⟩
 ·
  go_enter Tryz.func48, Tryz.ntmps48
  go_wp2_with (first | (go_at_call 107; (with_reducible refine (iW.jV _ _ _ g1 g2).mono ?_); rintro e' w1 ⟨rfl, nd, rfl⟩))
  go_ret
  exact ⟨rfl, aG (Below.refl _ _) _⟩
set_option maxHeartbeats 8000000 in
set_option maxRecDepth 100000 in
theorem fH.fin (s : Bool) {m : Nat} {e : Int} (w : World) (hm : m ≠ 0) (hm2 : m < 9007199254740992) (he : -1074 ≤ e) (hE : e + m.log2 ≤ 1023)
    (hform : (m < 4503599627370496 ∧ e = -1074 ∧ m.log2 ≤ 51 ∧ Fl.rung m e = m) ∨ (4503599627370496 ≤ m ∧ m.log2 = 52 ∧ e ≤ 971 ∧ (Fl.rung m e : Int) = (e + 1074) * 4503599627370496 + m)) :
    Calls Tryz.prog 48 #[.float .f64 (Ieee.double.word s (Fl.rung m e))] w fun e_ w' => e_ = .returned (.int .u64 (dD (Ieee.double.word s (Fl.rung m e)) : Nat)) ∧ Below w.heap.size w w' := by
  obtain ⟨hfin1, hfin2, hfin3⟩ := Fl.gH s hm hm2 he hE
  have oz := Fl.oI s hm hm2 he hE
  have g1 : (FloatKind.f64.format.order (Ieee.double.word s (Fl.rung m e)) 0 == some .lt) = s := oz.1
  have g2 : (FloatKind.f64.format.order (Ieee.double.word s (Fl.rung m e)) 0 == some .eq) = false := oz.2
  have os := Fl.nC false hm hm2 he hE (Fl.rung m e) (Fl.bX _).symm
  have g3 : (FloatKind.f64.format.order (Fl.rung m e) (Fl.rung m e) != some .eq) = false := by show (Ieee.double.order _ _ != some .eq) = false; rw [os]; rfl
  have oz2 := (Fl.oI false hm hm2 he hE).2
  rw [Fl.bX] at oz2
  have g4 : (FloatKind.f64.format.order (Fl.rung m e) 0 == some .eq) = false := oz2
  have g5 := Fl.mul_two false hm hm2 (e := e) (k := 1) he hE (by omega) (by omega) (by omega)
  rw [Fl.bX, Fl.bX, kE] at g5
  have g5' : ∀ W, (binOp .mul 49 (.float .f64 (Fl.rung m e)) (.float .f64 4611686018427387904)).run Tryz.prog W = .ok (.float .f64 (Fl.rung m (e + 1))) W := fun W => run_float_arith W .mul 49 .f64 _ _ _ g5
  have g6 : (FloatKind.f64.format.order (Fl.rung m e) (Fl.rung m (e + 1)) == some .eq) = false := (Fl.tq hm hm2 he hE).1
  have hng := fun W => oW Tryz.prog W s (r := Fl.rung m e) (by omega)
  have hL := Fl.js hm hm2
  have g7 := Fl.mul_two false hm hm2 (e := -(m.log2 : Int)) (k := 52) (by omega) (by omega) (by omega) (by omega) (by omega)
  rw [Fl.bX, Fl.bX, J2] at g7
  have g7' : ∀ W, (binOp .mul 49 (.float .f64 (Fl.rung m (-(m.log2 : Int)))) (.float .f64 4841369599423283200)).run Tryz.prog W = .ok (.float .f64 (Fl.rung m (-(m.log2 : Int) + 52))) W := fun W => run_float_arith W .mul 49 .f64 _ _ _ g7
  have g8 := Fl.vX hm hm2 (e := -(m.log2 : Int) + 52) (by omega) (by omega) (by omega)
  rw [show (-(m.log2 : Int) + 52).toNat = 52 - m.log2 by omega] at g8
  obtain ⟨K, hK⟩ : ∃ K, K = m * 2 ^ (52 - m.log2) := ⟨_, rfl⟩
  rw [← hK] at g8
  have hK1 : 4503599627370496 ≤ K := by
    have h0 : K ≠ 0 := by rw [hK]; exact Nat.mul_ne_zero hm (Nat.pos_iff_ne_zero.1 (Nat.pow_pos (by omega)))
    have : 52 ≤ K.log2 := by rw [hK, Fl.iF hm]; omega
    simpa using (Nat.le_log2 h0).1 this
  have hK2 : K < 9007199254740992 := by
    have h0 : K ≠ 0 := by omega
    have : K.log2 < 53 := by rw [hK, Fl.iF hm]; omega
    simpa using (Nat.log2_lt h0).1 this
  have g9 := pX g8 (by omega)
  have g9' : ∀ W, (convert 49 60 (.float .f64 (Fl.rung m (-(m.log2 : Int) + 52)))).run Tryz.prog W = .ok (.int .u64 (K : Int)) W := fun W => run_convert_float_int W 49 60 .f64 .u64 _ _ (by kernel_rfl) Tryz.underlying60 g9
  clear g5 g7 g8 g9 oz oz2 os hfin1
  rw [Fl.mT s (by omega), Fl.vk]
  have hsp := fun w => DK.calls hm hm2 e he hE w
  have HN := Aside0.mk hng
  clear hng
  have hfin := Aside0.mk hfin2
  clear hfin2 hfin3
  have mk : bits .and .u64 (K : Int) 4503599627370495 = (K : Int) % 4503599627370496 := vn 52 (by omega) K (by omega) (by omega)
  rcases hform with ⟨f1, f2, f3, f4⟩ | ⟨f1, f2, f3, f4⟩
  ·
    have hn : decide (e + (m.log2 : Int) + 1023 > 0) = false := decide_eq_false (by omega)
    have hKm : (K : Int) / 2 ^ (1 - (e + (m.log2 : Int)) - 1023).toNat = m := by
      rw [show (1 - (e + (m.log2 : Int)) - 1023).toNat = 52 - m.log2 by omega, hK]
      have : 0 < (2 : Nat) ^ (52 - m.log2) := Nat.pow_pos (by omega)
      push_cast
      exact Int.mul_ediv_cancel _ (by have : (0 : Int) < 2 ^ (52 - m.log2) := by exact_mod_cast this
                                      omega)
    have hres := Aside0.mk f4
    have hsh : 0 ≤ 1 - (e + (m.log2 : Int)) - 1023 ∧ 1 - (e + (m.log2 : Int)) - 1023 ≤ 64 := by omega
    have hKm' := Aside0.mk hKm
    clear f2 f4 hKm hK
    cases s
    · rw [Fl.bX] at g1 g2 ⊢
      go_enter Tryz.func48, Tryz.ntmps48
      go_wp2_with (first | (go_at_call 107; (with_reducible refine (iW.jV _ _ _ g1 g2).mono ?_); rintro e' w1 ⟨rfl, nd, rfl⟩) | (go_at_call 108; (with_reducible refine (hsp _).mono ?_); rintro e' w2 ⟨rfl, hb2⟩))
      go_ret
      refine ⟨?_, ij (aG (Below.refl _ _) _) (Nat.le_refl _) hb2⟩
      have hv : bits BinOp.or IntKind.u64 0 ((K : Int) / 2 ^ (1 - (e + (m.log2 : Int)) - 1023).toNat) = 0 + (Fl.rung m e : Int) := by
        rw [hKm'.out, hres.out]
        exact nD 63 _ _ (by omega) (by omega) (by omega) (by omega) (by omega) (by omega)
      rw [Int.zero_add] at hv
      exact congrArg (fun x => Ending.returned (.int .u64 x)) (by simpa using hv)
    · have hng : ∀ W, (Op.unary .neg (.float .f64 (Ieee.double.word true (Fl.rung m e)))).run Tryz.prog W = .ok (.float .f64 (Fl.rung m e)) W := fun W => by have := HN.out W; rwa [Bool.not_true, Fl.bX] at this
      go_enter Tryz.func48, Tryz.ntmps48
      go_wp2_with (first | (go_at_call 107; (with_reducible refine (iW.jV _ _ _ g1 g2).mono ?_); rintro e' w1 ⟨rfl, nd, rfl⟩) | (go_at_call 108; (with_reducible refine (hsp _).mono ?_); rintro e' w2 ⟨rfl, hb2⟩))
      go_ret
      refine ⟨?_, ij (aG (Below.refl _ _) _) (Nat.le_refl _) hb2⟩
      have hv : bits BinOp.or IntKind.u64 9223372036854775808 ((K : Int) / 2 ^ (1 - (e + (m.log2 : Int)) - 1023).toNat) = 9223372036854775808 + (Fl.rung m e : Int) := by
        rw [hKm'.out, hres.out]
        exact nD 63 _ _ (by omega) (by omega) (by omega) (by omega) (by omega) (by omega)
      exact congrArg (fun x => Ending.returned (.int .u64 x)) (by simpa using hv)
  ·
    have hn : decide (e + (m.log2 : Int) + 1023 > 0) = true := decide_eq_true (by omega)
    have hKm : K = m := by rw [hK, f2]; simp
    have hres := Aside0.mk f4
    have hKm' := Aside0.mk hKm
    have hl := Aside0.mk f2
    have hsh : 0 ≤ e + (m.log2 : Int) + 1023 ∧ e + (m.log2 : Int) + 1023 ≤ 2046 := by omega
    clear f2 f4 hKm hK
    cases s
    · rw [Fl.bX] at g1 g2 ⊢
      go_enter Tryz.func48, Tryz.ntmps48
      go_wp2_with (first | (go_at_call 107; (with_reducible refine (iW.jV _ _ _ g1 g2).mono ?_); rintro e' w1 ⟨rfl, nd, rfl⟩) | (go_at_call 108; (with_reducible refine (hsp _).mono ?_); rintro e' w2 ⟨rfl, hb2⟩))
      go_ret
      refine ⟨?_, ij (aG (Below.refl _ _) _) (Nat.le_refl _) hb2⟩
      have hv : bits BinOp.or IntKind.u64 (bits BinOp.or IntKind.u64 0 ((e + (m.log2 : Int) + 1023) * 4503599627370496)) ((K : Int) % 4503599627370496) = 0 + (Fl.rung m e : Int) := by
        have h1 := hres.out
        have h2 := hKm'.out
        have h3 := hl.out
        rw [nD 63 0 ((e + (m.log2 : Int) + 1023) * 4503599627370496) (by omega) (by omega) (by omega) (by omega) (by omega) (by omega), nD 52 _ _ (by omega) (by omega) (by omega) (by omega) (by omega) (by omega)]
        omega
      rw [Int.zero_add] at hv
      exact congrArg (fun x => Ending.returned (.int .u64 x)) (by simpa using hv)
    · have hng : ∀ W, (Op.unary .neg (.float .f64 (Ieee.double.word true (Fl.rung m e)))).run Tryz.prog W = .ok (.float .f64 (Fl.rung m e)) W := fun W => by have := HN.out W; rwa [Bool.not_true, Fl.bX] at this
      go_enter Tryz.func48, Tryz.ntmps48
      go_wp2_with (first | (go_at_call 107; (with_reducible refine (iW.jV _ _ _ g1 g2).mono ?_); rintro e' w1 ⟨rfl, nd, rfl⟩) | (go_at_call 108; (with_reducible refine (hsp _).mono ?_); rintro e' w2 ⟨rfl, hb2⟩))
      go_ret
      refine ⟨?_, ij (aG (Below.refl _ _) _) (Nat.le_refl _) hb2⟩
      have hv : bits BinOp.or IntKind.u64 (bits BinOp.or IntKind.u64 9223372036854775808 ((e + (m.log2 : Int) + 1023) * 4503599627370496)) ((K : Int) % 4503599627370496) = 9223372036854775808 + (Fl.rung m e : Int) := by
        have h1 := hres.out
        have h2 := hKm'.out
        have h3 := hl.out
        rw [nD 63 9223372036854775808 ((e + (m.log2 : Int) + 1023) * 4503599627370496) (by omega) (by omega) (by omega) (by omega) (by omega) (by omega), nD 52 _ _ (by omega) (by omega) (by omega) (by omega) (by omega) (by omega)]
        omega
      exact congrArg (fun x => Ending.returned (.int .u64 x)) (by simpa using hv)
set_option maxRecDepth 100000 in
theorem fH.calls (bv0 : Nat) (a0 : Int) (r : Int) (w : World) (bq0 : FB bv0 a0) (h : fH.f a0 = some r) :
    Calls Tryz.prog 48 #[.float .f64 bv0] w fun e_ w' => e_ = .returned (.int .u64 r) ∧ Below w.heap.size w w' := by
 obtain rfl := Option.some.inj h; clear h; rw [bq0.eq]
 rcases Fl.classify bv0 bq0.lt with hn | hz | hz | ⟨s, m, e, hm, hm2, he, hE, hz, hform⟩
 · exact fH.nan _ w hn
 ·
  obtain ⟨s, hz⟩ := hz; rw [hz]; exact fH.zero s w
 ·
  obtain ⟨s, hz⟩ := hz; rw [hz]; exact fH.inf s w
 ·
  rw [hz]; exact fH.fin s w hm hm2 he hE hform
theorem mA (g : Nat) (b : Bool) (w : World) (hg : w.heap[g]? = some (.cells #[.bool b] 4 (0, 0))) :
    Calls Tryz.prog 175 #[.pointer (some ⟨g, 0, none⟩)] w fun e w' => e = .returned (.bool (!b)) ∧ w' = w.setCell ⟨g, 0, none⟩ (.bool (!b)) := by
 have h0 : w.cell? ⟨g, 0, none⟩ = some (.bool b) := (af hg 0).trans rfl; have h1 := aj hg 0; clear hg; go_enter Tryz.func175, Tryz.ntmps175
 go_wp2
 go_ret
 exact ⟨rfl, rfl⟩
theorem oD (w : World) :
    Calls Tryz.prog 158 #[] w fun e w' => e = .returned (.func (.func 175) #[] #[.pointer (some ⟨w.heap.size, 0, none⟩)]) ∧ w' = w.alloc (.cells #[.bool true] 4) := by
 have hmf : ∀ (fn : Fn) (first cap : Array Value) (w : World), (Instr.makeFunc fn first cap).run Tryz.prog w = .ok (.func fn first cap) w := fun _ _ _ _ => rfl
 go_enter Tryz.func158, Tryz.ntmps158
 go_wp2
 go_ret
 exact ⟨rfl, rfl⟩
def aZ.l0 : Nat → List Bool → Bool → Int → Int → Option (Int)
 | 0, _, _, _, _ => none
 | k + 1, x0, x1, x7, x8 => if x8 < x7 then (if 0 ≤ x8 then (if x8 < (x0.length : Int) then (if (x1 == (fW false x0 x8)) = true then (some x8) else (aZ.l0 k x0 x1 x7 (wrap64 (x8 + 1)))) else (none)) else (none)) else (some (-1))
def aZ.f (k : Nat) (l0 : List Bool) (a1 : Bool) : Option (Int) := aZ.l0 k l0 a1 (l0.length : Int) 0
theorem aZ.cF : ∀ k, (∀ y0 y1 y2 y3, LeO (aZ.l0 k y0 y1 y2 y3) (aZ.l0 (k + 1) y0 y1 y2 y3))
 | 0 => fun _ _ _ _ r h => by simp [aZ.l0] at h
 | k + 1 => by
  have ih0 := aZ.cF k
  ·
   intro y0 y1 y2 y3; unfold aZ.l0
   repeat' first
   | (with_reducible exact ih0 _ _ _ _)
   | (with_reducible exact LeO.refl _)
   | (with_reducible exact LeO.none _)
   | (with_reducible refine LeO.ite ?_ ?_)
   | (with_reducible refine LeO.bind ?_ (fun _ => ?_))
theorem aZ.mono : ∀ a0 a1 k, LeO (aZ.f k a0 a1) (aZ.f (k + 1) a0 a1) := by
 intro a0 a1 k; have ih0 := aZ.cF k; unfold aZ.f
 repeat' first
  | (with_reducible exact ih0 _ _ _ _)
  | (with_reducible exact LeO.refl _)
  | (with_reducible exact LeO.none _)
  | (with_reducible refine LeO.ite ?_ ?_)
  | (with_reducible refine LeO.bind ?_ (fun _ => ?_))
set_option maxHeartbeats 8000000 in
set_option maxRecDepth 100000 in
theorem aZ.calls (k : Nat) (A0 : Option Addr) (c0 : Nat) (l0 : List Bool) (a1 : Bool) (r : Int) (w : World) (hr0 : Kd.C Kd.bool w A0 l0.length l0) (hc0 : l0.length ≤ c0) (h : aZ.f k l0 a1 = some r) :
 Calls Tryz.prog 159 #[.slice A0 l0.length c0, .bool a1] w fun e w' => e = .returned (.int .i64 r) ∧ bP w w' := by
 have HR0 := Aside0.mk hr0; have HC0 := Aside0.mk hc0; clear hr0 hc0; have H := h; unfold aZ.f at H; clear h; have H' := Aside0.mk H; clear H; go_enter Tryz.func159, Tryz.ntmps159
 go_wp2
 go_loopg [8] k (fun kq v8 w' => ∃ (cR : Int), v8 = .int .i64 cR ∧ Aside0 (aZ.l0 kq l0 a1 (l0.length : Int) cR = some r) ∧ Aside0 (kq ≤ k) ∧ bP w w')
 case atStart => exact ⟨(0), sz, H', ⟨Nat.le_refl _⟩, by repeat (first | exact bP.refl _ | apply bP.step)⟩
 case round =>
  clear H'
  try clear c1
  try clear p2
  obtain ⟨cR, rfl, HA, HK1, ⟨m1, rfl⟩⟩ := hrel
  cases gk with
  | zero => exact absurd HA.out (by simp [aZ.l0])
  | succ k1 =>
   have H := HA.out; clear HA; simp only [aZ.l0] at H
   by_cases c3 : cR < (l0.length : Int)
   ·
    rw [if_pos c3] at H; have gD := decide_eq_true c3; clear c3; obtain ⟨c4, H⟩ := ifz H; have iC : decide (0 ≤ cR) = true := decide_eq_true c4; clear c4; obtain ⟨c5, H⟩ := ifz H; have fk : decide (cR < (l0.length : Int)) = true := decide_eq_true c5; clear c5
    by_cases c6 : (a1 == (fW false l0 cR)) = true
    ·
     rw [if_pos c6] at H; have oC : (a1 == (fW false l0 cR)) = true := c6; (try (have xJ : decide (a1 = (fW false l0 cR)) = true := by simpa using c6)); (try (have P6 : (a1 == (fW false l0 cR)) = true := by simpa using c6)); clear c6; obtain rfl := Option.some.inj H; have p109 : 0 ≤ (cR : Int) := of_decide_eq_true az; have q109 : cR < (l0.length : Int) := of_decide_eq_true az; obtain ⟨NU, e109, Ka⟩ := Kd.nA HR0.out cR p109 q109
     cases e109
     replace p109 := eq_true p109; replace q109 := eq_true q109
     go_wp2
     go_ret
     exact ⟨by first | rfl | (simp; done) | (simp [*]; done), by repeat (first | exact bP.refl _ | apply bP.step)⟩
    ·
     rw [if_neg c6] at H; have oC : (a1 == (fW false l0 cR)) = false := by simpa using c6
     (try (have xJ : decide (a1 = (fW false l0 cR)) = false := by simpa using c6)); (try (have P6 : (a1 == (fW false l0 cR)) = false := by simpa using c6)); (try (have UW : ¬ (a1 = (fW false l0 cR)) := by simpa using c6)); clear c6; have H' := Aside0.mk H; clear H; have p109 : 0 ≤ (cR : Int) := of_decide_eq_true az; have q109 : cR < (l0.length : Int) := of_decide_eq_true az; obtain ⟨NU, e109, Ka⟩ := Kd.nA HR0.out cR p109 q109
     cases e109
     replace p109 := eq_true p109; replace q109 := eq_true q109
     go_wp2
     go_roundg k1
     case measure => have := HK1.out; omega
     case rel => exact ⟨(wrap64 (cR + 1)), sz, H', ⟨by have := HK1.out; omega⟩, by repeat (first | exact bP.refl _ | apply bP.step)⟩
   ·
    rw [if_neg c3] at H; have gD := decide_eq_false c3; clear c3; obtain rfl := Option.some.inj H
    go_wp2
    go_ret
    exact ⟨by first | rfl | (simp; done) | (simp [*]; done), by repeat (first | exact bP.refl _ | apply bP.step)⟩
def cu.l0 : Nat → Bool → List Bool → List Int → Option (List Int)
  | 0, _, _, _ => none
  | k + 1, b, l, out => if 0 < l.length then ((aZ.f k l b).bind fun n => if n < 0 then (if out.length < 17592186044415 then cu.l0 k (!b) (l.drop l.length) (out ++ [(l.length : Int)]) else none) else if n ≤ l.length then (if out.length < 17592186044415 then cu.l0 k (!b) (l.drop n.toNat) (out ++ [n]) else none) else none) else some out
def cu.f (k : Nat) (l0 : List Bool) : Option (List Int) := cu.l0 k true l0 []
theorem cu.cF : ∀ k b l out, LeO (cu.l0 k b l out) (cu.l0 (k + 1) b l out)
  | 0, _, _, _ => fun r h => by simp [cu.l0] at h
  | k + 1, b, l, out => by
    have ih := cu.cF k
    unfold cu.l0
    refine LeO.ite (LeO.bind (aZ.mono _ _ _) fun n => LeO.ite (LeO.ite (ih _ _ _) (LeO.refl _)) (LeO.ite (LeO.ite (ih _ _ _) (LeO.refl _)) (LeO.refl _))) (LeO.refl _)
theorem cu.mono : ∀ a0 k, LeO (cu.f k a0) (cu.f (k + 1) a0) := fun a0 k => cu.cF k _ _ _
set_option maxHeartbeats 8000000 in
set_option maxRecDepth 100000 in
theorem cu.calls (k : Nat) (A0 : Option Addr) (c0 : Nat) (l0 : List Bool) (r : List Int) (w : World) (hr0 : Kd.C Kd.bool w A0 l0.length l0) (hc0 : l0.length ≤ c0) (h : cu.f k l0 = some r) :
    Calls Tryz.prog 109 #[.slice A0 l0.length c0] w fun e w' => ∃ v0_ : Value, e = .returned (v0_) ∧ Kd.R (Kd.int .i64) 3 w' w.heap.size (fun _ => True) v0_ r ∧ Below w.heap.size w w' := by
 have H' := Aside0.mk (show cu.l0 k true l0 [] = some r from h); have HR0 := Aside0.mk hr0; have HC0 := Aside0.mk hc0; clear h hr0 hc0; go_enter Tryz.func109, Tryz.ntmps109
 go_wp2_with (go_at_call 158; (with_reducible refine (oD _).mono ?_); rintro e w2 ⟨rfl, hw2⟩; have HG2 := Aside0.mk (show w2.heap[w.heap.size]? = some (.cells #[.bool true] 4 (0, 0)) from by rw [hw2]; exact eJ w _); have HB2 := Aside0.mk (show Below w.heap.size w w2 from by rw [hw2]; exact aH (Below.refl _ _) _); clear hw2)
 go_loopg [0, 3] k (fun kq v0 v3 w' => ∃ (A : Option Addr) (c : Nat) (b : Bool) (l : List Bool) (out : List Int), v0 = .slice A l.length c ∧ Aside0 (l.length ≤ c) ∧ Aside0 (Kd.C Kd.bool w A l.length l) ∧ Aside0 (cu.l0 kq b l out = some r) ∧ Aside0 (kq ≤ k) ∧ Aside0 (Kd.R (Kd.int .i64) 3 w' w.heap.size (fun _ => True) v3 out) ∧ Aside0 (w'.heap[w.heap.size]? = some (.cells #[.bool b] 4 (0, 0))) ∧ Aside0 (Below w.heap.size w w'))
 case atStart => exact ⟨A0, c0, true, l0, [], by simp, HC0, HR0, H', ⟨Nat.le_refl _⟩, ⟨Kd.iE _ _ _ _ _⟩, HG2, HB2⟩
 case round =>
  clear H' HR0 HC0 HG2 HB2; obtain ⟨A, c, b, l, out, rfl, HC, HR, HA, HK, HO, HG, HB⟩ := hrel
  cases gk with
  | zero => exact absurd HA.out (by simp [cu.l0])
  | succ k1 =>
   have H := HA.out; clear HA; simp only [cu.l0] at H
   by_cases c1 : 0 < l.length
   ·
    rw [if_pos c1] at H; have c1b : decide (0 < l.length) = true := decide_eq_true c1; clear c1; obtain ⟨n, A70, H⟩ := Option.bind_eq_some_iff.mp H; have A7 := Aside0.mk A70; clear A70; obtain ⟨Ao, co, eo⟩ := Kd.bu HO.out; subst eo
    by_cases c2 : n < 0
    ·
     rw [if_pos c2] at H; have c2b : decide (n < 0) = true := decide_eq_true c2; clear c2
     by_cases c3 : out.length < 17592186044415
     ·
      rw [if_pos c3] at H; have H' := Aside0.mk H; have LM := Aside0.mk c3; clear H c3
      go_wp2_with (first | (go_at_call 175; (with_reducible refine (mA w.heap.size b _ HG.out).mono ?_); rintro e w3 ⟨rfl, hw3⟩; have n0_ := Aside0.mk (show w3.heap[w.heap.size]? = some (.cells #[.bool !b] 4 (0, 0)) from by rw [hw3]; exact fO HG.out 0 _ rfl); have n1_ := Aside0.mk (show Kd.R (Kd.int .i64) 3 w3 w.heap.size (fun _ => True) (.slice Ao out.length co) out from by rw [hw3]; exact Kd.zG HO.out HG.out (by decide) 0 _); have n2_ := Aside0.mk (show Below w.heap.size w w3 from by rw [hw3]; exact bM HB.out (Nat.le_refl _)); clear HG HO HB hw3; have HG := n0_; have HO := n1_; have HB := n2_; clear n0_ n1_ n2_) | (go_at_call 159; (with_reducible refine (aZ.calls k1 A c l b n _ (Kd.fc HR.out HB.out) HC.out A7.out).mono ?_); rintro e w4 ⟨rfl, nd, rfl⟩; have n0_ := Aside0.mk (bz HG.out nd); have n1_ := Aside0.mk (Kd.aC HO.out nd); have n2_ := Aside0.mk (aG HB.out nd); clear HG HO HB; have HG := n0_; have HO := n1_; have HB := n2_; clear n0_ n1_ n2_))
      have hm0 : (0 : Int) ≤ (l.length : Int) := by omega
      have hm1 : (l.length : Int) ≤ l.length := Int.le_refl _; obtain ⟨i0, hi0, _, hsz0, _⟩ := info_parts wh; have hcut := uY (P := Tryz.prog) 74 4 .i64 Tryz.underlying74 hi0 1 hsz0 A l.length c (l.length : Int) hm0 hm1; have hCd := Kd.AA (m := (l.length : Int).toNat) (c := c) HR.out (by omega) HC.out; obtain ⟨A', hA'⟩ : ∃ A1, A1 = (if c = (l.length : Int).toNat then A else A.map (·.add ((l.length : Int).toNat * 1))) := ⟨_, rfl⟩; obtain ⟨c', hc'⟩ : ∃ c1, c1 = c - (l.length : Int).toNat := ⟨_, rfl⟩; have hdl : (l.drop (l.length : Int).toNat).length = l.length - (l.length : Int).toNat := List.length_drop; have HCd := Aside0.mk (show Kd.C Kd.bool w A' (l.drop (l.length : Int).toNat).length (l.drop (l.length : Int).toNat) from by rw [hA']; exact hCd); have HCc := Aside0.mk (show (l.drop (l.length : Int).toNat).length ≤ c' from by rw [hdl, hc']; exact Nat.sub_le_sub_right HC.out _); rw [← hdl, ← hA', ← hc'] at hcut; clear hCd hA' hc' hi0 hsz0 hm0 hm1 hdl
      try go_wp2
      go_region_law (refine Kd.sS (Kd.int .i64) (w0 := w) w.heap.size (by simp [Region.wanted]) (.tmp 21) (.tmp 23) 57 3 (.int .i64 0) 8 rfl Tryz.underlying57 info3 rfl (by decide) (by decide) (.slice Ao out.length co) out (l.length : Int) [.int .i64 (l.length : Int)] (fun _ => True) (fun _ => False) (by simp [Act.eval, Act.put]) (by simp [Act.eval, Act.put]) rfl (fun _ hk => hk.elim) (fun _ _ => trivial) (Kd.ax HO.out) (bw HB.out) (ai (bw HB.out)) (by have := LM.out; omega) ?_; intro v1 w1 ho hb hg hat)
      have n0_ := Aside0.mk (eL (cQ HG.out) hg (Kd.l9 (Kd.ax HO.out) (cQ HG.out) (by decide))); have n1_ := Aside0.mk ho; have n2_ := Aside0.mk hb; clear HG HO HB ho hb hg hat
      try go_wp2
      go_roundg k1
      case measure => have := HK.out; omega
      case rel => exact ⟨A', c', !b, l.drop l.length, out ++ [(l.length : Int)], (by first | rfl | (simp; done) | (simp [*]; done)), HCc, HCd, H', ⟨by have := HK.out; omega⟩, n1_, n0_, n2_⟩
     ·
      rw [if_neg c3] at H; exact absurd H (by simp)
    ·
     rw [if_neg c2] at H; have c2b : decide (n < 0) = false := decide_eq_false c2; clear c2
     by_cases c4 : n ≤ l.length
     ·
      rw [if_pos c4] at H
      by_cases c3 : out.length < 17592186044415
      ·
       rw [if_pos c3] at H; have H' := Aside0.mk H; have LM := Aside0.mk c3; clear H c3
       go_wp2_with (first | (go_at_call 175; (with_reducible refine (mA w.heap.size b _ HG.out).mono ?_); rintro e w3 ⟨rfl, hw3⟩; have n0_ := Aside0.mk (show w3.heap[w.heap.size]? = some (.cells #[.bool !b] 4 (0, 0)) from by rw [hw3]; exact fO HG.out 0 _ rfl); have n1_ := Aside0.mk (show Kd.R (Kd.int .i64) 3 w3 w.heap.size (fun _ => True) (.slice Ao out.length co) out from by rw [hw3]; exact Kd.zG HO.out HG.out (by decide) 0 _); have n2_ := Aside0.mk (show Below w.heap.size w w3 from by rw [hw3]; exact bM HB.out (Nat.le_refl _)); clear HG HO HB hw3; have HG := n0_; have HO := n1_; have HB := n2_; clear n0_ n1_ n2_) | (go_at_call 159; (with_reducible refine (aZ.calls k1 A c l b n _ (Kd.fc HR.out HB.out) HC.out A7.out).mono ?_); rintro e w4 ⟨rfl, nd, rfl⟩; have n0_ := Aside0.mk (bz HG.out nd); have n1_ := Aside0.mk (Kd.aC HO.out nd); have n2_ := Aside0.mk (aG HB.out nd); clear HG HO HB; have HG := n0_; have HO := n1_; have HB := n2_; clear n0_ n1_ n2_))
       have hm0 : (0 : Int) ≤ n := by have := of_decide_eq_false c2b; omega
       have hm1 : n ≤ l.length := c4; clear c4; obtain ⟨i0, hi0, _, hsz0, _⟩ := info_parts wh; have hcut := uY (P := Tryz.prog) 74 4 .i64 Tryz.underlying74 hi0 1 hsz0 A l.length c n hm0 hm1; have hCd := Kd.AA (m := n.toNat) (c := c) HR.out (by omega) HC.out; obtain ⟨A', hA'⟩ : ∃ A1, A1 = (if c = n.toNat then A else A.map (·.add (n.toNat * 1))) := ⟨_, rfl⟩; obtain ⟨c', hc'⟩ : ∃ c1, c1 = c - n.toNat := ⟨_, rfl⟩; have hdl : (l.drop n.toNat).length = l.length - n.toNat := List.length_drop; have HCd := Aside0.mk (show Kd.C Kd.bool w A' (l.drop n.toNat).length (l.drop n.toNat) from by rw [hA']; exact hCd); have HCc := Aside0.mk (show (l.drop n.toNat).length ≤ c' from by rw [hdl, hc']; exact Nat.sub_le_sub_right HC.out _); rw [← hdl, ← hA', ← hc'] at hcut; clear hCd hA' hc' hi0 hsz0 hm0 hm1 hdl
       try go_wp2
       go_region_law (refine Kd.sS (Kd.int .i64) (w0 := w) w.heap.size (by simp [Region.wanted]) (.tmp 21) (.tmp 23) 57 3 (.int .i64 0) 8 rfl Tryz.underlying57 info3 rfl (by decide) (by decide) (.slice Ao out.length co) out n [.int .i64 n] (fun _ => True) (fun _ => False) (by simp [Act.eval, Act.put]) (by simp [Act.eval, Act.put]) rfl (fun _ hk => hk.elim) (fun _ _ => trivial) (Kd.ax HO.out) (bw HB.out) (ai (bw HB.out)) (by have := LM.out; omega) ?_; intro v1 w1 ho hb hg hat)
       have n0_ := Aside0.mk (eL (cQ HG.out) hg (Kd.l9 (Kd.ax HO.out) (cQ HG.out) (by decide))); have n1_ := Aside0.mk ho; have n2_ := Aside0.mk hb; clear HG HO HB ho hb hg hat
       try go_wp2
       go_roundg k1
       case measure => have := HK.out; omega
       case rel => exact ⟨A', c', !b, l.drop n.toNat, out ++ [n], (by first | rfl | (simp; done) | (simp [*]; done)), HCc, HCd, H', ⟨by have := HK.out; omega⟩, n1_, n0_, n2_⟩
      ·
       rw [if_neg c3] at H; exact absurd H (by simp)
     ·
      rw [if_neg c4] at H; exact absurd H (by simp)
   ·
    rw [if_neg c1] at H; have c1b : decide (0 < l.length) = false := decide_eq_false c1; obtain rfl := Option.some.inj H; clear H c1
    go_wp2
    go_ret
    exact ⟨_, rfl, HO.out, HB.out⟩
end Go.Proofs.YtfgnjndfnijjoaaGreat.Print
end
section
namespace Go.Proofs.YtfgnjndfnijjoaaGreat.Print
open Go.RowKit Go.Proofs.YtfgnjndfnijjoaaGreatW.PrintWords Go.Proofs.YtfgnjndfnijjoaaGreatW.PrintLast Go.Proofs.YtfgnjndfnijjoaaGreatW.PrintMore
attribute [local go_sem] dJ dK eF eG cZ dc dL dM
attribute [local go_sem] bH
set_option linter.unusedVariables false
set_option linter.unusedSimpArgs false
def cS.g (k : Nat) : List Int → ByteArray → Option ByteArray
  | [], acc => some acc
  | x :: xs, acc => (bL.f k (IntKind.u64.wrap x)).bind fun a => if acc.size + a.size ≤ 140737488355328 then cS.g k xs (acc ++ a) else none
def cS.f (k : Nat) (l0 : List Bool) : Option ByteArray := (cu.f k l0).bind fun t => if t.length < 4611686018427387904 then cS.g k t ByteArray.empty else none
theorem cS.mono : ∀ a0 k, LeO (cS.f k a0) (cS.f (k + 1) a0) := by
 have hg : ∀ (k : Nat) (l : List Int) (acc : ByteArray), LeO (cS.g k l acc) (cS.g (k + 1) l acc) := by
  intro k l
  induction l with
  | nil => intro acc; exact LeO.refl _
  | cons x xs ih =>
   intro acc; unfold cS.g; refine LeO.bind (bL.mono _ _) fun a => LeO.ite (ih _) (LeO.refl _)
 intro a0 k; exact LeO.bind (cu.mono _ _) fun t => LeO.ite (hg k t _) (LeO.refl _)
set_option maxHeartbeats 8000000 in
set_option maxRecDepth 100000 in
theorem cS.calls (k : Nat) (A0 : Option Addr) (c0 : Nat) (l0 : List Bool) (r : ByteArray) (w : World) (hr0 : Kd.C Kd.bool w A0 l0.length l0) (hc0 : l0.length ≤ c0) (h : cS.f k l0 = some r) :
    Calls Tryz.prog 49 #[.slice A0 l0.length c0] w fun e w' => e = .returned (.string r) ∧ Below w.heap.size w w' := by
 have H := h; clear h; unfold cS.f at H; obtain ⟨t, A20, H⟩ := Option.bind_eq_some_iff.mp H; have A2 := Aside0.mk A20
 by_cases hlen : t.length < 4611686018427387904
 case neg => rw [if_neg hlen] at H; exact absurd H (by simp)
 rw [if_pos hlen] at H; have LM := Aside0.mk hlen; clear hlen; have H' := Aside0.mk H; have HR0 := Aside0.mk hr0; have HC0 := Aside0.mk hc0; clear A20 H hr0 hc0; have HB := Aside0.mk (Below.refl w.heap.size w); go_enter Tryz.func49, Tryz.ntmps49
 go_wp2_with (go_at_call 109; (with_reducible refine (cu.calls k _ _ l0 t _ ?side1 ?side2 A2.out).mono ?_); (case side1 => (with_reducible refine Kd.bO ?_ _); exact HR0.out); (case side2 => exact HC0.out); rintro e w3 ⟨v0, rfl, ho0, hb⟩; obtain ⟨Ao4, co4, eo4⟩ := Kd.bu ho0; subst eo4)
 have hbb : w3.heap[w.heap.size]? = some (.cells #[.pointer none, .slice none 0 0] 104 (0, 0)) := by rw [hb.block _ (by show _ < (w.heap.push _).size; simp)]; show (w.heap.push _)[w.heap.size]? = _; simp
 have hBld : Build.Bld w.heap.size w.heap.size ByteArray.empty w3 := (Build.Bld.fresh w).below hb; have HO := Aside0.mk (Kd.cV ho0 (show w.heap.size ≤ (w.alloc (.cells #[.pointer none, .slice none 0 0] 104)).heap.size from by show _ ≤ (w.heap.push _).size; simp)); have HB3 := Aside0.mk (aM (by repeat (first | (with_reducible first | exact HB.out | apply aH | apply aG | apply bw) | exact HB.out)) hb); have HBl := Aside0.mk hBld; clear hb ho0 hBld hbb HB
 go_loopg [9] (t.length + 1) (fun kq v9 w' => ∃ (x9 : Int) (acc : ByteArray), v9 = .int .i64 x9 ∧ Aside0 (0 ≤ x9 ∧ x9 ≤ t.length ∧ (kq : Int) + x9 = t.length + 1) ∧ Aside0 (cS.g k (t.drop x9.toNat) acc = some r) ∧ Aside0 (Build.Bld w.heap.size w.heap.size acc w') ∧ Aside0 (Kd.R (Kd.int .i64) 3 w' w.heap.size (fun _ => True) (.slice Ao4 t.length co4) t) ∧ Aside0 (Below w.heap.size w w'))
 case atStart => exact ⟨0, ByteArray.empty, by simp, ⟨by omega⟩, H', HBl, HO, HB3⟩
 case round =>
  clear HO HB3 HBl H'; obtain ⟨x9, acc, rfl, HK, HG, HBl, HO, HB⟩ := hrel
  cases gk with
  | zero => have := HK.out; exact absurd this (by omega)
  | succ k1 =>
   by_cases hi : x9 < (t.length : Int)
   ·
    have fk : decide (x9 < (t.length : Int)) = true := decide_eq_true (by omega); have hk9 := HK.out
    have hdrop : t.drop x9.toNat = rd t x9 :: t.drop (x9.toNat + 1) := by
     rw [List.drop_eq_getElem_cons (show x9.toNat < t.length by omega)]
     congr 1
     unfold rd
     simp [List.getD_eq_getElem?_getD, show x9.toNat < t.length by omega]
    have hG := HG.out; clear HG; rw [hdrop] at hG; unfold cS.g at hG; obtain ⟨a, A30, hG⟩ := Option.bind_eq_some_iff.mp hG
    by_cases hz : acc.size + a.size ≤ 140737488355328
    ·
     rw [if_pos hz] at hG; have H' := Aside0.mk hG; have A3 := Aside0.mk A30; clear hG A30 hdrop; have p290 : 0 ≤ x9 := by omega
     have q290 : x9 < (t.length : Int) := by omega
     obtain ⟨Jj, e290, qu⟩ := Kd.jE (Kd.av HO.out).2.2 x9 p290 q290
     cases e290
     have hi0 := Aside0.mk hi; clear hi hk9; replace p290 := eq_true p290; replace q290 := eq_true q290
     go_wp2_with (go_at_call 32; (with_reducible refine (bL.calls k _ a _ A3.out).mono ?_); rintro e w5 ⟨rfl, hb⟩; have n0_ := Aside0.mk (HBl.out.below hb); have n1_ := Aside0.mk (Kd.gG HO.out hb); have n2_ := Aside0.mk (aM HB.out hb); clear HBl HO HB hb qu; have HBl := n0_; have HO := n1_; have HB := n2_; clear n0_ n1_ n2_)
     go_wp2_with (go_at_call 85; (with_reducible refine (Build.write w.heap.size w.heap.size acc a _ HBl.out (by omega) (ai HB.out)).mono ?_); rintro e w6 ⟨rfl, hbl, hb, hk⟩; have n0_ := Aside0.mk (Build.n8 HO.out hk HBl.out.block (by decide)); have n2_ := Aside0.mk (HB.out.trans hb); clear HBl HO HB hb hk; have HBl := Aside0.mk hbl; have HO := n0_; have HB := n2_; clear n0_ n2_ hbl)
     go_roundg k1
     case measure => have := HK.out; omega
     case rel => exact ⟨wrap64 (x9 + 1), acc ++ a, (by first | rfl | (simp; done) | (simp [*]; done)), ⟨by have := HK.out; have := hi0.out; have := LM.out; unfold wrap64; omega⟩, ⟨by rw [show (wrap64 (x9 + 1)).toNat = x9.toNat + 1 by have := HK.out; have := LM.out; unfold wrap64; omega]; exact H'.out⟩, HBl, HO, HB⟩
    ·
     rw [if_neg hz] at hG; exact absurd hG (by simp)
   ·
    have fk : decide (x9 < (t.length : Int)) = false := decide_eq_false hi; have hk9 := HK.out; have hG := HG.out; rw [List.drop_eq_nil_of_le (by omega)] at hG; unfold cS.g at hG; obtain rfl := Option.some.inj hG; clear hG HG hi hk9
    go_wp2_with (go_at_call 86; (with_reducible refine (Build.string w.heap.size w.heap.size acc _ HBl.out (ai HB.out)).mono ?_); rintro e w9 ⟨rfl, hb, hk⟩; have n2_ := Aside0.mk (HB.out.trans hb); clear HB; have HB := n2_; clear n2_)
    go_ret
    exact ⟨rfl, HB.out⟩
theorem AU {w : World} {A : Option Addr} {n : Nat} {xs : List Int} (h : Kd.C Kd.flt w A n xs) (i : Int) (h0 : 0 ≤ i) (h1 : i < n) : ∃ ad b0, A = some ad ∧ w.cell? (ad.add i.toNat) = some (.float .f64 b0) ∧ FB b0 (xs.getD i.toNat 0) := by
 obtain ⟨ad, c, e, _, hK, hc0⟩ := Kd.pI h (0 : Int) i h0 h1; have hc : ∀ j u, c[j]? = some u → w.cell? (ad.add (i.toNat * 1 + j)) = some u := hc0; obtain ⟨b0, rfl, q0⟩ := hK; exact ⟨ad, b0, e, by have hq := hc 0 _ rfl; rwa [Nat.mul_one, Nat.add_zero] at hq, q0⟩
theorem Kb {B b : Nat} {s : ByteArray} {w : World} (h : Build.Bld B b s w) {p : Nat} (hp : p < B) (v : Value) : Build.Bld B b s (w.setCell ⟨p, 0, none⟩ v) := by
 have go : ∀ {q : Value}, Lib.BuilderAtF 104 5 B b q (Lib.strCells s) w → Lib.BuilderAtF 104 5 B b q (Lib.strCells s) (w.setCell ⟨p, 0, none⟩ v) := fun {q} hh => by
  obtain ⟨hB, u, hu, hown, hne⟩ := hh; refine ⟨hB, u, (Below.heap_setCell w _ _ b (by show b ≠ p; omega)).trans hu, hown.kept (grownBy_setCell' w p v) (.inr (fun e => ?_)), hne⟩; have := (hown.lt p e).1
  omega
 exact h.elim (fun x => .inl (go x)) (fun x => .inr (go x))
theorem oF (f : Nat) (w : World) :
    Calls Tryz.prog 110 #[.func (.func f) #[] #[]] w fun e w' => e = .returned (.func (.func 160) #[] #[.pointer (some ⟨w.heap.size + 1, 0, none⟩), .pointer (some ⟨w.heap.size, 0, none⟩)]) ∧ ∃ T, w' = (w.alloc (.cells #[.func (.func f) #[] #[]] T)).alloc (.cells #[.int .u64 0] 60) := by
 have hmf : ∀ (fn : Fn) (first cap : Array Value) (w : World), (Instr.makeFunc fn first cap).run Tryz.prog w = .ok (.func fn first cap) w := fun _ _ _ _ => rfl
 go_enter Tryz.func110, Tryz.ntmps110
 go_wp2
 go_ret
 exact ⟨rfl, _, rfl⟩
theorem xK (a b : Int) (w : World) : Calls Tryz.prog 111 #[.int .u64 a, .int .u64 b] w fun e w' => e = .returned (.int .u64 a) ∧ w' = w := by
 go_enter Tryz.func111, Tryz.ntmps111
 go_wp2
 go_ret
 exact ⟨rfl, rfl⟩
theorem wm (a b : Int) (w : World) : Calls Tryz.prog 136 #[.int .u64 a, .int .u64 b] w fun e w' => e = .returned (.int .u64 b) ∧ w' = w := by
 go_enter Tryz.func136, Tryz.ntmps136
 go_wp2
 go_ret
 exact ⟨rfl, rfl⟩
theorem zB (a x : Int) (p q : Nat) (T : TypeId) (w : World) (hp : w.heap[p]? = some (.cells #[.int .u64 x] 60 (0, 0))) (hq : w.heap[q]? = some (.cells #[.func (.func 111) #[] #[]] T (0, 0))) :
    Calls Tryz.prog 160 #[.int .u64 a, .pointer (some ⟨p, 0, none⟩), .pointer (some ⟨q, 0, none⟩)] w fun e w' => e = .returned (.int .u64 (bits .xor .u64 a x)) ∧ w' = w.setCell ⟨p, 0, none⟩ (.int .u64 a) := by
 have h0 : w.cell? ⟨p, 0, none⟩ = some (.int .u64 x) := (af hp 0).trans rfl; have h1 : w.cell? ⟨q, 0, none⟩ = some (.func (.func 111) #[] #[]) := (af hq 0).trans rfl; have h2 := aj hp 0; clear hp hq; go_enter Tryz.func160, Tryz.ntmps160
 go_wp2_with (go_at_call 111; refine (xK _ _ _).mono ?_; rintro e w' ⟨rfl, rfl⟩)
 go_ret
 exact ⟨rfl, rfl⟩
theorem xL (a x : Int) (p q : Nat) (T : TypeId) (w : World) (hp : w.heap[p]? = some (.cells #[.int .u64 x] 60 (0, 0))) (hq : w.heap[q]? = some (.cells #[.func (.func 136) #[] #[]] T (0, 0))) :
    Calls Tryz.prog 160 #[.int .u64 a, .pointer (some ⟨p, 0, none⟩), .pointer (some ⟨q, 0, none⟩)] w fun e w' => e = .returned (.int .u64 (bits .xor .u64 a x)) ∧ w' = w.setCell ⟨p, 0, none⟩ (.int .u64 (bits .xor .u64 a x)) := by
 have h0 : w.cell? ⟨p, 0, none⟩ = some (.int .u64 x) := (af hp 0).trans rfl; have h1 : w.cell? ⟨q, 0, none⟩ = some (.func (.func 136) #[] #[]) := (af hq 0).trans rfl; have h2 := aj hp 0; clear hp hq; go_enter Tryz.func160, Tryz.ntmps160
 go_wp2_with (go_at_call 136; refine (wm _ _ _).mono ?_; rintro e w' ⟨rfl, rfl⟩)
 go_ret
 exact ⟨rfl, rfl⟩
theorem j9 {w w' : World} (h : bP w w') : Below w.heap.size w w' := by
 obtain ⟨n, rfl⟩ := h; exact aG (Below.refl _ _) _
structure Chn (w : World) (f : Nat) (T : TypeId) (B : Nat) (W : World) (last : Int) (acc : ByteArray) : Prop where
  mk :: (bl : Build.Bld B B acc W) (p : W.heap[w.heap.size + 1]? = some (.cells #[.int .u64 last] 60 (0, 0))) (q : W.heap[w.heap.size]? = some (.cells #[.func (.func f) #[] #[]] T (0, 0))) (b : Below w.heap.size w W) (s : B ≤ W.heap.size) (h : w.heap.size + 2 ≤ B)
theorem Chn.below {w : World} {f : Nat} {T : TypeId} {B : Nat} {W W' : World} {last : Int} {acc : ByteArray} (h : Chn w f T B W last acc) (hb : Below W.heap.size W W') : Chn w f T B W' last acc :=
  ⟨h.bl.below hb, aX h.p hb, aX h.q hb, aM h.b hb, Nat.le_trans h.s hb.size, h.h⟩
theorem Chn.set {w : World} {f : Nat} {T : TypeId} {B : Nat} {W : World} {last : Int} {acc : ByteArray} (h : Chn w f T B W last acc) (x : Int) : Chn w f T B (W.setCell ⟨w.heap.size + 1, 0, none⟩ (.int .u64 x)) x acc :=
  ⟨Kb h.bl (by have := h.h; omega) _, jt h.p 0 _, iR h.q (by simp) _, h.b.setCell (p := ⟨w.heap.size + 1, 0, none⟩) (by show _ ≤ w.heap.size + 1; omega) _, by have := h.s; simpa using this, h.h⟩
theorem Chn.write {w : World} {f : Nat} {T : TypeId} {B : Nat} {W W' : World} {last : Int} {acc acc' : ByteArray} (h : Chn w f T B W last acc) (hbl : Build.Bld B B acc' W') (hb : Below B W W') : Chn w f T B W' last acc' :=
  ⟨hbl, (hb.block _ (by have := h.h; omega)).trans h.p, (hb.block _ (by have := h.h; omega)).trans h.q, h.b.trans (hb.mono (by have := h.h; omega)), Nat.le_trans h.s hb.size, h.h⟩
def jm.f (a0 : Int) : Option (Int) := some (Go.bits .or .u64 ((Go.bits .or .u64 (Go.bits .and .u64 ((Go.bits .or .u64 (Go.bits .and .u64 (a0 / 256) 71777214294589695) (IntKind.u64.wrap ((Go.bits .and .u64 a0 71777214294589695) * 256))) / 65536) 281470681808895) (IntKind.u64.wrap ((Go.bits .and .u64 (Go.bits .or .u64 (Go.bits .and .u64 (a0 / 256) 71777214294589695) (IntKind.u64.wrap ((Go.bits .and .u64 a0 71777214294589695) * 256))) 281470681808895) * 65536))) / 4294967296) (IntKind.u64.wrap ((Go.bits .or .u64 (Go.bits .and .u64 ((Go.bits .or .u64 (Go.bits .and .u64 (a0 / 256) 71777214294589695) (IntKind.u64.wrap ((Go.bits .and .u64 a0 71777214294589695) * 256))) / 65536) 281470681808895) (IntKind.u64.wrap ((Go.bits .and .u64 (Go.bits .or .u64 (Go.bits .and .u64 (a0 / 256) 71777214294589695) (IntKind.u64.wrap ((Go.bits .and .u64 a0 71777214294589695) * 256))) 281470681808895) * 65536))) * 4294967296)))
set_option maxHeartbeats 8000000 in
set_option maxRecDepth 100000 in
theorem jm.calls (a0 : Int) (r : Int) (w : World) (h : jm.f a0 = some r) :
 Calls Tryz.prog 112 #[.int .u64 a0] w fun e w' => e = .returned (.int .u64 r) ∧ bP w w' := by
 have H := h; unfold jm.f at H; clear h; obtain rfl := Option.some.inj H; go_enter Tryz.func112, Tryz.ntmps112
 go_wp2
 go_ret
 exact ⟨by first | rfl | (simp; done) | (simp [*]; done), by repeat (first | exact bP.refl _ | apply bP.step)⟩
def cW.g (k : Nat) : List Int → Int → ByteArray → Option ByteArray
  | [], _, acc => some acc
  | x :: xs, last, acc => (fH.f x).bind fun v => (jm.f (bits .xor .u64 v last)).bind fun u => (bL.f k u).bind fun a => if acc.size + a.size ≤ 140737488355328 then cW.g k xs v (acc ++ a) else none
def cW.f (k : Nat) (l0 : List Int) : Option ByteArray := if l0.length < 4611686018427387904 then cW.g k l0 0 ByteArray.empty else none
theorem cW.mono : ∀ a0 k, LeO (cW.f k a0) (cW.f (k + 1) a0) := by
 have hg : ∀ (k : Nat) (l : List Int) (last : Int) (acc : ByteArray), LeO (cW.g k l last acc) (cW.g (k + 1) l last acc) := by
  intro k l
  induction l with
  | nil => intro last acc; exact LeO.refl _
  | cons x xs ih =>
   intro last acc; unfold cW.g; refine LeO.bind (LeO.refl _) fun v => LeO.bind (LeO.refl _) fun u => LeO.bind (bL.mono _ _) fun a => LeO.ite (ih _ _) (LeO.refl _)
 intro a0 k; exact LeO.ite (hg k a0 _ _) (LeO.refl _)
set_option maxHeartbeats 8000000 in
set_option maxRecDepth 100000 in
theorem cW.calls (k : Nat) (A0 : Option Addr) (c0 : Nat) (l0 : List Int) (r : ByteArray) (w : World) (hr0 : Kd.C Kd.flt w A0 l0.length l0) (hc0 : l0.length ≤ c0) (h : cW.f k l0 = some r) :
    Calls Tryz.prog 50 #[.slice A0 l0.length c0] w fun e w' => e = .returned (.string r) ∧ Below w.heap.size w w' := by
 have H := h; clear h; unfold cW.f at H
 by_cases hlen : l0.length < 4611686018427387904
 case neg => rw [if_neg hlen] at H; exact absurd H (by simp)
 rw [if_pos hlen] at H; have LM := Aside0.mk hlen; have H' := Aside0.mk H; have HR0 := Aside0.mk hr0; clear H hr0 hlen; have hmf : ∀ (fn : Fn) (first cap : Array Value) (w : World), (Instr.makeFunc fn first cap).run Tryz.prog w = .ok (.func fn first cap) w := fun _ _ _ _ => rfl
 go_enter Tryz.func50, Tryz.ntmps50
 go_wp2_with (go_at_call 110; (with_reducible refine (oF 111 _).mono ?_); rintro e w3 ⟨rfl, T, hw3⟩; have HW := Aside0.mk hw3; clear hw3)
 have hz3 : w3.heap.size = w.heap.size + 2 := by rw [HW.out]; simp
 have hbq : w3.heap[w.heap.size]? = some (.cells #[.func (.func 111) #[] #[]] T (0, 0)) := by rw [HW.out]; exact bx (eJ w _) _
 have hbp : w3.heap[w.heap.size + 1]? = some (.cells #[.int .u64 0] 60 (0, 0)) := by
  have := eJ (w.alloc (.cells #[.func (.func 111) #[] #[]] T)) (.cells #[.int .u64 0] 60); rw [HW.out]
  simpa using this
 have hB3 : Below w.heap.size w w3 := by rw [HW.out]; exact aH (aH (Below.refl _ _) _) _
 have C := Aside0.mk (show Chn w 111 T w3.heap.size (w3.alloc (.cells #[.pointer none, .slice none 0 0] 104)) 0 ByteArray.empty from ⟨Build.Bld.fresh w3, bx hbp _, bx hbq _, aH hB3 _, by simp, by omega⟩); clear hbq hbp hB3 hz3
 go_loopg [10] (l0.length + 1) (fun kq v10 w' => ∃ (i : Int) (last : Int) (acc : ByteArray), v10 = .int .i64 i ∧ Aside0 (0 ≤ i ∧ i ≤ l0.length ∧ (kq : Int) + i = l0.length + 1) ∧ Aside0 (cW.g k (l0.drop i.toNat) last acc = some r) ∧ Aside0 (Chn w 111 T w3.heap.size w' last acc))
 case atStart => exact ⟨0, 0, ByteArray.empty, by simp, ⟨by omega⟩, H', C⟩
 case round =>
  clear C H'; obtain ⟨i, last, acc, rfl, HK, HG, C⟩ := hrel
  cases gk with
  | zero => have := HK.out; exact absurd this (by omega)
  | succ k1 =>
   by_cases hi : i < (l0.length : Int)
   ·
    have fk : decide (i < (l0.length : Int)) = true := decide_eq_true hi; have hk9 := HK.out
    have hdrop : l0.drop i.toNat = l0.getD i.toNat 0 :: l0.drop (i.toNat + 1) := by
     rw [List.drop_eq_getElem_cons (show i.toNat < l0.length by omega)]
     congr 1
     simp [List.getD_eq_getElem?_getD, show i.toNat < l0.length by omega]
    have hG := HG.out; clear HG; rw [hdrop] at hG; unfold cW.g at hG; obtain ⟨v, A20, hG⟩ := Option.bind_eq_some_iff.mp hG; obtain ⟨u, A30, hG⟩ := Option.bind_eq_some_iff.mp hG; obtain ⟨a, A40, hG⟩ := Option.bind_eq_some_iff.mp hG
    by_cases hz : acc.size + a.size ≤ 140737488355328
    ·
     rw [if_pos hz] at hG; have H' := Aside0.mk hG; have A2 := Aside0.mk A20; have A3 := Aside0.mk A30; have A4 := Aside0.mk A40; have HZ := Aside0.mk hz; clear hG A20 A30 A40 hdrop hz; have p290 : 0 ≤ i := by omega
     obtain ⟨ad, b0, e290, hx, hq0⟩ := AU (Kd.fc HR0.out C.out.b) i p290 hi; subst e290; have QB := Aside0.mk hq0; have hi0 := Aside0.mk hi; replace p290 := eq_true p290; replace hi := eq_true hi; clear hk9 hq0
     go_wp2_with (first | (go_at_call 48; (with_reducible refine (fH.calls b0 _ v _ QB.out A2.out).mono ?_); rintro e w5 ⟨rfl, hb⟩; have n0_ := Aside0.mk (C.out.below hb); clear C hb hx; have C := n0_; clear n0_) | (go_at_call 160; (with_reducible refine (zB v last (w.heap.size + 1) w.heap.size T _ C.out.p C.out.q).mono ?_); rintro e w6 ⟨rfl, hw6⟩; have n0_ := Aside0.mk (C.out.set v); rw [← hw6] at n0_; clear C hw6; have C := n0_; clear n0_))
     go_wp2_with (first | (go_at_call 112; (with_reducible refine (jm.calls _ u _ A3.out).mono ?_); rintro e w7 ⟨rfl, hd⟩; have n0_ := Aside0.mk (C.out.below (j9 hd)); clear C hd; have C := n0_; clear n0_) | (go_at_call 32; (with_reducible refine (bL.calls k _ a _ A4.out).mono ?_); rintro e w8 ⟨rfl, hb⟩; have n0_ := Aside0.mk (C.out.below hb); clear C hb; have C := n0_; clear n0_))
     go_wp2_with (go_at_call 85; (with_reducible refine (Build.write w3.heap.size w3.heap.size acc a _ C.out.bl HZ.out C.out.s).mono ?_); rintro e w9 ⟨rfl, hbl, hb, hk⟩; have n0_ := Aside0.mk (C.out.write hbl hb); clear C hbl hb hk; have C := n0_; clear n0_)
     go_roundg k1
     case measure => have := HK.out; omega
     case rel => exact ⟨wrap64 (i + 1), v, acc ++ a, (by first | rfl | (simp; done) | (simp [*]; done)), ⟨by have := HK.out; have := hi0.out; have := LM.out; unfold wrap64; omega⟩, ⟨by rw [show (wrap64 (i + 1)).toNat = i.toNat + 1 by have := HK.out; have := LM.out; unfold wrap64; omega]; exact H'.out⟩, C⟩
    ·
     rw [if_neg hz] at hG; exact absurd hG (by simp)
   ·
    have fk : decide (i < (l0.length : Int)) = false := decide_eq_false hi; have hk9 := HK.out; have hG := HG.out; rw [List.drop_eq_nil_of_le (by omega)] at hG; unfold cW.g at hG; obtain rfl := Option.some.inj hG; clear hG HG hi hk9
    go_wp2_with (go_at_call 86; (with_reducible refine (Build.string w3.heap.size w3.heap.size acc _ C.out.bl C.out.s).mono ?_); rintro e w9 ⟨rfl, hb, hk⟩; have HB := Aside0.mk (C.out.b.trans (hb.mono (by have := C.out.h; omega))); clear hb hk)
    go_ret
    exact ⟨rfl, HB.out⟩
def bg.l0 : Nat → List Bool → List (Int) → List (Int) → Int → Int → Option (ByteArray)
 | 0, _, _, _, _, _ => none
 | k + 1, x3, x4, x10, x11, x12 => if x12 < x11 then (if 0 ≤ x12 then (if x12 < (x10.length : Int) then ((fH.f (jl x10 x12)).bind fun t114 => (if x12 < (x3.length : Int) then ((some (x3.set (x12 : Int).toNat (t114 != 0) : List Bool)).bind fun nG => (if fW false nG x12 = true then (if x4.length < 17592186044416 then (bg.l0 k nG (x4 ++ [jl x10 x12]) x10 x11 (wrap64 (x12 + 1))) else (none)) else (bg.l0 k nG x4 x10 x11 (wrap64 (x12 + 1))))) else (none))) else (none)) else (none)) else ((cS.f k x3).bind fun t120 => ((dm.f k t120).bind fun t121 => ((cW.f k x4).bind fun t122 => (if t121.size + t122.size ≤ 9223372036854775807 then (some (t121 ++ t122)) else (none)))))
def bg.f (k : Nat) (l0 : List (Int)) : Option (ByteArray) := if 0 ≤ (l0.length : Int) then (if l0.length ≤ 281474976710656 then (bg.l0 k (List.replicate l0.length false) ([] : List (Int)) l0 (l0.length : Int) 0) else (none)) else (none)
theorem bg.cF : ∀ k, (∀ y0 y1 y2 y3 y4, LeO (bg.l0 k y0 y1 y2 y3 y4) (bg.l0 (k + 1) y0 y1 y2 y3 y4))
 | 0 => fun _ _ _ _ _ r h => by simp [bg.l0] at h
 | k + 1 => by
  have ih0 := bg.cF k
  ·
   intro y0 y1 y2 y3 y4; unfold bg.l0
   repeat' first
   | (with_reducible exact ih0 _ _ _ _ _)
   | (with_reducible exact cS.mono _ _)
   | (with_reducible exact dm.mono _ _)
   | (with_reducible exact cW.mono _ _)
   | (with_reducible exact LeO.refl _)
   | (with_reducible exact LeO.none _)
   | (with_reducible refine LeO.ite ?_ ?_)
   | (with_reducible refine LeO.bind ?_ (fun _ => ?_))
theorem bg.mono : ∀ a0 k, LeO (bg.f k a0) (bg.f (k + 1) a0) := by
 intro a0 k; have ih0 := bg.cF k; unfold bg.f
 repeat' first
  | (with_reducible exact ih0 _ _ _ _ _)
  | (with_reducible exact cS.mono _ _)
  | (with_reducible exact dm.mono _ _)
  | (with_reducible exact cW.mono _ _)
  | (with_reducible exact LeO.refl _)
  | (with_reducible exact LeO.none _)
  | (with_reducible refine LeO.ite ?_ ?_)
  | (with_reducible refine LeO.bind ?_ (fun _ => ?_))
set_option maxHeartbeats 8000000 in
set_option maxRecDepth 100000 in
theorem bg.calls (k : Nat) (A0 : Option Addr) (c0 : Nat) (l0 : List (Int)) (r : ByteArray) (w : World) (hr0 : Kd.C Kd.flt w A0 l0.length l0) (hc0 : l0.length ≤ c0) (h : bg.f k l0 = some r) :
 Calls Tryz.prog 16 #[.slice A0 l0.length c0] w fun e w' => e = .returned (.string r) ∧ Below w.heap.size w w' := by
 have HR0 := Aside0.mk hr0; have HC0 := Aside0.mk hc0; clear hr0 hc0; have HB := Aside0.mk (Below.refl w.heap.size w); have H := h; unfold bg.f at H; clear h; obtain ⟨c2, H⟩ := ifz H; have jB := eq_true c2; have DL : decide (0 ≤ (l0.length : Int)) = true := decide_eq_true c2; clear c2; obtain ⟨c3, H⟩ := ifz H; have gD := eq_true c3; have kT : decide (l0.length ≤ 281474976710656) = true := decide_eq_true c3; clear c3; obtain ⟨P7, DM⟩ : ∃ y_ : List Bool, y_ = (List.replicate l0.length false) := ⟨_, rfl⟩; (try rw [← DM] at H); have Jk := Aside0.mk DM; clear DM; have H' := Aside0.mk H; clear H; go_enter Tryz.func16, Tryz.ntmps16
 go_wp2_with (first | ((with_reducible refine bG (N := 9) rfl ?_); refine Kd.FA Kd.bool _ 4 rfl (N := 9) rfl 74 _ _ rfl (l0.length : Int) rfl rfl Tryz.underlying74 (.bool false) 1 wh rfl (by decide) (by omega) false (ok := fun _ => True) (okp := fun _ => True) rfl (fun _ hk => hk) trivial (of_decide_eq_true az) (Nat.le_trans (Nat.mul_le_mul_right _ (of_decide_eq_true az : (l0.length : Int).toNat ≤ 281474976710656)) (by omega)) (Below.refl _ _) (Nat.le_refl _) ?_; intro v111 w4 ho5 hb hg_ hnew_; clear hg_ hnew_; (first | rw [← Jk.out] at ho5 | (simp only [Int.reduceToNat, Int.toNat_natCast] at ho5; rw [← Jk.out] at ho5)); have NV := am (Kd.cV ho5 (ai (hz HB.out))); replace HB := sb HB hb; clear hb ho5))
 go_loopg [4, 12] k (fun kq v4 v12 w' => ∃ (bA : List Bool) (gL : List (Int)) (cX : Int), v12 = .int .i64 cX ∧ Aside0 (bg.l0 kq bA gL l0 (l0.length : Int) cX = some r) ∧ Aside0 (kq ≤ k) ∧ Aside0 (Kd.R Kd.bool 4 w' w.heap.size (fun _ => True) v111 bA) ∧ Aside0 (Kd.R Kd.flt 49 w' w.heap.size (fun _ => True) v4 gL) ∧ Aside0 (Below w.heap.size w w'))
 case atStart => exact ⟨(P7), (([] : List (Int))), (0), sz, H', ⟨Nat.le_refl _⟩, ⟨rz NV.out⟩, ⟨nz⟩, ⟨hz HB.out⟩⟩
 case round =>
  clear H'
  try clear c1
  try clear c2
  try clear jB
  try clear DL
  try clear p2
  try clear c3
  try clear gD
  try clear kT
  obtain ⟨bA, gL, cX, rfl, HA, HK1, HO_3, HO_4, HB⟩ := hrel
  cases gk with
  | zero => exact absurd HA.out (by simp [bg.l0])
  | succ k1 =>
   have H := HA.out; clear HA; simp only [bg.l0] at H
   by_cases c6 : cX < (l0.length : Int)
   ·
    rw [if_pos c6] at H; have oC := decide_eq_true c6; clear c6; obtain ⟨c7, H⟩ := ifz H; have o6 : decide (0 ≤ cX) = true := decide_eq_true c7; clear c7; obtain ⟨c8, H⟩ := ifz H; have o7 : decide (cX < (l0.length : Int)) = true := decide_eq_true c8; clear c8; obtain ⟨t114, A9, H⟩ := bnz H; (try dsimp only at H); obtain ⟨c10, H⟩ := ifz H; have r9 : decide (cX < (bA.length : Int)) = true := decide_eq_true c10; clear c10; obtain ⟨nG, zJ, H⟩ := bsz H; (try dsimp only at H); obtain ⟨LH, hbq12⟩ : ∃ b_ : Bool, b_ = (fW false nG cX) := ⟨_, rfl⟩; replace H : (if LH = true then (if gL.length < 17592186044416 then (bg.l0 k1 nG (gL ++ [jl l0 cX]) l0 (l0.length : Int) (wrap64 (cX + 1))) else (none)) else (bg.l0 k1 nG gL l0 (l0.length : Int) (wrap64 (cX + 1)))) = some r := by rw [← hbq12] at H; exact H
    have Nbq12 := Aside0.mk hbq12; clear hbq12
    by_cases c13 : LH = true
    ·
     subst c13; rw [if_pos rfl] at H; obtain ⟨c14, H⟩ := ifz H; have DN := Aside0.mk c14; clear c14; obtain ⟨P8, DP⟩ : ∃ y_ : List (Int), y_ = (gL ++ [jl l0 cX]) := ⟨_, rfl⟩; (try rw [← DP] at H); have NW := Aside0.mk DP; clear DP; have H' := Aside0.mk H; clear H; have p113 : 0 ≤ (cX : Int) := of_decide_eq_true az; have q113 : cX < (l0.length : Int) := of_decide_eq_true az; obtain ⟨NX, uj, e113, qw, Ke⟩ := ug HR0.out cX p113 q113
     cases e113
     replace qw := cz HB.out qw; replace p113 := eq_true p113; replace q113 := eq_true q113
     go_wp2_with (first | ((with_reducible refine ak (f := 48) rfl ?_); refine aD (some 20) rfl rfl Tryz.func48 (by kernel_rfl) rfl #[.float .f64 uj] rfl mz ?_; (with_reducible refine (fH.calls _ (jl l0 cX) t114 _ ?side1 A9.out).mono ?_); (case side1 => exact fz); rintro e w15 ⟨rfl, hb⟩; refine ⟨_, rfl, ?_⟩; replace HO_3 := rb HO_3 hb; replace HO_4 := rb HO_4 hb; replace HB := sb HB hb; (try clear hb); (try clear hb2); (try clear hk); (try clear hi); have p11 : 0 ≤ (cX : Int) := of_decide_eq_true az; have q11 : (cX : Int) < ((bA.length : Int) : Int) := of_decide_eq_true az; obtain ⟨go11, tB, vp, AV, gl11, cl11, AW⟩ := Kd.vQ HO_3.out (by omega); (first | cases vp | (injection vp with ea_ en_ ec_; (first | subst ea_ | (injection ea_ with ea_; subst ea_)); subst ec_; clear en_)); have GB11 := Aside0.mk AV; have GG11 := Aside0.mk AW; clear AV gl11 AW; obtain ⟨LI, hf11_0⟩ := Kd.mM false HO_3.out (cX : Int) p11 q11; replace p11 := eq_true p11; replace q11 := eq_true q11; obtain ⟨hy16_, hz16_⟩ := Kd.mM false HO_3.out (cX : Int) (of_decide_eq_true az) (of_decide_eq_true az); have HP16 := Kd.FF HO_3.out (cX : Int) (t114 != 0)) | ((with_reducible refine oH (t := 4) (p := 22) rfl ?_); refine nN (t := 4) (p := 22) (v := ?vo_w17) (w1 := (w15.setCell ⟨go11, (cX : Int).toNat, none⟩ (.bool (t114 != 0)))) ?hg ?ho ?hn ?hr ?_; (case ho => rfl); (case hg => rfl); (case hn => rfl); (case hr => first | (go_simp; done) | (go_simp; rfl)); intro w17 hw; have hg : w15.grownBy w17 (some go11) := (by rw [hw]; exact HP16.2); have hp_ : Kd.R Kd.bool 4 w17 w.heap.size (fun _ => True) (.slice (some ⟨go11, 0, none⟩) bA.length tB) nG := (by rw [hw, zJ.out]; exact HP16.1); clear HP16; replace HO_4 := am (Kd.bF (v := (.slice (some ⟨go11, 0, none⟩) bA.length tB)) (rz HO_4.out) (Kd.bC HO_3.out) (by decide) hg); replace HO_3 := am (hp_); replace HB := am ((by rw [hw]; exact bM (HB.out) GB11.out : Below w.heap.size w w17)); clear hg hw hp_; have p116 : 0 ≤ (cX : Int) := of_decide_eq_true az; have q116 : cX < (nG.length : Int) := (by have h_ : (cX : Int) < ((bA.length : Int) : Int) := of_decide_eq_true az; first | (have e_ := (Kd.av HO_3.out).1; omega) | simpa only [zJ.out, List.length_set] using h_); have ql116 : ((cX : Int) < ((bA.length : Int) : Int)) = True := eq_true (of_decide_eq_true az); obtain ⟨DQ, e116, lg⟩ := Kd.nA (Kd.av HO_3.out).2.2 cX p116 q116; (try rw [← Nbq12.out] at lg); obtain rfl : (⟨go11, 0, none⟩ : Addr) = DQ := (by injection e116); (first | simp only [add_plain] at lg | simp only [FC] at lg | simp only [Addr.add, Nat.zero_add] at lg | skip); replace p116 := eq_true p116; replace q116 := eq_true q116) | ((with_reducible refine eB (b := .append) (xs := #[.tmp 27, .tmp 29]) rfl ?_); at_builtin; refine Kd.gQ Kd.flt (w0 := w) w.heap.size rfl (.tmp 27) (.tmp 29) 23 49 (.float .f64 0) 8 rfl Tryz.underlying23 AP rfl (by decide) (by omega) u4 gL (jl l0 cX) [.float .f64 uj] (fun _ => True) (fun _ => False) rfl rfl ?aP (fun _ hk => hk.elim) ?aF ?aO ?aB ?aS ?aL ?_; (case aP => exact ⟨_, rfl, fz⟩); (case aB => exact (hz HB.out)); (case aF => exact (fun _ _ => trivial)); (case aO => exact (rz HO_4.out)); (case aS => exact (ai (hz HB.out))); (case aL => have := DN.out; omega); intro v118 w18 ho hb hg hat; rw [← NW.out] at ho; replace HO_3 := am (Kd.bF (rz HO_3.out) (Kd.bC (rz HO_4.out)) (by decide) hg); replace HB := am (hb); have NY := am (ho); clear HO_4; clear ho hb hg hat))
     go_roundg k1
     case measure => have := HK1.out; omega
     case rel => exact ⟨(nG), (P8), (wrap64 (cX + 1)), sz, H', ⟨by have := HK1.out; omega⟩, ⟨rz HO_3.out⟩, ⟨rz NY.out⟩, ⟨hz HB.out⟩⟩
    ·
     replace c13 := Bool.eq_false_iff.mpr c13; subst c13; rw [if_neg (show ¬ (false = true) by decide)] at H; have H' := Aside0.mk H; clear H; have p113 : 0 ≤ (cX : Int) := of_decide_eq_true az; have q113 : cX < (l0.length : Int) := of_decide_eq_true az; obtain ⟨NX, uj, e113, qw, Ke⟩ := ug HR0.out cX p113 q113
     cases e113
     replace qw := cz HB.out qw; replace p113 := eq_true p113; replace q113 := eq_true q113
     go_wp2_with (first | ((with_reducible refine ak (f := 48) rfl ?_); refine aD (some 20) rfl rfl Tryz.func48 (by kernel_rfl) rfl #[.float .f64 uj] rfl mz ?_; (with_reducible refine (fH.calls _ (jl l0 cX) t114 _ ?side1 A9.out).mono ?_); (case side1 => exact fz); rintro e w19 ⟨rfl, hb⟩; refine ⟨_, rfl, ?_⟩; replace HO_3 := rb HO_3 hb; replace HO_4 := rb HO_4 hb; replace HB := sb HB hb; (try clear hb); (try clear hb2); (try clear hk); (try clear hi); have p11 : 0 ≤ (cX : Int) := of_decide_eq_true az; have q11 : (cX : Int) < ((bA.length : Int) : Int) := of_decide_eq_true az; obtain ⟨go11, tB, vp, AV, gl11, cl11, AW⟩ := Kd.vQ HO_3.out (by omega); (first | cases vp | (injection vp with ea_ en_ ec_; (first | subst ea_ | (injection ea_ with ea_; subst ea_)); subst ec_; clear en_)); have GB11 := Aside0.mk AV; have GG11 := Aside0.mk AW; clear AV gl11 AW; obtain ⟨LI, hf11_0⟩ := Kd.mM false HO_3.out (cX : Int) p11 q11; replace p11 := eq_true p11; replace q11 := eq_true q11; obtain ⟨hy20_, hz20_⟩ := Kd.mM false HO_3.out (cX : Int) (of_decide_eq_true az) (of_decide_eq_true az); have HP20 := Kd.FF HO_3.out (cX : Int) (t114 != 0)) | ((with_reducible refine oH (t := 4) (p := 22) rfl ?_); refine nN (t := 4) (p := 22) (v := ?vo_w21) (w1 := (w19.setCell ⟨go11, (cX : Int).toNat, none⟩ (.bool (t114 != 0)))) ?hg ?ho ?hn ?hr ?_; (case ho => rfl); (case hg => rfl); (case hn => rfl); (case hr => first | (go_simp; done) | (go_simp; rfl)); intro w21 hw; have hg : w19.grownBy w21 (some go11) := (by rw [hw]; exact HP20.2); have hp_ : Kd.R Kd.bool 4 w21 w.heap.size (fun _ => True) (.slice (some ⟨go11, 0, none⟩) bA.length tB) nG := (by rw [hw, zJ.out]; exact HP20.1); clear HP20; replace HO_4 := am (Kd.bF (v := (.slice (some ⟨go11, 0, none⟩) bA.length tB)) (rz HO_4.out) (Kd.bC HO_3.out) (by decide) hg); replace HO_3 := am (hp_); replace HB := am ((by rw [hw]; exact bM (HB.out) GB11.out : Below w.heap.size w w21)); clear hg hw hp_; have p116 : 0 ≤ (cX : Int) := of_decide_eq_true az; have q116 : cX < (nG.length : Int) := (by have h_ : (cX : Int) < ((bA.length : Int) : Int) := of_decide_eq_true az; first | (have e_ := (Kd.av HO_3.out).1; omega) | simpa only [zJ.out, List.length_set] using h_); have ql116 : ((cX : Int) < ((bA.length : Int) : Int)) = True := eq_true (of_decide_eq_true az); obtain ⟨DQ, e116, lg⟩ := Kd.nA (Kd.av HO_3.out).2.2 cX p116 q116; (try rw [← Nbq12.out] at lg); obtain rfl : (⟨go11, 0, none⟩ : Addr) = DQ := (by injection e116); (first | simp only [add_plain] at lg | simp only [FC] at lg | simp only [Addr.add, Nat.zero_add] at lg | skip); replace p116 := eq_true p116; replace q116 := eq_true q116))
     go_roundg k1
     case measure => have := HK1.out; omega
     case rel => exact ⟨(nG), (gL), (wrap64 (cX + 1)), sz, H', ⟨by have := HK1.out; omega⟩, ⟨rz HO_3.out⟩, ⟨rz HO_4.out⟩, ⟨hz HB.out⟩⟩
   ·
    rw [if_neg c6] at H; have oC := decide_eq_false c6; clear c6; obtain ⟨t120, A22, H⟩ := bnz H; (try dsimp only at H); obtain ⟨t121, A23, H⟩ := bnz H; (try dsimp only at H); obtain ⟨t122, A24, H⟩ := bnz H; (try dsimp only at H); obtain ⟨c25, H⟩ := ifz H; have uk := eq_true c25; have DR : decide (t121.size + t122.size ≤ 9223372036854775807) = true := decide_eq_true c25
    try have NZ : (9223372036854775807 < t121.size + t122.size) = False := eq_false (Nat.not_lt.2 c25)
    try (have Oa := NZ; simp only [ByteArray.size_append] at Oa)
    clear c25; obtain rfl := Option.some.inj H; obtain ⟨GX, GY, GZ⟩ := Kd.bu HO_3.out; subst GZ
    go_wp2_with (first | ((with_reducible refine ak (f := 49) rfl ?_); refine aD (some 33) rfl rfl Tryz.func49 (by kernel_rfl) rfl #[.slice GX bA.length GY] rfl mz ?_; (with_reducible refine (cS.calls k1 _ _ bA t120 _ ?side1 ?side2 A22.out).mono ?_); (case side1 => repeat (first | exact (Kd.av HO_3.out).2.2 | (with_reducible refine Kd.bO ?_ _) | (with_reducible refine Kd.bQ ?_ _) | (with_reducible refine Kd.bZ ?_))); (case side2 => exact (Kd.av HO_3.out).2.1); rintro e w27 ⟨rfl, hb⟩; refine ⟨_, rfl, ?_⟩; replace HO_3 := rb HO_3 hb; replace HO_4 := rb HO_4 hb; replace HB := sb HB hb; (try clear hb); (try clear hb2); (try clear hk); (try clear hi)) | ((with_reducible refine ak (f := 18) rfl ?_); refine aD (some 34) rfl rfl Tryz.func18 (by kernel_rfl) rfl #[.string t120] rfl mz ?_; (with_reducible refine (dm.calls k1 t120 t121 _ A23.out).mono ?_); rintro e w28 ⟨rfl, hb⟩; refine ⟨_, rfl, ?_⟩; replace HO_3 := rb HO_3 hb; replace HO_4 := rb HO_4 hb; replace HB := sb HB hb; (try clear hb); (try clear hb2); (try clear hk); (try clear hi); obtain ⟨AX, AY, G0⟩ := Kd.bu HO_4.out; subst G0) | ((with_reducible refine ak (f := 50) rfl ?_); refine aD (some 36) rfl rfl Tryz.func50 (by kernel_rfl) rfl #[.slice AX gL.length AY] rfl mz ?_; (with_reducible refine (cW.calls k1 _ _ gL t122 _ ?side1 ?side2 A24.out).mono ?_); (case side1 => repeat (first | exact (Kd.av HO_4.out).2.2 | (with_reducible refine Kd.bO ?_ _) | (with_reducible refine Kd.bQ ?_ _) | (with_reducible refine Kd.bZ ?_))); (case side2 => exact (Kd.av HO_4.out).2.1); rintro e w30 ⟨rfl, hb⟩; refine ⟨_, rfl, ?_⟩; replace HO_3 := rb HO_3 hb; replace HO_4 := rb HO_4 hb; replace HB := sb HB hb; (try clear hb); (try clear hb2); (try clear hk); (try clear hi)))
    go_ret
    exact ⟨ez, hz HB.out⟩
def um (a0 a1 b0 b1 : Int) : Bool := decide (a0 < b0) || (decide (a0 = b0) && decide (a1 < b1))
def kI.f (a0_0 : Int) (a0_1 : Int) (a1_0 : Int) (a1_1 : Int) : Option Bool := some (um a0_0 a0_1 a1_0 a1_1)
def jg (x y : Int) : Int := if x < y then -1 else if x > y then 1 else 0
set_option maxHeartbeats 8000000 in
set_option maxRecDepth 100000 in
theorem xM (x : Int) (w : World) : Calls Tryz.prog 174 #[.int .i64 x] w fun e w' => e = .returned (.bool false) ∧ w' = w := by
 have h : (x != x) = false := by simp
 go_enter Tryz.func174, Tryz.ntmps174
 go_wp2
 go_ret
 exact ⟨by first | rfl | simp, rfl⟩
set_option maxHeartbeats 8000000 in
set_option maxRecDepth 100000 in
theorem CY (x y : Int) (w : World) : Calls Tryz.prog 151 #[.int .i64 x, .int .i64 y] w fun e w' => e = .returned (.int .i64 (jg x y)) ∧ w' = w := by
 unfold jg
 by_cases h1 : x < y
 ·
  have c1 : decide (x < y) = true := decide_eq_true h1; rw [if_pos h1]; go_enter Tryz.func151, Tryz.ntmps151
  go_wp2_with (first | (go_at_call 174; (with_reducible refine (xM _ _).mono ?_); rintro e' w1 ⟨rfl, rfl⟩))
  go_ret
  exact ⟨rfl, rfl⟩
 ·
  have c1 : decide (x < y) = false := decide_eq_false h1; rw [if_neg h1]
  by_cases h2 : x > y
  ·
   have c2 : decide (x > y) = true := decide_eq_true h2; rw [if_pos h2]; go_enter Tryz.func151, Tryz.ntmps151
   go_wp2_with (first | (go_at_call 174; (with_reducible refine (xM _ _).mono ?_); rintro e' w1 ⟨rfl, rfl⟩))
   go_ret
   exact ⟨rfl, rfl⟩
  ·
   have c2 : decide (x > y) = false := decide_eq_false h2; rw [if_neg h2]; go_enter Tryz.func151, Tryz.ntmps151
   go_wp2_with (first | (go_at_call 174; (with_reducible refine (xM _ _).mono ?_); rintro e' w1 ⟨rfl, rfl⟩))
   go_ret
   exact ⟨rfl, rfl⟩
section
variable (a b c d : Int) (ga gb gs : Nat) (w : World)
set_option maxHeartbeats 8000000 in
set_option maxRecDepth 100000 in
theorem AZ (ha : w.heap[ga]? = some (.cells #[.int .i64 a, .int .i64 b] 48 (0, 0))) (hb : w.heap[gb]? = some (.cells #[.int .i64 c, .int .i64 d] 48 (0, 0))) :
    Calls Tryz.prog 150 #[.pointer (some ⟨ga, 0, none⟩), .pointer (some ⟨gb, 0, none⟩)] w fun e w' => e = .returned (.int .i64 (jg a c)) ∧ w' = w := by
 have h1 : w.cell? ⟨ga, 0, none⟩ = some (.int .i64 a) := (af ha 0).trans rfl; have h2 : w.cell? ⟨gb, 0, none⟩ = some (.int .i64 c) := (af hb 0).trans rfl; have hu := Tryz.underlying48; clear ha hb; go_enter Tryz.func150, Tryz.ntmps150
 go_wp2_with (first | (go_at_call 151; (with_reducible refine (CY _ _ _).mono ?_); rintro e' w1 ⟨rfl, rfl⟩))
 go_ret
 exact ⟨rfl, rfl⟩
set_option maxHeartbeats 8000000 in
set_option maxRecDepth 100000 in
theorem Ba (ha : w.heap[ga]? = some (.cells #[.int .i64 a, .int .i64 b] 48 (0, 0))) (hb : w.heap[gb]? = some (.cells #[.int .i64 c, .int .i64 d] 48 (0, 0))) :
    Calls Tryz.prog 152 #[.pointer (some ⟨ga, 0, none⟩), .pointer (some ⟨gb, 0, none⟩)] w fun e w' => e = .returned (.int .i64 (jg b d)) ∧ w' = w := by
 have h1 : w.cell? ⟨ga, 1, none⟩ = some (.int .i64 b) := (af ha 1).trans rfl; have h2 : w.cell? ⟨gb, 1, none⟩ = some (.int .i64 d) := (af hb 1).trans rfl; have hu := Tryz.underlying48; clear ha hb; go_enter Tryz.func152, Tryz.ntmps152
 go_wp2_with (first | (go_at_call 151; (with_reducible refine (CY _ _ _).mono ?_); rintro e' w1 ⟨rfl, rfl⟩))
 go_ret
 exact ⟨rfl, rfl⟩
set_option maxHeartbeats 8000000 in
set_option maxRecDepth 100000 in
theorem Bb (ha : w.heap[ga]? = some (.cells #[.int .i64 a, .int .i64 b] 48 (0, 0))) (hb : w.heap[gb]? = some (.cells #[.int .i64 c, .int .i64 d] 48 (0, 0))) {ft : Nat}
    (hs : w.heap[gs]? = some (.cells #[.func (.func 150) #[] #[.pointer (some ⟨ga, 0, none⟩), .pointer (some ⟨gb, 0, none⟩)], .func (.func 152) #[] #[.pointer (some ⟨ga, 0, none⟩), .pointer (some ⟨gb, 0, none⟩)]] ft (0, 0))) :
    Calls Tryz.prog 149 #[.slice (some ⟨gs, 0, none⟩) 2 2] w fun e w' => e = .returned (.int .i64 (if jg a c ≠ 0 then jg a c else jg b d)) ∧ w' = w := by
 have h1 : w.cell? ⟨gs, 0, none⟩ = some (.func (.func 150) #[] #[.pointer (some ⟨ga, 0, none⟩), .pointer (some ⟨gb, 0, none⟩)]) := (af hs 0).trans rfl; have h2 : w.cell? ⟨gs, 1, none⟩ = some (.func (.func 152) #[] #[.pointer (some ⟨ga, 0, none⟩), .pointer (some ⟨gb, 0, none⟩)]) := (af hs 1).trans rfl; have HA := Aside0.mk ha; have HB := Aside0.mk hb; clear ha hb hs; obtain ⟨R, hR⟩ : ∃ R, R = (if jg a c ≠ 0 then jg a c else jg b d) := ⟨_, rfl⟩; rw [← hR]; have HR := Aside0.mk hR; clear hR; go_enter Tryz.func149, Tryz.ntmps149
 go_wp2
 go_loopg [8] 3 (fun kq v8 w' => ∃ (i : Int), v8 = .int .i64 i ∧ Aside0 (0 ≤ i ∧ i ≤ 2 ∧ 2 - i < kq ∧ (1 ≤ i → jg a c = 0) ∧ (2 ≤ i → jg b d = 0)) ∧ Aside0 (w' = w))
 case atStart => exact ⟨0, by first | rfl | simp, ⟨by omega⟩, ⟨rfl⟩⟩
 case round =>
  obtain ⟨i, rfl, HK, HW⟩ := hrel; have e1 := HW.out; subst e1; have h3 : i = 0 ∨ i = 1 ∨ i = 2 := by have := HK.out; omega
  rcases h3 with rfl | rfl | rfl
  ·
   by_cases hc : jg a c = 0
   ·
    have c1 : (jg a c != 0) = false := by simp [hc]
    cases gk with
    | zero => have := HK.out; exact absurd this (by omega)
    | succ k1 =>
     have HC := Aside0.mk hc; clear hc
     go_wp2_with (first | (go_at_call 150; (with_reducible refine (AZ a b c d ga gb _ HA.out HB.out).mono ?_); rintro e' w1 ⟨rfl, rfl⟩))
     go_roundg k1
     case measure => have := HK.out; omega
     case rel => exact ⟨1, by first | rfl | simp [goInt], ⟨by have := HK.out; have := HC.out; omega⟩, ⟨rfl⟩⟩
   ·
    have c1 : (jg a c != 0) = true := by simp [hc]
    have HC := Aside0.mk hc; clear hc
    go_wp2_with (first | (go_at_call 150; (with_reducible refine (AZ a b c d ga gb _ HA.out HB.out).mono ?_); rintro e' w1 ⟨rfl, rfl⟩))
    go_ret
    have hR := HR.out; rw [if_pos HC.out] at hR; exact ⟨by rw [hR]; rfl, rfl⟩
  ·
   by_cases hc : jg b d = 0
   ·
    have c1 : (jg b d != 0) = false := by simp [hc]
    cases gk with
    | zero => have := HK.out; exact absurd this (by omega)
    | succ k1 =>
     have HC := Aside0.mk hc; clear hc
     go_wp2_with (first | (go_at_call 152; (with_reducible refine (Ba a b c d ga gb _ HA.out HB.out).mono ?_); rintro e' w1 ⟨rfl, rfl⟩))
     go_roundg k1
     case measure => have := HK.out; omega
     case rel => exact ⟨2, by first | rfl | simp [goInt], ⟨by have := HK.out; have := HC.out; omega⟩, ⟨rfl⟩⟩
   ·
    have c1 : (jg b d != 0) = true := by simp [hc]
    have HC := Aside0.mk hc; clear hc
    go_wp2_with (first | (go_at_call 152; (with_reducible refine (Ba a b c d ga gb _ HA.out HB.out).mono ?_); rintro e' w1 ⟨rfl, rfl⟩))
    go_ret
    have hR := HR.out; rw [if_neg (by have := HK.out; omega)] at hR; exact ⟨by rw [hR]; rfl, rfl⟩
  ·
   go_wp2
   go_ret
   have hR := HR.out; have hk := HK.out; have e1 := hk.2.2.2.1 (by omega); have e2 := hk.2.2.2.2 (by omega); rw [if_neg (by omega), e2] at hR; exact ⟨by rw [hR]; rfl, rfl⟩
theorem zC (ha : w.heap[ga]? = some (.cells #[.int .i64 a, .int .i64 b] 48 (0, 0))) (hb : w.heap[gb]? = some (.cells #[.int .i64 c, .int .i64 d] 48 (0, 0))) {ft : Nat}
    (hs : w.heap[gs]? = some (.cells #[.func (.func 150) #[] #[.pointer (some ⟨ga, 0, none⟩), .pointer (some ⟨gb, 0, none⟩)], .func (.func 152) #[] #[.pointer (some ⟨ga, 0, none⟩), .pointer (some ⟨gb, 0, none⟩)]] ft (0, 0))) :
    Calls Tryz.prog 149 #[.slice (some ⟨gs, 0, none⟩) 2 2] w fun e w' => ∃ R : Int, Aside0 (R = if jg a c ≠ 0 then jg a c else jg b d) ∧ e = .returned (.int .i64 R) ∧ w' = w :=
  (Bb a b c d ga gb gs w ha hb hs).mono fun e w' h => ⟨_, ⟨rfl⟩, h⟩
end
theorem DS (a b c d : Int) : decide ((if jg a c ≠ 0 then jg a c else jg b d) < 0) = um a b c d := by
 unfold jg um
 rcases Int.lt_trichotomy a c with h | h | h
 · simp [h]
 ·
  subst h
  rcases Int.lt_trichotomy b d with h | h | h
  · simp [h]
  · subst h; simp
  ·
   have h2 : ¬ b < d := by omega
   simp [h, h2]
 ·
  have h2 : ¬ a < c := by omega
  have h3 : ¬ a = c := by omega
  simp [h, h2, h3]
theorem Kf (w : World) (A B C : Obj) : (((w.alloc A).alloc B).alloc C).heap[w.heap.size]? = some A := bx (bx (eJ w A) B) C
theorem Kg (w : World) (A B C : Obj) : (((w.alloc A).alloc B).alloc C).heap[w.heap.size + 1]? = some B := by
 have := bx (eJ (w.alloc A) B) C
 simpa using this
theorem Kh (w : World) (A B C : Obj) : (((w.alloc A).alloc B).alloc C).heap[w.heap.size + 1 + 1]? = some C := by
 have := eJ ((w.alloc A).alloc B) C
 simpa using this
set_option maxHeartbeats 8000000 in
set_option maxRecDepth 100000 in
theorem kI.calls (a0_0 : Int) (a0_1 : Int) (a1_0 : Int) (a1_1 : Int) (r : Bool) (w : World) (h : kI.f a0_0 a0_1 a1_0 a1_1 = some r) :
    Calls Tryz.prog 89 #[.agg #[.int .i64 a0_0, .int .i64 a0_1], .agg #[.int .i64 a1_0, .int .i64 a1_1]] w fun e w' => e = .returned (.bool r) ∧ Below w.heap.size w w' := by
 obtain rfl := Option.some.inj h; clear h; have hmf : ∀ (fn : Fn) (first cap : Array Value) (w : World), (Instr.makeFunc fn first cap).run Tryz.prog w = .ok (.func fn first cap) w := fun _ _ _ _ => rfl
 have hu := Tryz.underlying48; have HB := Aside0.mk (Below.refl w.heap.size w); go_enter Tryz.func89, Tryz.ntmps89
 go_wp2_with (first | (go_at_call 149; refine (zC a0_0 a0_1 a1_0 a1_1 _ _ _ _ (Kf _ _ _ _) (Kg _ _ _ _) (Kh _ _ _ _)).mono ?_; rintro e' w1 ⟨R, hR, rfl, rfl⟩))
 go_ret
 refine ⟨?_, ((HB.out.alloc (Nat.le_refl _) _).alloc (by simp) _).alloc (by simp; omega) _⟩; have h := DS a0_0 a0_1 a1_0 a1_1; rw [← hR.out] at h; rw [← h]
 rfl
end Go.Proofs.YtfgnjndfnijjoaaGreat.Print
end
section
namespace Go.Proofs.YtfgnjndfnijjoaaGreat.Print
open Go.RowKit Go.Proofs.YtfgnjndfnijjoaaGreatW.PrintWords Go.Proofs.YtfgnjndfnijjoaaGreatW.PrintLast Go.Proofs.YtfgnjndfnijjoaaGreatW.PrintMore
attribute [local go_sem] dJ dK eF eG cZ dc dL dM
attribute [local go_sem] bH
set_option linter.unusedVariables false
set_option linter.unusedSimpArgs false
def j7.f (a0 : Int) : Option (Int × Int × Int × Bool) := if a0 < 128 then (some (0, 128, 191, true)) else (if a0 < 194 then (some (0, 128, 191, false)) else (if a0 < 224 then (some (1, 128, 191, true)) else (if a0 < 240 then (if a0 = 224 then (some (2, 160, 191, true)) else (if a0 = 237 then (some (2, 128, 159, true)) else (some (2, 128, 191, true)))) else (if a0 < 245 then (if a0 = 240 then (some (3, 144, 191, true)) else (if a0 = 244 then (some (3, 128, 143, true)) else (some (3, 128, 191, true)))) else (some (0, 128, 191, false))))))
set_option maxHeartbeats 8000000 in
set_option maxRecDepth 100000 in
theorem j7.calls (a0 : Int) (r1 : Int) (r2 : Int) (r3 : Int) (r4 : Bool) (w : World) (h : j7.f a0 = some (r1, r2, r3, r4)) :
 Calls Tryz.prog 183 #[.int .u8 a0] w fun e w' => e = .returned (.tuple #[.int .i64 r1, .int .u8 r2, .int .u8 r3, .bool r4]) ∧ bP w w' := by
 have H := h; unfold j7.f at H; clear h
 by_cases c2 : a0 < 128
 ·
  rw [if_pos c2] at H; have jB := decide_eq_true c2; clear c2; simp only [Option.some.injEq, Prod.mk.injEq] at H; obtain ⟨rfl, rfl, rfl, rfl⟩ := H; go_enter Tryz.func183, Tryz.ntmps183
  go_wp2
  refine bodyPost_ret (ic (rs := [.tmp 2, .tmp 3, .tmp 4, .tmp 5]) rfl (by simp) (.tmp (.tmp (.tmp (.tmp .nil))))) rfl ?_; exact ⟨by first | rfl | (simp; done) | (simp [*]; done), by repeat (first | exact bP.refl _ | apply bP.step)⟩
 ·
  rw [if_neg c2] at H; have jB := decide_eq_false c2; clear c2
  by_cases c3 : a0 < 194
  ·
   rw [if_pos c3] at H; have gD := decide_eq_true c3; clear c3; simp only [Option.some.injEq, Prod.mk.injEq] at H; obtain ⟨rfl, rfl, rfl, rfl⟩ := H; go_enter Tryz.func183, Tryz.ntmps183
   go_wp2
   refine bodyPost_ret (ic (rs := [.tmp 2, .tmp 3, .tmp 4, .tmp 5]) rfl (by simp) (.tmp (.tmp (.tmp (.tmp .nil))))) rfl ?_; exact ⟨by first | rfl | (simp; done) | (simp [*]; done), by repeat (first | exact bP.refl _ | apply bP.step)⟩
  ·
   rw [if_neg c3] at H; have gD := decide_eq_false c3; clear c3
   by_cases c4 : a0 < 224
   ·
    rw [if_pos c4] at H; have iC := decide_eq_true c4; clear c4; simp only [Option.some.injEq, Prod.mk.injEq] at H; obtain ⟨rfl, rfl, rfl, rfl⟩ := H; go_enter Tryz.func183, Tryz.ntmps183
    go_wp2
    refine bodyPost_ret (ic (rs := [.tmp 2, .tmp 3, .tmp 4, .tmp 5]) rfl (by simp) (.tmp (.tmp (.tmp (.tmp .nil))))) rfl ?_; exact ⟨by first | rfl | (simp; done) | (simp [*]; done), by repeat (first | exact bP.refl _ | apply bP.step)⟩
   ·
    rw [if_neg c4] at H; have iC := decide_eq_false c4; clear c4
    by_cases c5 : a0 < 240
    ·
     rw [if_pos c5] at H; have fk := decide_eq_true c5; clear c5
     by_cases c6 : a0 = 224
     ·
      rw [if_pos c6] at H; have oC : (a0 == 224) = true := beq_iff_eq.mpr c6; have xJ : (a0 != 224) = false := bne_eq_false_iff_eq.mpr c6; clear c6; simp only [Option.some.injEq, Prod.mk.injEq] at H; obtain ⟨rfl, rfl, rfl, rfl⟩ := H; go_enter Tryz.func183, Tryz.ntmps183
      go_wp2
      refine bodyPost_ret (ic (rs := [.tmp 2, .tmp 3, .tmp 4, .tmp 5]) rfl (by simp) (.tmp (.tmp (.tmp (.tmp .nil))))) rfl ?_; exact ⟨by first | rfl | (simp; done) | (simp [*]; done), by repeat (first | exact bP.refl _ | apply bP.step)⟩
     ·
      rw [if_neg c6] at H; have oC : (a0 == 224) = false := beq_eq_false_iff_ne.mpr c6; have xJ : (a0 != 224) = true := bne_iff_ne.mpr c6
      by_cases c7 : a0 = 237
      ·
       rw [if_pos c7] at H; have o6 : (a0 == 237) = true := beq_iff_eq.mpr c7; have DT : (a0 != 237) = false := bne_eq_false_iff_eq.mpr c7; clear c7; simp only [Option.some.injEq, Prod.mk.injEq] at H; obtain ⟨rfl, rfl, rfl, rfl⟩ := H; go_enter Tryz.func183, Tryz.ntmps183
       go_wp2
       refine bodyPost_ret (ic (rs := [.tmp 2, .tmp 3, .tmp 4, .tmp 5]) rfl (by simp) (.tmp (.tmp (.tmp (.tmp .nil))))) rfl ?_; exact ⟨by first | rfl | (simp; done) | (simp [*]; done), by repeat (first | exact bP.refl _ | apply bP.step)⟩
      ·
       rw [if_neg c7] at H; have o6 : (a0 == 237) = false := beq_eq_false_iff_ne.mpr c7; have DT : (a0 != 237) = true := bne_iff_ne.mpr c7; simp only [Option.some.injEq, Prod.mk.injEq] at H; obtain ⟨rfl, rfl, rfl, rfl⟩ := H; go_enter Tryz.func183, Tryz.ntmps183
       go_wp2
       refine bodyPost_ret (ic (rs := [.tmp 2, .tmp 3, .tmp 4, .tmp 5]) rfl (by simp) (.tmp (.tmp (.tmp (.tmp .nil))))) rfl ?_; exact ⟨by first | rfl | (simp; done) | (simp [*]; done), by repeat (first | exact bP.refl _ | apply bP.step)⟩
    ·
     rw [if_neg c5] at H; have fk := decide_eq_false c5; clear c5
     by_cases c8 : a0 < 245
     ·
      rw [if_pos c8] at H; have o7 := decide_eq_true c8; clear c8
      by_cases c9 : a0 = 240
      ·
       rw [if_pos c9] at H; have tC : (a0 == 240) = true := beq_iff_eq.mpr c9; have xN : (a0 != 240) = false := bne_eq_false_iff_eq.mpr c9; clear c9; simp only [Option.some.injEq, Prod.mk.injEq] at H; obtain ⟨rfl, rfl, rfl, rfl⟩ := H; go_enter Tryz.func183, Tryz.ntmps183
       go_wp2
       refine bodyPost_ret (ic (rs := [.tmp 2, .tmp 3, .tmp 4, .tmp 5]) rfl (by simp) (.tmp (.tmp (.tmp (.tmp .nil))))) rfl ?_; exact ⟨by first | rfl | (simp; done) | (simp [*]; done), by repeat (first | exact bP.refl _ | apply bP.step)⟩
      ·
       rw [if_neg c9] at H; have tC : (a0 == 240) = false := beq_eq_false_iff_ne.mpr c9; have xN : (a0 != 240) = true := bne_iff_ne.mpr c9
       by_cases c10 : a0 = 244
       ·
        rw [if_pos c10] at H; have r9 : (a0 == 244) = true := beq_iff_eq.mpr c10; have Ob : (a0 != 244) = false := bne_eq_false_iff_eq.mpr c10; clear c10; simp only [Option.some.injEq, Prod.mk.injEq] at H; obtain ⟨rfl, rfl, rfl, rfl⟩ := H; go_enter Tryz.func183, Tryz.ntmps183
        go_wp2
        refine bodyPost_ret (ic (rs := [.tmp 2, .tmp 3, .tmp 4, .tmp 5]) rfl (by simp) (.tmp (.tmp (.tmp (.tmp .nil))))) rfl ?_; exact ⟨by first | rfl | (simp; done) | (simp [*]; done), by repeat (first | exact bP.refl _ | apply bP.step)⟩
       ·
        rw [if_neg c10] at H; have r9 : (a0 == 244) = false := beq_eq_false_iff_ne.mpr c10; have Ob : (a0 != 244) = true := bne_iff_ne.mpr c10; simp only [Option.some.injEq, Prod.mk.injEq] at H; obtain ⟨rfl, rfl, rfl, rfl⟩ := H; go_enter Tryz.func183, Tryz.ntmps183
        go_wp2
        refine bodyPost_ret (ic (rs := [.tmp 2, .tmp 3, .tmp 4, .tmp 5]) rfl (by simp) (.tmp (.tmp (.tmp (.tmp .nil))))) rfl ?_; exact ⟨by first | rfl | (simp; done) | (simp [*]; done), by repeat (first | exact bP.refl _ | apply bP.step)⟩
     ·
      rw [if_neg c8] at H; have o7 := decide_eq_false c8; clear c8; simp only [Option.some.injEq, Prod.mk.injEq] at H; obtain ⟨rfl, rfl, rfl, rfl⟩ := H; go_enter Tryz.func183, Tryz.ntmps183
      go_wp2
      refine bodyPost_ret (ic (rs := [.tmp 2, .tmp 3, .tmp 4, .tmp 5]) rfl (by simp) (.tmp (.tmp (.tmp (.tmp .nil))))) rfl ?_; exact ⟨by first | rfl | (simp; done) | (simp [*]; done), by repeat (first | exact bP.refl _ | apply bP.step)⟩
def sgR (s : ByteArray) : Nat → Int → Int → Int → Bool
  | 0, _, _, _ => true
  | m + 1, i, lo, hi => if bt s i < lo then false else if bt s i > hi then false else sgR s m (i + 1) 128 191
def sgH (c : Int) : Int × Int × Int × Bool := if c < 128 then (0, 128, 191, true) else (if c < 194 then (0, 128, 191, false) else (if c < 224 then (1, 128, 191, true) else (if c < 240 then (if c = 224 then (2, 160, 191, true) else (if c = 237 then (2, 128, 159, true) else (2, 128, 191, true))) else (if c < 245 then (if c = 240 then (3, 144, 191, true) else (if c = 244 then (3, 128, 143, true) else (3, 128, 191, true))) else (0, 128, 191, false)))))
theorem Oc (c : Int) : j7.f c = some (sgH c) := by
 unfold j7.f sgH
 repeat' split
 all_goals rfl
theorem Bc (c : Int) : 0 ≤ (sgH c).1 ∧ (sgH c).1 ≤ 3 := by
 unfold sgH
 repeat' split
 all_goals simp
def og (s : ByteArray) (i : Int) : Option Int :=
  if (sgH (bt s i)).2.2.2 = false then none else if (s.size : Int) - i ≤ (sgH (bt s i)).1 then none
  else if sgR s (sgH (bt s i)).1.toNat (i + 1) (sgH (bt s i)).2.1 (sgH (bt s i)).2.2.1 = true then some (1 + (sgH (bt s i)).1) else none
theorem DU (s : ByteArray) (a b j : Nat) (hb : b ≤ s.size) (hj : a + j < b) : (((s.extract a b).data.toList.getD j 0).toNat : Int) = bt s ((a + j : Nat) : Int) := by
 unfold bt; rw [dif_pos (by rw [Int.toNat_natCast]; omega)]; have h1 : j < (s.extract a b).data.toList.length := by rw [Cv, ByteArray.size_extract]; omega
 rw [List.getD_eq_getElem?_getD, List.getElem?_eq_getElem h1]
 simp [ByteArray.data_extract, Array.getElem_extract]
 rfl
def sgL (s : ByteArray) : Nat → Int → Int → Int × Int
  | 0, n, i => (n, i)
  | k + 1, n, i => if i < s.size then match og s i with | some m => sgL s k (n + 1) (i + m) | none => (n, i) else (n, i)
def kf.f (a0 : ByteArray) : Option (Int × Int) := if a0.size ≤ 9223372036854775000 then some (sgL a0 (a0.size + 1) 0 0) else none
set_option maxHeartbeats 400000 in
set_option maxRecDepth 100000 in
theorem kf.calls (a0 : ByteArray) (r1 r2 : Int) (w : World) (h : kf.f a0 = some (r1, r2)) :
    Calls Tryz.prog 177 #[.string a0] w fun e w' => e = .returned (.tuple #[.int .i64 r1, .int .i64 r2]) ∧ Below w.heap.size w w' := by
 obtain ⟨hsz, h⟩ : a0.size ≤ 9223372036854775000 ∧ sgL a0 (a0.size + 1) 0 0 = (r1, r2) := by
  unfold kf.f at h
  split at h
  · exact ⟨‹_›, Option.some.inj h⟩
  · cases h
 have HR := Aside0.mk h; clear h; have kb := fun s (W : World) => Cw (P := Tryz.prog) 9 102 5 Tryz.underlying9 Tryz.underlying102 Tryz.underlying5 s W
 go_enter Tryz.func177, Tryz.ntmps177
 go_wp2
 go_step3
 go_wp2
 go_step3
 go_wp2
 go_loopg [4, 5] (a0.size + 1) (fun gk v4 v5 w' => ∃ n i : Int, v4 = .int .i64 n ∧ v5 = .int .i64 i ∧ 0 ≤ n ∧ n ≤ i ∧ i ≤ a0.size ∧ a0.size - i < gk ∧ Aside0 (sgL a0 gk n i = (r1, r2)) ∧ Aside0 (Below w.heap.size w w'))
 case atStart => exact ⟨0, 0, rfl, rfl, by omega, by omega, by omega, by omega, HR, ⟨Below.refl _ _⟩⟩
 case round =>
  clear HR; obtain ⟨n, i, rfl, rfl, hn, hni, hi, hk, HA, HB⟩ := hrel
  cases gk with
  | zero => omega
  | succ k1 =>
  by_cases hlt : i < a0.size
  ·
   have hlt' : decide (i < (a0.size : Int)) = true := decide_eq_true hlt; have p7 := eq_true (show 0 ≤ i by omega); have q7 := eq_true hlt; have hx := Je a0 i; obtain ⟨⟨rest, lo, hi_, is⟩, hh⟩ : ∃ p, sgH (bt a0 i) = p := ⟨_, rfl⟩; have hrest := Bc (bt a0 i); rw [hh] at hrest; have hhf := Oc (bt a0 i); rw [hh] at hhf; have HF := Aside0.mk hhf; have HH := Aside0.mk hh; clear hhf hh; simp only at hrest
   cases is with
   | false =>
    have HE : Aside0 (r1 = n ∧ r2 = i) := by
     have := HA.out; simp only [sgL, if_pos hlt, og, HH.out, if_true] at this
     simp at this
     exact ⟨⟨this.1.symm, this.2.symm⟩⟩
    clear HA
    go_wp2_with (go_at_call 183; refine (j7.calls _ rest lo hi_ false _ HF.out).mono ?_; rintro e w' ⟨rfl, ⟨nd, rfl⟩⟩)
    rw [Exit.noGoto_ret]
    go_ret2
    obtain ⟨rfl, rfl⟩ := HE.out; exact ⟨rfl, aG HB.out _⟩
   | true =>
    by_cases hle : (a0.size : Int) - i ≤ rest
    ·
     have HE : Aside0 (r1 = n ∧ r2 = i) := by
      have := HA.out; simp only [sgL, if_pos hlt, og, HH.out, if_pos hle] at this
      simp at this
      exact ⟨⟨this.1.symm, this.2.symm⟩⟩
     clear HA; have hle' := decide_eq_true hle
     go_wp2_with (go_at_call 183; refine (j7.calls _ rest lo hi_ true _ HF.out).mono ?_; rintro e w' ⟨rfl, ⟨nd, rfl⟩⟩)
     rw [Exit.noGoto_ret]
     go_ret2
     obtain ⟨rfl, rfl⟩ := HE.out; exact ⟨rfl, aG HB.out _⟩
    ·
     have hle' := decide_eq_false hle; have HLE := Aside0.mk hle; obtain ⟨rst, rfl⟩ : ∃ m : Nat, rest = m := ⟨rest.toNat, by omega⟩; have s1 := eq_true (show 0 ≤ i + 1 by omega); have s2 := eq_true (show i + 1 ≤ i + 1 + (rst : Int) by omega); have s3 := eq_true (show i + 1 + (rst : Int) ≤ a0.size by omega)
     have hsl : (a0.extract (i + 1).toNat (i + 1 + rst).toNat).size = rst := by
      rw [ByteArray.size_extract]; omega
     go_wp2_with (go_at_call 183; refine (j7.calls _ rst lo hi_ true _ HF.out).mono ?_; rintro e w' ⟨rfl, ⟨nd, rfl⟩⟩)
     have hcell : ∀ j : Nat, j < rst → (Lib.bytesWorld (wr.drewN nd) 5 (a0.extract (i + 1).toNat (i + 1 + ↑rst).toNat)).cell? ⟨wr.heap.size, j, none⟩ = some (.int .u8 (bt a0 (i + 1 + j))) := by
      intro j hj; have := Lib.bytesWorld_cell (wr.drewN nd) 5 (a0.extract (i + 1).toNat (i + 1 + ↑rst).toNat) j (by omega); rw [DU _ _ _ _ (by omega) (by omega), show (((i + 1).toNat + j : Nat) : Int) = i + 1 + j by omega] at this; exact this
     have HBW : Aside0 (Below w.heap.size w (Lib.bytesWorld (wr.drewN nd) 5 (a0.extract (i + 1).toNat (i + 1 + ↑rst).toNat))) := ⟨Cx (aG HB.out _) (aG HB.out nd).size _ _⟩; generalize Lib.bytesWorld (wr.drewN nd) 5 (a0.extract (i + 1).toNat (i + 1 + ↑rst).toNat) = WB at *; have HC := Aside0.mk hcell; clear hcell hsl hlt' hle' p7 q7 hx kb s1 s2 s3
     go_loopg [7, 8, 45] rst (fun g2 v7 v8 v45 wx => ∃ (j : Nat) (l h : Int), v7 = .int .u8 l ∧ v8 = .int .u8 h ∧ v45 = .int .i64 j ∧ j + g2 = rst ∧ Aside0 (sgR a0 g2 (i + 1 + j) l h = sgR a0 rst (i + 1) lo hi_) ∧ wx = WB)
     case atStart => exact ⟨0, lo, hi_, rfl, rfl, rfl, by omega, ⟨by simp⟩, rfl⟩
     case round =>
      obtain ⟨j, l, h, rfl, rfl, rfl, hj, HR, rfl⟩ := hrel
      cases gk with
      | zero =>
       have hj' : decide ((j : Int) < (rst : Int)) = false := decide_eq_false (by omega)
       have HE : Aside0 (sgL a0 k1 (n + 1) (i + (1 + (rst : Int))) = (r1, r2)) := by
        have := HA.out; simp only [sgL, if_pos hlt, og, HH.out, if_neg (show ¬ (a0.size : Int) - i ≤ (rst : Int) by have := HLE.out; omega)] at this; have hR := HR.out; simp only [sgR] at hR
        simp [← hR] at this
        exact ⟨this⟩
       clear HA HC HH HF HR
       go_wp2
       go_roundg k1
       case measure => omega
       case rel => exact ⟨n + 1, i + (1 + (rst : Int)), by first | rfl | simp, by first | rfl | simp, by omega, by omega, by omega, by omega, HE, HBW⟩
      | succ g2 =>
       have hc := HC.out j (by omega); have hj' : decide ((j : Int) < (rst : Int)) = true := decide_eq_true (by omega); have hb := oZ a0 (i + 1 + j); obtain ⟨b, hbb⟩ : ∃ b, bt a0 (i + 1 + j) = b := ⟨_, rfl⟩; rw [hbb] at hc hb; have HBB := Aside0.mk hbb; clear hbb
       have hHE : (b < l ∨ h < b) → Aside0 (r1 = n ∧ r2 = i) := by
        intro hor; have := HA.out; simp only [sgL, if_pos hlt, og, HH.out, if_neg (show ¬ (a0.size : Int) - i ≤ (rst : Int) by have := HLE.out; omega)] at this; have hR := HR.out; simp only [sgR, HBB.out] at hR
        have hF : sgR a0 rst (i + 1) lo hi_ = false := by
         rw [← hR]
         rcases hor with h1 | h1
         · rw [if_pos h1]
         ·
          split
          · rfl
          · rfl
        simp [hF] at this
        exact ⟨⟨this.1.symm, this.2.symm⟩⟩
       by_cases hl1 : b < l
       ·
        have HE := hHE (.inl hl1); have LJ := decide_eq_true hl1; clear hHE HA HC HH HF HR
        go_wp2
        (try rw [Exit.noGoto_ret])
        go_ret2
        obtain ⟨rfl, rfl⟩ := HE.out; exact ⟨rfl, HBW.out⟩
       ·
        by_cases hl2 : h < b
        ·
         have HE := hHE (.inr hl2); have LJ := decide_eq_false hl1; have P9 := decide_eq_true hl2; clear hHE HA HC HH HF HR
         go_wp2
         (try rw [Exit.noGoto_ret])
         go_ret2
         obtain ⟨rfl, rfl⟩ := HE.out; exact ⟨rfl, HBW.out⟩
        ·
         have HN : Aside0 (sgR a0 g2 (i + 1 + ((j + 1 : Nat) : Int)) 128 191 = sgR a0 rst (i + 1) lo hi_) := by
          have hR := HR.out; simp only [sgR, HBB.out, if_neg hl1, if_neg hl2] at hR; rw [← hR]; exact ⟨by rw [show i + 1 + ((j + 1 : Nat) : Int) = i + 1 + j + 1 by omega]⟩
         have LJ := decide_eq_false hl1; have P9 := decide_eq_false hl2; clear hHE HA HC HH HF HR
         go_wp2
         go_roundg g2
         case measure => omega
         case rel => exact ⟨j + 1, 128, 191, rfl, rfl, by go_num, by omega, HN, rfl⟩
  ·
   have HE : Aside0 (r1 = n ∧ r2 = i) := by
    have := HA.out; simp only [sgL, if_neg hlt] at this
    simp at this
    exact ⟨⟨this.1.symm, this.2.symm⟩⟩
   have hlt' := decide_eq_false hlt; clear HA
   go_wp2
   go_ret2
   obtain ⟨rfl, rfl⟩ := HE.out; exact ⟨rfl, HB.out⟩
def iG.f (a0 : ByteArray) : Option (Bool) := (kf.f a0).bind fun Od => (some (Od.2 == (a0.size : Int)))
set_option maxHeartbeats 8000000 in
set_option maxRecDepth 100000 in
theorem iG.calls (a0 : ByteArray) (r : Bool) (w : World) (h : iG.f a0 = some r) :
 Calls Tryz.prog 164 #[.string a0] w fun e w' => e = .returned (.bool r) ∧ Below w.heap.size w w' := by
 have HB := Aside0.mk (Below.refl w.heap.size w); have H := h; unfold iG.f at H; clear h; obtain ⟨⟨t125, t126⟩, A2, H⟩ := bnz H; (try dsimp only at H); obtain rfl := Option.some.inj H; go_enter Tryz.func164, Tryz.ntmps164
 go_wp2_with (first | ((with_reducible refine ak (f := 177) rfl ?_); refine aD (some 7) rfl rfl Tryz.func177 (by kernel_rfl) rfl #[.string a0] rfl mz ?_; (with_reducible refine (kf.calls a0 t125 t126 _ A2.out).mono ?_); rintro e w3 ⟨rfl, hb⟩; refine ⟨_, rfl, ?_⟩; replace HB := sb HB hb; (try clear hb); (try clear hb2); (try clear hk); (try clear hi)))
 go_ret
 exact ⟨ez, hz HB.out⟩
def o8.f (a0_0 : Int) (a0_1 : Int) (a0_2 : ByteArray) (a0_3 : Int) : Option (Bool) := if a0_0 ≥ 1 then (if a0_0 ≤ 2147483647 then (if a0_1 ≥ 0 then (if a0_1 ≤ 2147483647 then (if (a0_2.size : Int) ≤ 64 then ((iG.f a0_2).bind fun t128 => (some t128)) else (some false)) else (some false)) else (some false)) else (some false)) else (some false)
set_option maxHeartbeats 8000000 in
set_option maxRecDepth 100000 in
theorem o8.calls (a0_0 : Int) (a0_1 : Int) (a0_2 : ByteArray) (fu : Nat) (a0_3 : Int) (r : Bool) (w : World) (Oe : FB fu a0_3) (h : o8.f a0_0 a0_1 a0_2 a0_3 = some r) :
 Calls Tryz.prog 125 #[.agg #[.int .i64 a0_0, .int .i64 a0_1, .string a0_2, .float .f64 fu]] w fun e w' => e = .returned (.bool r) ∧ Below w.heap.size w w' := by
 have hu155 := Tryz.underlying155; have HB := Aside0.mk (Below.refl w.heap.size w); have H := h; unfold o8.f at H; clear h
 by_cases c2 : a0_0 ≥ 1
 ·
  rw [if_pos c2] at H; have jB : decide (1 ≤ a0_0) = true := decide_eq_true c2; clear c2
  by_cases c3 : a0_0 ≤ 2147483647
  ·
   rw [if_pos c3] at H; have gD := decide_eq_true c3; clear c3
   by_cases c4 : a0_1 ≥ 0
   ·
    rw [if_pos c4] at H; have iC : decide (0 ≤ a0_1) = true := decide_eq_true c4; clear c4
    by_cases c5 : a0_1 ≤ 2147483647
    ·
     rw [if_pos c5] at H; have fk := decide_eq_true c5; clear c5
     by_cases c6 : (a0_2.size : Int) ≤ 64
     ·
      rw [if_pos c6] at H; have oC := decide_eq_true c6; have xJ : decide (a0_2.size ≤ 64) = true := decide_eq_true (by omega); clear c6; obtain ⟨t128, A7, H⟩ := bnz H; (try dsimp only at H); obtain rfl := Option.some.inj H; go_enter Tryz.func125, Tryz.ntmps125
      go_wp2_with (first | ((with_reducible refine bG (N := 1) rfl ?_); (try (refine iq (by rfl) ?_; dsimp only)); refine bW ?hg (N := 1) ?hd (cs := #[.int .i64 a0_0, .int .i64 a0_1, .string a0_2, .float .f64 fu]) (t := 155) ?hr ?_; (case hd => rfl); (case hg => rfl); (case hr => first | (go_simp; done) | (go_simp; rfl)); intro eZ hg w8 hbox hb; have dz := am (hbox); have wo := am ((by rw [hg]; exact (ai (hz HB.out)) : w.heap.size ≤ eZ)); have mh := am ((by rw [hg]; exact (ai (hz HB.out)) : w.heap.size ≤ eZ)); replace HB := sb HB hb; clear hb hbox hg; have LK : w8.cell? ⟨eZ, 0, none⟩ = some (.int .i64 a0_0) := (af dz.out 0).trans rfl; have LL : w8.cell? ⟨eZ, 1, none⟩ = some (.int .i64 a0_1) := (af dz.out 1).trans rfl; have LN : w8.cell? ⟨eZ, 2, none⟩ = some (.string a0_2) := (af dz.out 2).trans rfl; have LO : w8.cell? ⟨eZ, 3, none⟩ = some (.float .f64 fu) := (af dz.out 3).trans rfl; have LP := aj dz.out 0; have LQ := aj dz.out 1; have LR := aj dz.out 2; have LS := aj dz.out 3) | (go_at_call 164; (with_reducible refine (iG.calls a0_2 t128 _ A7.out).mono ?_); rintro e w10 ⟨rfl, hb⟩; replace dz := am (aX (g := eZ) (o := .cells #[.int .i64 a0_0, .int .i64 a0_1, .string a0_2, .float .f64 fu] 155 (0, 0)) (kz dz.out) hb); replace HB := am (aM (hz1 HB.out mh.out) hb); (try clear hb); (try clear hb2); (try clear hk); (try clear hi)))
      go_ret
      exact ⟨ez, hz1 HB.out mh.out⟩
     ·
      rw [if_neg c6] at H; have oC := decide_eq_false c6; have xJ : decide (a0_2.size ≤ 64) = false := decide_eq_false (by omega); clear c6; obtain rfl := Option.some.inj H; go_enter Tryz.func125, Tryz.ntmps125
      go_wp2_with (first | ((with_reducible refine bG (N := 1) rfl ?_); (try (refine iq (by rfl) ?_; dsimp only)); refine bW ?hg (N := 1) ?hd (cs := #[.int .i64 a0_0, .int .i64 a0_1, .string a0_2, .float .f64 fu]) (t := 155) ?hr ?_; (case hd => rfl); (case hg => rfl); (case hr => first | (go_simp; done) | (go_simp; rfl)); intro eZ hg w11 hbox hb; have dz := am (hbox); have wo := am ((by rw [hg]; exact (ai (hz HB.out)) : w.heap.size ≤ eZ)); have mh := am ((by rw [hg]; exact (ai (hz HB.out)) : w.heap.size ≤ eZ)); replace HB := sb HB hb; clear hb hbox hg; have Ki : w11.cell? ⟨eZ, 0, none⟩ = some (.int .i64 a0_0) := (af dz.out 0).trans rfl; have Kj : w11.cell? ⟨eZ, 1, none⟩ = some (.int .i64 a0_1) := (af dz.out 1).trans rfl; have RI : w11.cell? ⟨eZ, 2, none⟩ = some (.string a0_2) := (af dz.out 2).trans rfl; have RJ : w11.cell? ⟨eZ, 3, none⟩ = some (.float .f64 fu) := (af dz.out 3).trans rfl; have Kk := aj dz.out 0; have Kl := aj dz.out 1; have RK := aj dz.out 2; have RL := aj dz.out 3))
      go_ret
      exact ⟨ez, hz1 HB.out mh.out⟩
    ·
     rw [if_neg c5] at H; have fk := decide_eq_false c5; clear c5; obtain rfl := Option.some.inj H; go_enter Tryz.func125, Tryz.ntmps125
     go_wp2_with (first | ((with_reducible refine bG (N := 1) rfl ?_); (try (refine iq (by rfl) ?_; dsimp only)); refine bW ?hg (N := 1) ?hd (cs := #[.int .i64 a0_0, .int .i64 a0_1, .string a0_2, .float .f64 fu]) (t := 155) ?hr ?_; (case hd => rfl); (case hg => rfl); (case hr => first | (go_simp; done) | (go_simp; rfl)); intro eZ hg w13 hbox hb; have dz := am (hbox); have wo := am ((by rw [hg]; exact (ai (hz HB.out)) : w.heap.size ≤ eZ)); have mh := am ((by rw [hg]; exact (ai (hz HB.out)) : w.heap.size ≤ eZ)); replace HB := sb HB hb; clear hb hbox hg; have xO : w13.cell? ⟨eZ, 0, none⟩ = some (.int .i64 a0_0) := (af dz.out 0).trans rfl; have xP : w13.cell? ⟨eZ, 1, none⟩ = some (.int .i64 a0_1) := (af dz.out 1).trans rfl; have RM : w13.cell? ⟨eZ, 2, none⟩ = some (.string a0_2) := (af dz.out 2).trans rfl; have RN : w13.cell? ⟨eZ, 3, none⟩ = some (.float .f64 fu) := (af dz.out 3).trans rfl; have xQ := aj dz.out 0; have xR := aj dz.out 1; have RO := aj dz.out 2; have RP := aj dz.out 3))
     go_ret
     exact ⟨ez, hz1 HB.out mh.out⟩
   ·
    rw [if_neg c4] at H; have iC : decide (0 ≤ a0_1) = false := decide_eq_false c4; clear c4; obtain rfl := Option.some.inj H; go_enter Tryz.func125, Tryz.ntmps125
    go_wp2_with (first | ((with_reducible refine bG (N := 1) rfl ?_); (try (refine iq (by rfl) ?_; dsimp only)); refine bW ?hg (N := 1) ?hd (cs := #[.int .i64 a0_0, .int .i64 a0_1, .string a0_2, .float .f64 fu]) (t := 155) ?hr ?_; (case hd => rfl); (case hg => rfl); (case hr => first | (go_simp; done) | (go_simp; rfl)); intro eZ hg w15 hbox hb; have dz := am (hbox); have wo := am ((by rw [hg]; exact (ai (hz HB.out)) : w.heap.size ≤ eZ)); have mh := am ((by rw [hg]; exact (ai (hz HB.out)) : w.heap.size ≤ eZ)); replace HB := sb HB hb; clear hb hbox hg; have xS : w15.cell? ⟨eZ, 0, none⟩ = some (.int .i64 a0_0) := (af dz.out 0).trans rfl; have xT : w15.cell? ⟨eZ, 1, none⟩ = some (.int .i64 a0_1) := (af dz.out 1).trans rfl; have Km : w15.cell? ⟨eZ, 2, none⟩ = some (.string a0_2) := (af dz.out 2).trans rfl; have Kn : w15.cell? ⟨eZ, 3, none⟩ = some (.float .f64 fu) := (af dz.out 3).trans rfl; have xU := aj dz.out 0; have xV := aj dz.out 1; have Ko := aj dz.out 2; have Kq := aj dz.out 3))
    go_ret
    exact ⟨ez, hz1 HB.out mh.out⟩
  ·
   rw [if_neg c3] at H; have gD := decide_eq_false c3; clear c3; obtain rfl := Option.some.inj H; go_enter Tryz.func125, Tryz.ntmps125
   go_wp2_with (first | ((with_reducible refine bG (N := 1) rfl ?_); (try (refine iq (by rfl) ?_; dsimp only)); refine bW ?hg (N := 1) ?hd (cs := #[.int .i64 a0_0, .int .i64 a0_1, .string a0_2, .float .f64 fu]) (t := 155) ?hr ?_; (case hd => rfl); (case hg => rfl); (case hr => first | (go_simp; done) | (go_simp; rfl)); intro eZ hg w17 hbox hb; have dz := am (hbox); have wo := am ((by rw [hg]; exact (ai (hz HB.out)) : w.heap.size ≤ eZ)); have mh := am ((by rw [hg]; exact (ai (hz HB.out)) : w.heap.size ≤ eZ)); replace HB := sb HB hb; clear hb hbox hg; have CZ : w17.cell? ⟨eZ, 0, none⟩ = some (.int .i64 a0_0) := (af dz.out 0).trans rfl; have C0 : w17.cell? ⟨eZ, 1, none⟩ = some (.int .i64 a0_1) := (af dz.out 1).trans rfl; have RQ : w17.cell? ⟨eZ, 2, none⟩ = some (.string a0_2) := (af dz.out 2).trans rfl; have RR : w17.cell? ⟨eZ, 3, none⟩ = some (.float .f64 fu) := (af dz.out 3).trans rfl; have C2 := aj dz.out 0; have C3 := aj dz.out 1; have RS := aj dz.out 2; have RT := aj dz.out 3))
   go_ret
   exact ⟨ez, hz1 HB.out mh.out⟩
 ·
  rw [if_neg c2] at H; have jB : decide (1 ≤ a0_0) = false := decide_eq_false c2; clear c2; obtain rfl := Option.some.inj H; go_enter Tryz.func125, Tryz.ntmps125
  go_wp2_with (first | ((with_reducible refine bG (N := 1) rfl ?_); (try (refine iq (by rfl) ?_; dsimp only)); refine bW ?hg (N := 1) ?hd (cs := #[.int .i64 a0_0, .int .i64 a0_1, .string a0_2, .float .f64 fu]) (t := 155) ?hr ?_; (case hd => rfl); (case hg => rfl); (case hr => first | (go_simp; done) | (go_simp; rfl)); intro eZ hg w19 hbox hb; have dz := am (hbox); have wo := am ((by rw [hg]; exact (ai (hz HB.out)) : w.heap.size ≤ eZ)); have mh := am ((by rw [hg]; exact (ai (hz HB.out)) : w.heap.size ≤ eZ)); replace HB := sb HB hb; clear hb hbox hg; have Kr : w19.cell? ⟨eZ, 0, none⟩ = some (.int .i64 a0_0) := (af dz.out 0).trans rfl; have Ks : w19.cell? ⟨eZ, 1, none⟩ = some (.int .i64 a0_1) := (af dz.out 1).trans rfl; have RU : w19.cell? ⟨eZ, 2, none⟩ = some (.string a0_2) := (af dz.out 2).trans rfl; have RV : w19.cell? ⟨eZ, 3, none⟩ = some (.float .f64 fu) := (af dz.out 3).trans rfl; have Kt := aj dz.out 0; have Ku := aj dz.out 1; have RW := aj dz.out 2; have RX := aj dz.out 3))
  go_ret
  exact ⟨ez, hz1 HB.out mh.out⟩
def oh.f (a0_0 : Int) (a0_1 : Int) (a0_2 : Int) (a0_3 : Int) (a0_4 : ByteArray) (a0_5 : Int) : Option (Int × Int × ByteArray × Int) := some (a0_3, a0_2, a0_4, a0_5)
set_option maxHeartbeats 8000000 in
set_option maxRecDepth 100000 in
theorem oh.calls (a0_0 : Int) (a0_1 : Int) (a0_2 : Int) (a0_3 : Int) (a0_4 : ByteArray) (cO : Nat) (a0_5 : Int) (r1 : Int) (r2 : Int) (r3 : ByteArray) (r4 : Int) (w : World) (DV : FB cO a0_5) (h : oh.f a0_0 a0_1 a0_2 a0_3 a0_4 a0_5 = some (r1, r2, r3, r4)) :
 Calls Tryz.prog 126 #[.agg #[.int .i64 a0_0, .int .i64 a0_1, .int .i64 a0_2, .int .i64 a0_3, .string a0_4, .float .f64 cO]] w fun e w' => ∃ b3_ : Nat, e = .returned (.agg #[.int .i64 r1, .int .i64 r2, .string r3, .float .f64 b3_]) ∧ FB b3_ r4 ∧ Below w.heap.size w w' := by
 have hu51 := Tryz.underlying51; have hu155 := Tryz.underlying155; have HB := Aside0.mk (Below.refl w.heap.size w); have H := h; unfold oh.f at H; clear h; simp only [Option.some.injEq, Prod.mk.injEq] at H; obtain ⟨rfl, rfl, rfl, rfl⟩ := H; go_enter Tryz.func126, Tryz.ntmps126
 go_wp2_with (first | ((with_reducible refine bG (N := 1) rfl ?_); refine bW ?hg (N := 1) ?hd (cs := #[.int .i64 a0_0, .int .i64 a0_1, .int .i64 a0_2, .int .i64 a0_3, .string a0_4, .float .f64 cO]) (t := 51) ?hr ?_; (case hd => rfl); (case hg => rfl); (case hr => first | (go_simp; done) | (go_simp; rfl)); intro lp hg w2 hbox hb; have jR := am (hbox); have Uf := am ((by rw [hg]; exact (ai (hz HB.out)) : w.heap.size ≤ lp)); have zK := am ((by rw [hg]; exact (ai (hz HB.out)) : w.heap.size ≤ lp)); replace HB := sb HB hb; clear hb hbox hg) | ((with_reducible refine bG (N := 2) rfl ?_); refine bW ?hg (N := 2) ?hd (cs := #[.int .i64 0, .int .i64 0, .string (⟨#[]⟩ : ByteArray), .float .f64 0]) (t := 155) ?hr ?_; (case hd => rfl); (case hg => rfl); (case hr => first | (go_simp; done) | (go_simp; rfl)); intro oJ hg w3 hbox hb; have oK := am (hbox); have Ug := am ((by rw [hg]; exact (ai (hz1 HB.out zK.out)) : w.heap.size ≤ oJ)); have Og := am ((by rw [hg]; exact (ai (hz1 HB.out zK.out)) : w.heap.size ≤ oJ)); replace HB := am (aM (hz1 HB.out zK.out) hb); have FU := am ((by rw [hg]; exact Nat.ne_of_lt (cY (g := lp) (o := .cells #[.int .i64 a0_0, .int .i64 a0_1, .int .i64 a0_2, .int .i64 a0_3, .string a0_4, .float .f64 cO] 51 (0, 0)) (kz jR.out)) : lp ≠ oJ)); have FV := am ((by rw [hg]; exact Nat.ne_of_gt (cY (g := lp) (o := .cells #[.int .i64 a0_0, .int .i64 a0_1, .int .i64 a0_2, .int .i64 a0_3, .string a0_4, .float .f64 cO] 51 (0, 0)) (kz jR.out)) : oJ ≠ lp)); replace jR := am (aX (g := lp) (o := .cells #[.int .i64 a0_0, .int .i64 a0_1, .int .i64 a0_2, .int .i64 a0_3, .string a0_4, .float .f64 cO] 51 (0, 0)) (kz jR.out) hb); clear hb hbox hg; have hnb4 := FU.out; have hnc4 := FV.out; have LU : w3.cell? ⟨lp, 0, none⟩ = some (.int .i64 a0_0) := (af jR.out 0).trans rfl; have LV : w3.cell? ⟨lp, 1, none⟩ = some (.int .i64 a0_1) := (af jR.out 1).trans rfl; have LW : w3.cell? ⟨lp, 2, none⟩ = some (.int .i64 a0_2) := (af jR.out 2).trans rfl; have LX : w3.cell? ⟨lp, 3, none⟩ = some (.int .i64 a0_3) := (af jR.out 3).trans rfl; have LY : w3.cell? ⟨lp, 4, none⟩ = some (.string a0_4) := (af jR.out 4).trans rfl; have L5 : w3.cell? ⟨lp, 5, none⟩ = some (.float .f64 cO) := (af jR.out 5).trans rfl; have L6 := aj jR.out 0; have L7 := aj jR.out 1; have L8 := aj jR.out 2; have L9 := aj jR.out 3; have Ma := aj jR.out 4; have Mb := aj jR.out 5; have Mc : w3.cell? ⟨oJ, 0, none⟩ = some (.int .i64 0) := (af oK.out 0).trans rfl; have Md : w3.cell? ⟨oJ, 1, none⟩ = some (.int .i64 0) := (af oK.out 1).trans rfl; have Me : w3.cell? ⟨oJ, 2, none⟩ = some (.string (⟨#[]⟩ : ByteArray)) := (af oK.out 2).trans rfl; have Mf : w3.cell? ⟨oJ, 3, none⟩ = some (.float .f64 0) := (af oK.out 3).trans rfl; have Mg := aj oK.out 0; have Mh := aj oK.out 1; have Mi := aj oK.out 2; have Mj := aj oK.out 3))
 refine bodyPost_ret (results_cell_row rfl _ _ oJ 155 #[.int .i64 a0_3, .int .i64 a0_2, .string a0_4, .float .f64 cO] (0, 0) _ rfl (by (with_reducible repeat (first | refine bz ?_ _ | refine cQ ?_ | refine bx ?_ _)); refine fO (cs := #[.int .i64 a0_3, .int .i64 a0_2, .string a0_4, .float .f64 0]) ?_ 3 _ rfl; (with_reducible repeat (first | refine bz ?_ _ | refine cQ ?_ | refine bx ?_ _)); refine fO (cs := #[.int .i64 a0_3, .int .i64 a0_2, .string (⟨#[]⟩ : ByteArray), .float .f64 0]) ?_ 2 _ rfl; (with_reducible repeat (first | refine bz ?_ _ | refine cQ ?_ | refine bx ?_ _)); refine fO (cs := #[.int .i64 a0_3, .int .i64 0, .string (⟨#[]⟩ : ByteArray), .float .f64 0]) ?_ 1 _ rfl; (with_reducible repeat (first | refine bz ?_ _ | refine cQ ?_ | refine bx ?_ _)); refine fO (cs := #[.int .i64 0, .int .i64 0, .string (⟨#[]⟩ : ByteArray), .float .f64 0]) ?_ 0 _ rfl; (with_reducible repeat (first | refine bz ?_ _ | refine cQ ?_ | refine bx ?_ _)); exact oK.out) Tryz.underlying155 rfl (by kernel_rfl)) rfl ?_; exact ⟨_, ez, fz, by repeat (first | (with_reducible first | exact HB.out | apply aH | apply aG | apply bw | refine bM ?_ zK.out | refine bM ?_ Og.out) | exact HB.out)⟩
def jH.f (a0_0 : Int) (a0_1 : Int) (a0_2 : Int) (a0_3 : Int) (a0_4 : ByteArray) (a0_5 : Int) : Option (Bool) := if a0_0 ≥ 1 then (if a0_0 ≤ 4611686018427387903 then (if a0_1 ≥ 1 then (if a0_1 ≤ 255 then ((oh.f a0_0 a0_1 a0_2 a0_3 a0_4 a0_5).bind fun zL => ((o8.f zL.1 zL.2.1 zL.2.2.1 zL.2.2.2).bind fun t138 => (some t138))) else (some false)) else (some false)) else (some false)) else (some false)
set_option maxHeartbeats 8000000 in
set_option maxRecDepth 100000 in
theorem jH.calls (a0_0 : Int) (a0_1 : Int) (a0_2 : Int) (a0_3 : Int) (a0_4 : ByteArray) (cO : Nat) (a0_5 : Int) (r : Bool) (w : World) (DV : FB cO a0_5) (h : jH.f a0_0 a0_1 a0_2 a0_3 a0_4 a0_5 = some r) :
 Calls Tryz.prog 65 #[.agg #[.int .i64 a0_0, .int .i64 a0_1, .int .i64 a0_2, .int .i64 a0_3, .string a0_4, .float .f64 cO]] w fun e w' => e = .returned (.bool r) ∧ Below w.heap.size w w' := by
 have hu51 := Tryz.underlying51; have hu48 := Tryz.underlying48; have HB := Aside0.mk (Below.refl w.heap.size w); have H := h; unfold jH.f at H; clear h
 by_cases c2 : a0_0 ≥ 1
 ·
  rw [if_pos c2] at H; have jB : decide (1 ≤ a0_0) = true := decide_eq_true c2; clear c2
  by_cases c3 : a0_0 ≤ 4611686018427387903
  ·
   rw [if_pos c3] at H; have gD := decide_eq_true c3; clear c3
   by_cases c4 : a0_1 ≥ 1
   ·
    rw [if_pos c4] at H; have iC : decide (1 ≤ a0_1) = true := decide_eq_true c4; clear c4
    by_cases c5 : a0_1 ≤ 255
    ·
     rw [if_pos c5] at H; have fk := decide_eq_true c5; clear c5; obtain ⟨⟨t133, t134, t135, t136⟩, A6, H⟩ := bnz H; (try dsimp only at H); obtain ⟨t138, A7, H⟩ := bnz H; (try dsimp only at H); obtain rfl := Option.some.inj H; go_enter Tryz.func65, Tryz.ntmps65
     go_wp2_with (first | ((with_reducible refine bG (N := 1) rfl ?_); refine bW ?hg (N := 1) ?hd (cs := #[.int .i64 a0_0, .int .i64 a0_1, .int .i64 a0_2, .int .i64 a0_3, .string a0_4, .float .f64 cO]) (t := 51) ?hr ?_; (case hd => rfl); (case hg => rfl); (case hr => first | (go_simp; done) | (go_simp; rfl)); intro cl hg w8 hbox hb; have bJ := am (hbox); have zM := am ((by rw [hg]; exact (ai (hz HB.out)) : w.heap.size ≤ cl)); have gZ := am ((by rw [hg]; exact (ai (hz HB.out)) : w.heap.size ≤ cl)); replace HB := sb HB hb; clear hb hbox hg; have LK : w8.cell? ⟨cl, 0, none⟩ = some (.int .i64 a0_0) := (af bJ.out 0).trans rfl; have LL : w8.cell? ⟨cl, 1, none⟩ = some (.int .i64 a0_1) := (af bJ.out 1).trans rfl; have LN : w8.cell? ⟨cl, 2, none⟩ = some (.int .i64 a0_2) := (af bJ.out 2).trans rfl; have LO : w8.cell? ⟨cl, 3, none⟩ = some (.int .i64 a0_3) := (af bJ.out 3).trans rfl; have TZ : w8.cell? ⟨cl, 4, none⟩ = some (.string a0_4) := (af bJ.out 4).trans rfl; have Ua : w8.cell? ⟨cl, 5, none⟩ = some (.float .f64 cO) := (af bJ.out 5).trans rfl; have LP := aj bJ.out 0; have LQ := aj bJ.out 1; have LR := aj bJ.out 2; have LS := aj bJ.out 3; have Ub := aj bJ.out 4; have Uc := aj bJ.out 5) | ((with_reducible refine bG (N := 3) rfl ?_); refine bW ?hg (N := 3) ?hd (cs := #[.int .i64 0, .int .i64 0]) (t := 48) ?hr ?_; (case hd => rfl); (case hg => rfl); (case hr => first | (go_simp; done) | (go_simp; rfl)); intro fL hg w10 hbox hb; have gN := am (hbox); have zN := am ((by rw [hg]; exact (ai (hz1 HB.out gZ.out)) : w.heap.size ≤ fL)); have mU := am ((by rw [hg]; exact (ai (hz1 HB.out gZ.out)) : w.heap.size ≤ fL)); replace HB := am (aM (hz1 HB.out gZ.out) hb); have ja := am ((by rw [hg]; exact Nat.ne_of_lt (cY (g := cl) (o := .cells #[.int .i64 a0_0, .int .i64 a0_1, .int .i64 a0_2, .int .i64 a0_3, .string a0_4, .float .f64 cO] 51 (0, 0)) (kz bJ.out)) : cl ≠ fL)); have jI := am ((by rw [hg]; exact Nat.ne_of_gt (cY (g := cl) (o := .cells #[.int .i64 a0_0, .int .i64 a0_1, .int .i64 a0_2, .int .i64 a0_3, .string a0_4, .float .f64 cO] 51 (0, 0)) (kz bJ.out)) : fL ≠ cl)); replace bJ := am (aX (g := cl) (o := .cells #[.int .i64 a0_0, .int .i64 a0_1, .int .i64 a0_2, .int .i64 a0_3, .string a0_4, .float .f64 cO] 51 (0, 0)) (kz bJ.out) hb); clear hb hbox hg; have hnb11 := jI.out; have hnc11 := ja.out; have Ki : w10.cell? ⟨fL, 0, none⟩ = some (.int .i64 0) := (af gN.out 0).trans rfl; have Kj : w10.cell? ⟨fL, 1, none⟩ = some (.int .i64 0) := (af gN.out 1).trans rfl; have Kk := aj gN.out 0; have Kl := aj gN.out 1; have RY : w10.cell? ⟨cl, 0, none⟩ = some (.int .i64 a0_0) := (af bJ.out 0).trans rfl; have RZ : w10.cell? ⟨cl, 1, none⟩ = some (.int .i64 a0_1) := (af bJ.out 1).trans rfl; have R1 : w10.cell? ⟨cl, 2, none⟩ = some (.int .i64 a0_2) := (af bJ.out 2).trans rfl; have R2 : w10.cell? ⟨cl, 3, none⟩ = some (.int .i64 a0_3) := (af bJ.out 3).trans rfl; have R3 : w10.cell? ⟨cl, 4, none⟩ = some (.string a0_4) := (af bJ.out 4).trans rfl; have R4 : w10.cell? ⟨cl, 5, none⟩ = some (.float .f64 cO) := (af bJ.out 5).trans rfl; have R5 := aj bJ.out 0; have R6 := aj bJ.out 1; have R7 := aj bJ.out 2; have R8 := aj bJ.out 3; have R9 := aj bJ.out 4; have Sa := aj bJ.out 5) | (go_at_call 126; (with_reducible refine (oh.calls a0_0 a0_1 a0_2 a0_3 a0_4 _ a0_5 t133 t134 t135 t136 _ ?side1 A6.out).mono ?_); (case side1 => exact fz); rintro e w14 ⟨Uh, rfl, Ui, hb⟩; replace bJ := am (aX (g := cl) (o := .cells #[.int .i64 a0_0, .int .i64 a0_1, .int .i64 a0_2, .int .i64 a0_3, .string a0_4, .float .f64 cO] 51 (0, 0)) (by (with_reducible repeat (first | refine bz ?_ _ | refine cQ ?_ | refine bx ?_ _)); refine iR ?_ ja.out _; (with_reducible repeat (first | refine bz ?_ _ | refine cQ ?_ | refine bx ?_ _)); refine iR ?_ ja.out _; (with_reducible repeat (first | refine bz ?_ _ | refine cQ ?_ | refine bx ?_ _)); exact bJ.out) hb); replace gN := am (aX (g := fL) (o := .cells #[.int .i64 a0_0, .int .i64 a0_1] 48 (0, 0)) (by (with_reducible repeat (first | refine bz ?_ _ | refine cQ ?_ | refine bx ?_ _)); refine fO (cs := #[.int .i64 a0_0, .int .i64 0]) ?_ 1 _ rfl; (with_reducible repeat (first | refine bz ?_ _ | refine cQ ?_ | refine bx ?_ _)); refine fO (cs := #[.int .i64 0, .int .i64 0]) ?_ 0 _ rfl; (with_reducible repeat (first | refine bz ?_ _ | refine cQ ?_ | refine bx ?_ _)); exact gN.out) hb); replace HB := am (aM (by repeat (first | (with_reducible first | exact HB.out | apply aH | apply aG | apply bw | refine bM ?_ gZ.out | refine bM ?_ mU.out) | exact HB.out)) hb); (try clear hb); (try clear hb2); (try clear hk); (try clear hi)) | (go_at_call 125; (with_reducible refine (o8.calls t133 t134 t135 _ t136 t138 _ ?side1 A7.out).mono ?_); (case side1 => exact fz); rintro e w15 ⟨rfl, hb⟩; replace bJ := am (aX (g := cl) (o := .cells #[.int .i64 a0_0, .int .i64 a0_1, .int .i64 a0_2, .int .i64 a0_3, .string a0_4, .float .f64 cO] 51 (0, 0)) (kz bJ.out) hb); replace gN := am (aX (g := fL) (o := .cells #[.int .i64 a0_0, .int .i64 a0_1] 48 (0, 0)) (kz gN.out) hb); replace HB := am (aM (by repeat (first | (with_reducible first | exact HB.out | apply aH | apply aG | apply bw | refine bM ?_ gZ.out | refine bM ?_ mU.out) | exact HB.out)) hb); (try clear hb); (try clear hb2); (try clear hk); (try clear hi)))
     go_ret
     exact ⟨ez, by repeat (first | (with_reducible first | exact HB.out | apply aH | apply aG | apply bw | refine bM ?_ gZ.out | refine bM ?_ mU.out) | exact HB.out)⟩
    ·
     rw [if_neg c5] at H; have fk := decide_eq_false c5; clear c5; obtain rfl := Option.some.inj H; go_enter Tryz.func65, Tryz.ntmps65
     go_wp2_with (first | ((with_reducible refine bG (N := 1) rfl ?_); refine bW ?hg (N := 1) ?hd (cs := #[.int .i64 a0_0, .int .i64 a0_1, .int .i64 a0_2, .int .i64 a0_3, .string a0_4, .float .f64 cO]) (t := 51) ?hr ?_; (case hd => rfl); (case hg => rfl); (case hr => first | (go_simp; done) | (go_simp; rfl)); intro cl hg w16 hbox hb; have bJ := am (hbox); have zM := am ((by rw [hg]; exact (ai (hz HB.out)) : w.heap.size ≤ cl)); have gZ := am ((by rw [hg]; exact (ai (hz HB.out)) : w.heap.size ≤ cl)); replace HB := sb HB hb; clear hb hbox hg; have Kv : w16.cell? ⟨cl, 0, none⟩ = some (.int .i64 a0_0) := (af bJ.out 0).trans rfl; have Kw : w16.cell? ⟨cl, 1, none⟩ = some (.int .i64 a0_1) := (af bJ.out 1).trans rfl; have Kx : w16.cell? ⟨cl, 2, none⟩ = some (.int .i64 a0_2) := (af bJ.out 2).trans rfl; have Ky : w16.cell? ⟨cl, 3, none⟩ = some (.int .i64 a0_3) := (af bJ.out 3).trans rfl; have Sb : w16.cell? ⟨cl, 4, none⟩ = some (.string a0_4) := (af bJ.out 4).trans rfl; have Sc : w16.cell? ⟨cl, 5, none⟩ = some (.float .f64 cO) := (af bJ.out 5).trans rfl; have Kz := aj bJ.out 0; have KA := aj bJ.out 1; have KC := aj bJ.out 2; have KE := aj bJ.out 3; have Sd := aj bJ.out 4; have Se := aj bJ.out 5) | ((with_reducible refine bG (N := 3) rfl ?_); refine bW ?hg (N := 3) ?hd (cs := #[.int .i64 0, .int .i64 0]) (t := 48) ?hr ?_; (case hd => rfl); (case hg => rfl); (case hr => first | (go_simp; done) | (go_simp; rfl)); intro fL hg w18 hbox hb; have gN := am (hbox); have zN := am ((by rw [hg]; exact (ai (hz1 HB.out gZ.out)) : w.heap.size ≤ fL)); have mU := am ((by rw [hg]; exact (ai (hz1 HB.out gZ.out)) : w.heap.size ≤ fL)); replace HB := am (aM (hz1 HB.out gZ.out) hb); have ja := am ((by rw [hg]; exact Nat.ne_of_lt (cY (g := cl) (o := .cells #[.int .i64 a0_0, .int .i64 a0_1, .int .i64 a0_2, .int .i64 a0_3, .string a0_4, .float .f64 cO] 51 (0, 0)) (kz bJ.out)) : cl ≠ fL)); have jI := am ((by rw [hg]; exact Nat.ne_of_gt (cY (g := cl) (o := .cells #[.int .i64 a0_0, .int .i64 a0_1, .int .i64 a0_2, .int .i64 a0_3, .string a0_4, .float .f64 cO] 51 (0, 0)) (kz bJ.out)) : fL ≠ cl)); replace bJ := am (aX (g := cl) (o := .cells #[.int .i64 a0_0, .int .i64 a0_1, .int .i64 a0_2, .int .i64 a0_3, .string a0_4, .float .f64 cO] 51 (0, 0)) (kz bJ.out) hb); clear hb hbox hg; have hnb19 := jI.out; have hnc19 := ja.out; have Kr : w18.cell? ⟨fL, 0, none⟩ = some (.int .i64 0) := (af gN.out 0).trans rfl; have Ks : w18.cell? ⟨fL, 1, none⟩ = some (.int .i64 0) := (af gN.out 1).trans rfl; have Kt := aj gN.out 0; have Ku := aj gN.out 1))
     go_ret
     exact ⟨ez, by repeat (first | (with_reducible first | exact HB.out | apply aH | apply aG | apply bw | refine bM ?_ gZ.out | refine bM ?_ mU.out) | exact HB.out)⟩
   ·
    rw [if_neg c4] at H; have iC : decide (1 ≤ a0_1) = false := decide_eq_false c4; clear c4; obtain rfl := Option.some.inj H; go_enter Tryz.func65, Tryz.ntmps65
    go_wp2_with (first | ((with_reducible refine bG (N := 1) rfl ?_); refine bW ?hg (N := 1) ?hd (cs := #[.int .i64 a0_0, .int .i64 a0_1, .int .i64 a0_2, .int .i64 a0_3, .string a0_4, .float .f64 cO]) (t := 51) ?hr ?_; (case hd => rfl); (case hg => rfl); (case hr => first | (go_simp; done) | (go_simp; rfl)); intro cl hg w21 hbox hb; have bJ := am (hbox); have zM := am ((by rw [hg]; exact (ai (hz HB.out)) : w.heap.size ≤ cl)); have gZ := am ((by rw [hg]; exact (ai (hz HB.out)) : w.heap.size ≤ cl)); replace HB := sb HB hb; clear hb hbox hg; have KF : w21.cell? ⟨cl, 0, none⟩ = some (.int .i64 a0_0) := (af bJ.out 0).trans rfl; have KG : w21.cell? ⟨cl, 1, none⟩ = some (.int .i64 a0_1) := (af bJ.out 1).trans rfl; have KH : w21.cell? ⟨cl, 2, none⟩ = some (.int .i64 a0_2) := (af bJ.out 2).trans rfl; have KI : w21.cell? ⟨cl, 3, none⟩ = some (.int .i64 a0_3) := (af bJ.out 3).trans rfl; have Sf : w21.cell? ⟨cl, 4, none⟩ = some (.string a0_4) := (af bJ.out 4).trans rfl; have Sg : w21.cell? ⟨cl, 5, none⟩ = some (.float .f64 cO) := (af bJ.out 5).trans rfl; have KJ := aj bJ.out 0; have KK := aj bJ.out 1; have KL := aj bJ.out 2; have KM := aj bJ.out 3; have Sh := aj bJ.out 4; have Si := aj bJ.out 5) | ((with_reducible refine bG (N := 3) rfl ?_); refine bW ?hg (N := 3) ?hd (cs := #[.int .i64 0, .int .i64 0]) (t := 48) ?hr ?_; (case hd => rfl); (case hg => rfl); (case hr => first | (go_simp; done) | (go_simp; rfl)); intro fL hg w23 hbox hb; have gN := am (hbox); have zN := am ((by rw [hg]; exact (ai (hz1 HB.out gZ.out)) : w.heap.size ≤ fL)); have mU := am ((by rw [hg]; exact (ai (hz1 HB.out gZ.out)) : w.heap.size ≤ fL)); replace HB := am (aM (hz1 HB.out gZ.out) hb); have ja := am ((by rw [hg]; exact Nat.ne_of_lt (cY (g := cl) (o := .cells #[.int .i64 a0_0, .int .i64 a0_1, .int .i64 a0_2, .int .i64 a0_3, .string a0_4, .float .f64 cO] 51 (0, 0)) (kz bJ.out)) : cl ≠ fL)); have jI := am ((by rw [hg]; exact Nat.ne_of_gt (cY (g := cl) (o := .cells #[.int .i64 a0_0, .int .i64 a0_1, .int .i64 a0_2, .int .i64 a0_3, .string a0_4, .float .f64 cO] 51 (0, 0)) (kz bJ.out)) : fL ≠ cl)); replace bJ := am (aX (g := cl) (o := .cells #[.int .i64 a0_0, .int .i64 a0_1, .int .i64 a0_2, .int .i64 a0_3, .string a0_4, .float .f64 cO] 51 (0, 0)) (kz bJ.out) hb); clear hb hbox hg; have hnb24 := jI.out; have hnc24 := ja.out; have Sj : w23.cell? ⟨fL, 0, none⟩ = some (.int .i64 0) := (af gN.out 0).trans rfl; have Sk : w23.cell? ⟨fL, 1, none⟩ = some (.int .i64 0) := (af gN.out 1).trans rfl; have Sl := aj gN.out 0; have Sm := aj gN.out 1))
    go_ret
    exact ⟨ez, by repeat (first | (with_reducible first | exact HB.out | apply aH | apply aG | apply bw | refine bM ?_ gZ.out | refine bM ?_ mU.out) | exact HB.out)⟩
  ·
   rw [if_neg c3] at H; have gD := decide_eq_false c3; clear c3; obtain rfl := Option.some.inj H; go_enter Tryz.func65, Tryz.ntmps65
   go_wp2_with (first | ((with_reducible refine bG (N := 1) rfl ?_); refine bW ?hg (N := 1) ?hd (cs := #[.int .i64 a0_0, .int .i64 a0_1, .int .i64 a0_2, .int .i64 a0_3, .string a0_4, .float .f64 cO]) (t := 51) ?hr ?_; (case hd => rfl); (case hg => rfl); (case hr => first | (go_simp; done) | (go_simp; rfl)); intro cl hg w26 hbox hb; have bJ := am (hbox); have zM := am ((by rw [hg]; exact (ai (hz HB.out)) : w.heap.size ≤ cl)); have gZ := am ((by rw [hg]; exact (ai (hz HB.out)) : w.heap.size ≤ cl)); replace HB := sb HB hb; clear hb hbox hg; have KN : w26.cell? ⟨cl, 0, none⟩ = some (.int .i64 a0_0) := (af bJ.out 0).trans rfl; have KO : w26.cell? ⟨cl, 1, none⟩ = some (.int .i64 a0_1) := (af bJ.out 1).trans rfl; have KP : w26.cell? ⟨cl, 2, none⟩ = some (.int .i64 a0_2) := (af bJ.out 2).trans rfl; have KQ : w26.cell? ⟨cl, 3, none⟩ = some (.int .i64 a0_3) := (af bJ.out 3).trans rfl; have Sn : w26.cell? ⟨cl, 4, none⟩ = some (.string a0_4) := (af bJ.out 4).trans rfl; have Sq : w26.cell? ⟨cl, 5, none⟩ = some (.float .f64 cO) := (af bJ.out 5).trans rfl; have KR := aj bJ.out 0; have KS := aj bJ.out 1; have KT := aj bJ.out 2; have KU := aj bJ.out 3; have Sr := aj bJ.out 4; have Ss := aj bJ.out 5) | ((with_reducible refine bG (N := 3) rfl ?_); refine bW ?hg (N := 3) ?hd (cs := #[.int .i64 0, .int .i64 0]) (t := 48) ?hr ?_; (case hd => rfl); (case hg => rfl); (case hr => first | (go_simp; done) | (go_simp; rfl)); intro fL hg w28 hbox hb; have gN := am (hbox); have zN := am ((by rw [hg]; exact (ai (hz1 HB.out gZ.out)) : w.heap.size ≤ fL)); have mU := am ((by rw [hg]; exact (ai (hz1 HB.out gZ.out)) : w.heap.size ≤ fL)); replace HB := am (aM (hz1 HB.out gZ.out) hb); have ja := am ((by rw [hg]; exact Nat.ne_of_lt (cY (g := cl) (o := .cells #[.int .i64 a0_0, .int .i64 a0_1, .int .i64 a0_2, .int .i64 a0_3, .string a0_4, .float .f64 cO] 51 (0, 0)) (kz bJ.out)) : cl ≠ fL)); have jI := am ((by rw [hg]; exact Nat.ne_of_gt (cY (g := cl) (o := .cells #[.int .i64 a0_0, .int .i64 a0_1, .int .i64 a0_2, .int .i64 a0_3, .string a0_4, .float .f64 cO] 51 (0, 0)) (kz bJ.out)) : fL ≠ cl)); replace bJ := am (aX (g := cl) (o := .cells #[.int .i64 a0_0, .int .i64 a0_1, .int .i64 a0_2, .int .i64 a0_3, .string a0_4, .float .f64 cO] 51 (0, 0)) (kz bJ.out) hb); clear hb hbox hg; have hnb29 := jI.out; have hnc29 := ja.out; have Su : w28.cell? ⟨fL, 0, none⟩ = some (.int .i64 0) := (af gN.out 0).trans rfl; have Sv : w28.cell? ⟨fL, 1, none⟩ = some (.int .i64 0) := (af gN.out 1).trans rfl; have Sw := aj gN.out 0; have Sy := aj gN.out 1))
   go_ret
   exact ⟨ez, by repeat (first | (with_reducible first | exact HB.out | apply aH | apply aG | apply bw | refine bM ?_ gZ.out | refine bM ?_ mU.out) | exact HB.out)⟩
 ·
  rw [if_neg c2] at H; have jB : decide (1 ≤ a0_0) = false := decide_eq_false c2; clear c2; obtain rfl := Option.some.inj H; go_enter Tryz.func65, Tryz.ntmps65
  go_wp2_with (first | ((with_reducible refine bG (N := 1) rfl ?_); refine bW ?hg (N := 1) ?hd (cs := #[.int .i64 a0_0, .int .i64 a0_1, .int .i64 a0_2, .int .i64 a0_3, .string a0_4, .float .f64 cO]) (t := 51) ?hr ?_; (case hd => rfl); (case hg => rfl); (case hr => first | (go_simp; done) | (go_simp; rfl)); intro cl hg w31 hbox hb; have bJ := am (hbox); have zM := am ((by rw [hg]; exact (ai (hz HB.out)) : w.heap.size ≤ cl)); have gZ := am ((by rw [hg]; exact (ai (hz HB.out)) : w.heap.size ≤ cl)); replace HB := sb HB hb; clear hb hbox hg; have Sz : w31.cell? ⟨cl, 0, none⟩ = some (.int .i64 a0_0) := (af bJ.out 0).trans rfl; have SA : w31.cell? ⟨cl, 1, none⟩ = some (.int .i64 a0_1) := (af bJ.out 1).trans rfl; have SB : w31.cell? ⟨cl, 2, none⟩ = some (.int .i64 a0_2) := (af bJ.out 2).trans rfl; have SC : w31.cell? ⟨cl, 3, none⟩ = some (.int .i64 a0_3) := (af bJ.out 3).trans rfl; have SD : w31.cell? ⟨cl, 4, none⟩ = some (.string a0_4) := (af bJ.out 4).trans rfl; have SE : w31.cell? ⟨cl, 5, none⟩ = some (.float .f64 cO) := (af bJ.out 5).trans rfl; have SF := aj bJ.out 0; have SG := aj bJ.out 1; have SH := aj bJ.out 2; have SI := aj bJ.out 3; have SJ := aj bJ.out 4; have SK := aj bJ.out 5) | ((with_reducible refine bG (N := 3) rfl ?_); refine bW ?hg (N := 3) ?hd (cs := #[.int .i64 0, .int .i64 0]) (t := 48) ?hr ?_; (case hd => rfl); (case hg => rfl); (case hr => first | (go_simp; done) | (go_simp; rfl)); intro fL hg w33 hbox hb; have gN := am (hbox); have zN := am ((by rw [hg]; exact (ai (hz1 HB.out gZ.out)) : w.heap.size ≤ fL)); have mU := am ((by rw [hg]; exact (ai (hz1 HB.out gZ.out)) : w.heap.size ≤ fL)); replace HB := am (aM (hz1 HB.out gZ.out) hb); have ja := am ((by rw [hg]; exact Nat.ne_of_lt (cY (g := cl) (o := .cells #[.int .i64 a0_0, .int .i64 a0_1, .int .i64 a0_2, .int .i64 a0_3, .string a0_4, .float .f64 cO] 51 (0, 0)) (kz bJ.out)) : cl ≠ fL)); have jI := am ((by rw [hg]; exact Nat.ne_of_gt (cY (g := cl) (o := .cells #[.int .i64 a0_0, .int .i64 a0_1, .int .i64 a0_2, .int .i64 a0_3, .string a0_4, .float .f64 cO] 51 (0, 0)) (kz bJ.out)) : fL ≠ cl)); replace bJ := am (aX (g := cl) (o := .cells #[.int .i64 a0_0, .int .i64 a0_1, .int .i64 a0_2, .int .i64 a0_3, .string a0_4, .float .f64 cO] 51 (0, 0)) (kz bJ.out) hb); clear hb hbox hg; have hnb34 := jI.out; have hnc34 := ja.out; have SL : w33.cell? ⟨fL, 0, none⟩ = some (.int .i64 0) := (af gN.out 0).trans rfl; have SM : w33.cell? ⟨fL, 1, none⟩ = some (.int .i64 0) := (af gN.out 1).trans rfl; have SN := aj gN.out 0; have SP := aj gN.out 1))
  go_ret
  exact ⟨ez, by repeat (first | (with_reducible first | exact HB.out | apply aH | apply aG | apply bw | refine bM ?_ gZ.out | refine bM ?_ mU.out) | exact HB.out)⟩
def iH.one (m : S51) : Option Bool := jH.f m.f0.f0 m.f0.f1 m.f1 m.f2 m.f3 m.f4
def iH.any : List S51 → Option Bool
  | [] => some false
  | m :: t => (iH.one m).bind fun b => if b then iH.any t else some true
def dV.f (l0 : List (S51)) : Option Bool := iH.any l0
set_option maxHeartbeats 8000000 in
set_option maxRecDepth 100000 in
theorem iH.lit (a0 a1 a2 a3 : Int) (a4 : ByteArray) (bv : Nat) (a5 : Int) (r : Bool) (w : World) (bq : FB bv a5) (h : jH.f a0 a1 a2 a3 a4 a5 = some r) :
    Calls Tryz.prog 92 #[.agg #[.int .i64 a0, .int .i64 a1, .int .i64 a2, .int .i64 a3, .string a4, .float .f64 bv]] w fun e w' => e = .returned (.bool (!r)) ∧ Below w.heap.size w w' := by
 have hu := Tryz.underlying51; have HB := Aside0.mk (Below.refl w.heap.size w); go_enter Tryz.func92, Tryz.ntmps92
 go_wp2_with (first | (go_at_call 65; (with_reducible refine (jH.calls a0 a1 a2 a3 a4 bv a5 r _ bq h).mono ?_); rintro e' w1 ⟨rfl, hb1⟩))
 go_ret
 exact ⟨rfl, ij ((Below.refl _ _).alloc (Nat.le_refl _) _) (by simp) hb1⟩
theorem iH.G1 (l : List S51) (i : Nat) (h : i < l.length) : iH.any (l.drop i) = (iH.one l[i]).bind fun b => if b then iH.any (l.drop (i + 1)) else some true := by
 rw [List.drop_eq_getElem_cons h]
 rfl
set_option maxHeartbeats 8000000 in
set_option maxRecDepth 100000 in
theorem iH.index (A0 : Option Addr) (c0 : Nat) (l0 : List (S51)) (b : Bool) (w : World) (hr0 : Kd.C k51 w A0 l0.length l0) (hc0 : l0.length ≤ c0) (h : iH.any l0 = some b) :
    Calls Tryz.prog 153 #[.slice A0 l0.length c0, .func (.func 92) #[] #[]] w fun e w' => ∃ r : Int, e = .returned (.int .i64 r) ∧ Aside0 (decide (r ≥ 0) = b) ∧ Below w.heap.size w w' := by
 have hlen : (l0.length : Int) ≤ 9223372036854775807 := by have := hr0.2.1; omega
 have HR := Aside0.mk hr0; clear hr0; have H := Aside0.mk h; clear h; have hu := Tryz.underlying51; go_enter Tryz.func153, Tryz.ntmps153
 go_wp2
 go_loopg [8] (l0.length + 1) (fun kq v8 w' => ∃ (i : Int), v8 = .int .i64 i ∧ Aside0 (0 ≤ i ∧ i ≤ l0.length ∧ l0.length - i < kq) ∧ Aside0 (iH.any (l0.drop i.toNat) = some b) ∧ Aside0 (Below w.heap.size w w'))
 case atStart => exact ⟨0, by first | rfl | simp, ⟨by omega⟩, H, ⟨Below.refl _ _⟩⟩
 case round =>
  obtain ⟨i, rfl, HK, HA, HB⟩ := hrel
  by_cases hi : i < (l0.length : Int)
  ·
   cases gk with
   | zero => have := HK.out; exact absurd this (by omega)
   | succ k1 =>
    have hk := HK.out; have d1 : decide (i < (l0.length : Int)) = true := decide_eq_true hi; have p1 : 0 ≤ i := hk.1; have q1 : i < (l0.length : Int) := hi; obtain ⟨ad, bv, e1, hx0, hx1, hx2, hx3, hx4, hx5, bq⟩ := kF HR.out i p1 q1; subst e1; replace hx0 := dI HB.out hx0; replace hx1 := dI HB.out hx1; replace hx2 := dI HB.out hx2; replace hx3 := dI HB.out hx3; replace hx4 := dI HB.out hx4; replace hx5 := dI HB.out hx5; have hany := HA.out; rw [iH.G1 l0 i.toNat (by omega)] at hany
    have hrd : aa l0 i = l0[i.toNat]'(by omega) := by
     unfold aa; rw [List.getD_eq_getElem?_getD, List.getElem?_eq_getElem (by omega)]
     rfl
    rw [← hrd] at hany; obtain ⟨o, ho, hany⟩ := Option.bind_eq_some_iff.1 hany; unfold iH.one at ho; have HO := Aside0.mk ho; have HANY := Aside0.mk hany; have rw1 : IntKind.i64.wrap (i + 1) = i + 1 := by rw [IntKind.wrap_i64]; omega
    clear ho hany hrd; replace p1 := eq_true p1; replace q1 := eq_true q1; have BQ := Aside0.mk bq; clear bq
    cases o
    ·
     go_wp2_with (first | (go_at_call 92; (with_reducible refine (iH.lit _ _ _ _ _ _ _ _ _ BQ.out HO.out).mono ?_); rintro e' w1 ⟨rfl, hb1⟩))
     go_ret
     have hany := HANY.out; obtain rfl : b = true := by simpa using hany.symm
     exact ⟨_, rfl, ⟨decide_eq_true hk.1⟩, ij HB.out HB.out.size hb1⟩
    ·
     go_wp2_with (first | (go_at_call 92; (with_reducible refine (iH.lit _ _ _ _ _ _ _ _ _ BQ.out HO.out).mono ?_); rintro e' w1 ⟨rfl, hb1⟩))
     go_roundg k1
     case measure => omega
     case rel =>
      refine ⟨i + 1, by first | rfl | simp [goInt, rw1], ⟨by omega⟩, ⟨?_⟩, ⟨ij HB.out HB.out.size hb1⟩⟩; have hany := HANY.out
      (first | rw [if_pos rfl] at hany | rw [if_pos trivial] at hany)
      rw [show (i + 1).toNat = i.toNat + 1 by omega]; exact hany
  ·
   have hk := HK.out; have d1 : decide (i < (l0.length : Int)) = false := decide_eq_false hi
   go_wp2
   go_ret
   have hany := HA.out; rw [List.drop_eq_nil_of_le (by omega)] at hany; obtain rfl : b = false := by simpa [iH.any] using hany.symm
   exact ⟨_, rfl, ⟨rfl⟩, HB.out⟩
set_option maxHeartbeats 8000000 in
set_option maxRecDepth 100000 in
theorem dV.calls (A0 : Option Addr) (c0 : Nat) (l0 : List (S51)) (b : Bool) (w : World) (hr0 : Kd.C k51 w A0 l0.length l0) (hc0 : l0.length ≤ c0) (h : dV.f l0 = some b) :
    Calls Tryz.prog 91 #[.slice A0 l0.length c0, .func (.func 92) #[] #[]] w fun e w' => e = .returned (.bool b) ∧ Below w.heap.size w w' := by
 have h : iH.any l0 = some b := h; go_enter Tryz.func91, Tryz.ntmps91
 go_wp2_with (first | (go_at_call 153; (with_reducible refine (iH.index _ _ _ _ _ hr0 hc0 h).mono ?_); rintro e' w1 ⟨r, rfl, hd, hb1⟩))
 go_ret
 exact ⟨by rw [← hd.out]; rfl, hb1⟩
end Go.Proofs.YtfgnjndfnijjoaaGreat.Print
end
section
namespace Go.Proofs.YtfgnjndfnijjoaaGreat.Print
open Go.RowKit Go.Proofs.YtfgnjndfnijjoaaGreatW.PrintWords Go.Proofs.YtfgnjndfnijjoaaGreatW.PrintLast Go.Proofs.YtfgnjndfnijjoaaGreatW.PrintMore
attribute [local go_sem] dJ dK eF eG cZ dc dL dM
attribute [local go_sem] bH
set_option linter.unusedVariables false
set_option linter.unusedSimpArgs false
def cm.l0 : Nat → List (S51) → Int → Option (Bool)
 | 0, _, _ => none
 | k + 1, x0, x3 => if x3 < (x0.length : Int) then (if 0 ≤ (wrap64 (x3 - 1)) then (if (wrap64 (x3 - 1)) < (x0.length : Int) then (if 0 ≤ x3 then ((kI.f ((aa x0 (wrap64 (x3 - 1))).f0.f0) ((aa x0 (wrap64 (x3 - 1))).f0.f1) ((aa x0 x3).f0.f0) ((aa x0 x3).f0.f1)).bind fun t141 => (if t141 = true then (cm.l0 k x0 (wrap64 (x3 + 1))) else (some false))) else (none)) else (none)) else (none)) else (if (x0.length : Int) ≤ 2000 then ((dV.f x0).bind fun t142 => (some (!t142))) else (some false))
def cm.f (k : Nat) (l0 : List (S51)) : Option (Bool) := cm.l0 k l0 1
theorem cm.cF : ∀ k, (∀ y0 y1, LeO (cm.l0 k y0 y1) (cm.l0 (k + 1) y0 y1))
 | 0 => fun _ _ r h => by simp [cm.l0] at h
 | k + 1 => by
  have ih0 := cm.cF k
  ·
   intro y0 y1; unfold cm.l0
   repeat' first
   | (with_reducible exact ih0 _ _)
   | (with_reducible exact LeO.refl _)
   | (with_reducible exact LeO.none _)
   | (with_reducible refine LeO.ite ?_ ?_)
   | (with_reducible refine LeO.bind ?_ (fun _ => ?_))
theorem cm.mono : ∀ a0 k, LeO (cm.f k a0) (cm.f (k + 1) a0) := by
 intro a0 k; have ih0 := cm.cF k; unfold cm.f
 repeat' first
  | (with_reducible exact ih0 _ _)
  | (with_reducible exact LeO.refl _)
  | (with_reducible exact LeO.none _)
  | (with_reducible refine LeO.ite ?_ ?_)
  | (with_reducible refine LeO.bind ?_ (fun _ => ?_))
def cm.T4 : Bool × List (List Nat × List Nat) := (true, [([], []), ([], []), ([1], [1]), ([0, 2], [0, 2]), ([3], [3]), ([4], [4]), ([], []), ([], []), ([6, 7], [6, 7]), ([8], [8]), ([9], [9]), ([5, 10], [5, 10]), ([11], [11])])
def cm.B4 : List Nat := [0, 0, 2, 7, 15, 31, 0, 0, 192, 448, 960, 2047, 4095]
theorem cm.Mk : gU .any (opsOf Tryz.f31 4) = cm.T4 := by kernel_rfl
theorem cm.Jl : iT cm.T4.2 cm.B4 = true := by kernel_rfl
set_option maxHeartbeats 8000000 in
set_option maxRecDepth 100000 in
theorem cm.calls (k : Nat) (A0 : Option Addr) (c0 : Nat) (l0 : List (S51)) (r : Bool) (w : World) (hr0 : Kd.C k51 w A0 l0.length l0) (hc0 : l0.length ≤ c0) (h : cm.f k l0 = some r) :
 Calls Tryz.prog 31 #[.slice A0 l0.length c0] w fun e w' => e = .returned (.bool r) ∧ Below w.heap.size w w' := by
 have hu48 := Tryz.underlying48; have HR0 := Aside0.mk hr0; have HC0 := Aside0.mk hc0; clear hr0 hc0; have HB := Aside0.mk (Below.refl w.heap.size w); have H := h; unfold cm.f at H; clear h; have H' := Aside0.mk H; clear H; go_enter Tryz.func31, Tryz.ntmps31
 go_wp2
 go_loopg [3] k (fun kq v3 w' => ∃ (bA : Int), v3 = .int .i64 bA ∧ Aside0 (cm.l0 kq l0 bA = some r) ∧ Aside0 (kq ≤ k) ∧ Aside0 (Below w.heap.size w w'))
 case atStart => exact ⟨(1), sz, H', ⟨Nat.le_refl _⟩, ⟨hz HB.out⟩⟩
 case round =>
  clear H'; obtain ⟨bA, rfl, HA, HK1, HB⟩ := hrel
  cases gk with
  | zero => exact absurd HA.out (by simp [cm.l0])
  | succ k1 =>
   have H := HA.out; clear HA; simp only [cm.l0] at H
   by_cases c2 : bA < (l0.length : Int)
   ·
    rw [if_pos c2] at H; have jB := decide_eq_true c2; clear c2; obtain ⟨ji3, vq⟩ : ∃ j_ : Int, (wrap64 (bA - 1)) = j_ := ⟨_, rfl⟩
    (first | rw [vq] at H | simp only [vq] at H)
    have hji3w : (IntKind.i64.wrap (bA - 1)) = ji3 := (bN _).trans vq; obtain ⟨c4, H⟩ := ifz H; have iC : decide (0 ≤ (ji3)) = true := decide_eq_true c4; clear c4; obtain ⟨c5, H⟩ := ifz H; have fk : decide ((ji3) < (l0.length : Int)) = true := decide_eq_true c5; clear c5; obtain ⟨c6, H⟩ := ifz H; have oC : decide (0 ≤ bA) = true := decide_eq_true c6; clear c6; obtain ⟨t141, A7, H⟩ := bnz H; (try dsimp only at H)
    by_cases c8 : t141 = true
    ·
     subst c8; rw [if_pos rfl] at H; have H' := Aside0.mk H; clear H
     try go_wp2
     replace HB := am (bw HB.out); have p139 : 0 ≤ ((ji3) : Int) := of_decide_eq_true az; have q139 : (ji3) < (l0.length : Int) := of_decide_eq_true az; obtain ⟨eC, xW, e139, lq, lu, lA, lB, lC, lD, KV⟩ := kF HR0.out (ji3) p139 q139; have qx := lD; have qy := lC; have qz := lB; have qA := lA; have qB := lu; have qC := lq
     cases e139
     replace lq := cz HB.out lq; replace lu := cz HB.out lu; replace lA := cz HB.out lA; replace lB := cz HB.out lB; replace lC := cz HB.out lC; replace lD := cz HB.out lD; replace p139 := eq_true p139; replace q139 := eq_true q139; have p140 : 0 ≤ (bA : Int) := of_decide_eq_true az; have q140 : bA < (l0.length : Int) := of_decide_eq_true az; obtain ⟨DW, xX, e140, lF, lG, lH, lI, lJ, lK, KW⟩ := kF HR0.out bA p140 q140; have qD := lK; have qE := lJ; have qF := lI; have qG := lH; have qH := lG; have qI := lF; obtain rfl : eC = DW := (by injection e140); replace lF := cz HB.out lF; replace lG := cz HB.out lG; replace lH := cz HB.out lH; replace lI := cz HB.out lI; replace lJ := cz HB.out lJ; replace lK := cz HB.out lK; replace p140 := eq_true p140; replace q140 := eq_true q140; refine iZ (n := 13) (S := fun w' => w'.cell? (eC.add (((ji3)).toNat * 6)) = some (.int .i64 ((aa l0 (ji3)).f0.f0)) ∧ w'.cell? ⟨(eC.add (((ji3)).toNat * 6)).block, (eC.add (((ji3)).toNat * 6)).off + 1, none⟩ = some (.int .i64 ((aa l0 (ji3)).f0.f1)) ∧ w'.cell? ⟨(eC.add (((ji3)).toNat * 6)).block, (eC.add (((ji3)).toNat * 6)).off + 2, none⟩ = some (.int .i64 ((aa l0 (ji3)).f1)) ∧ w'.cell? ⟨(eC.add (((ji3)).toNat * 6)).block, (eC.add (((ji3)).toNat * 6)).off + 3, none⟩ = some (.int .i64 ((aa l0 (ji3)).f2)) ∧ w'.cell? ⟨(eC.add (((ji3)).toNat * 6)).block, (eC.add (((ji3)).toNat * 6)).off + 4, none⟩ = some (.string ((aa l0 (ji3)).f3)) ∧ w'.cell? ⟨(eC.add (((ji3)).toNat * 6)).block, (eC.add (((ji3)).toNat * 6)).off + 5, none⟩ = some (.float .f64 xW) ∧ w'.cell? (eC.add ((bA).toNat * 6)) = some (.int .i64 ((aa l0 bA).f0.f0)) ∧ w'.cell? ⟨(eC.add ((bA).toNat * 6)).block, (eC.add ((bA).toNat * 6)).off + 1, none⟩ = some (.int .i64 ((aa l0 bA).f0.f1)) ∧ w'.cell? ⟨(eC.add ((bA).toNat * 6)).block, (eC.add ((bA).toNat * 6)).off + 2, none⟩ = some (.int .i64 ((aa l0 bA).f1)) ∧ w'.cell? ⟨(eC.add ((bA).toNat * 6)).block, (eC.add ((bA).toNat * 6)).off + 3, none⟩ = some (.int .i64 ((aa l0 bA).f2)) ∧ w'.cell? ⟨(eC.add ((bA).toNat * 6)).block, (eC.add ((bA).toNat * 6)).off + 4, none⟩ = some (.string ((aa l0 bA).f3)) ∧ w'.cell? ⟨(eC.add ((bA).toNat * 6)).block, (eC.add ((bA).toNat * 6)).off + 5, none⟩ = some (.float .f64 xX)) (ds := []) (dn 13 0) (by kernel_rfl) rfl (by kernel_rfl) ⟨(cz HB.out qC), (cz HB.out qB), (cz HB.out qA), (cz HB.out qz), (cz HB.out qy), (cz HB.out qx), (cz HB.out qI), (cz HB.out qH), (cz HB.out qG), (cz HB.out qF), (cz HB.out qE), (cz HB.out qD)⟩ (fun hHeld => ?_); refine gR cm.Mk cm.Jl (fun HT_ HW_ => ?_); generalize wr.drew = w9 at HB lq lu lA lB lC lD lF lG lH lI lJ lK hHeld ⊢; refine pz 0 10 (dn 13 1) rfl rfl HT_ ?_; refine pz 1 11 (dn 13 3) rfl rfl HT_ ?_; refine pz 2 12 (dn 13 7) rfl rfl HT_ ?_; refine pz 3 13 (dn 13 15) rfl rfl HT_ ?_; refine pz 4 14 (dn 13 31) rfl rfl HT_ ?_; refine pz 6 16 (dn 13 95) rfl rfl HT_ ?_; refine pz 7 17 (dn 13 223) rfl rfl HT_ ?_; refine pz 8 18 (dn 13 479) rfl rfl HT_ ?_; refine pz 9 19 (dn 13 991) rfl rfl HT_ ?_; refine fY (i := 5) (N := some 15) (v := ?_) (a' := ?_) (dn 13 1023) rfl rfl (dN HT_.out HW_.out (by kernel_rfl)) (fun _ _ _ h => h) (Or.inl ⟨by rfl, ?_⟩) hHeld ?_ ?_; rotate_left
     ·
      rintro w' ⟨s0, s1, s2, s3, s4, s5, s6, s7, s8, s9, s10, s11⟩
      go_simp
      with_reducible rfl
     rotate_left
     ·
      simp only [Act.put, List.setIfInBounds_toArray, List.set_cons_zero, List.set_cons_succ, bN, bR]
      rfl
     refine fY (i := 10) (N := some 20) (v := ?_) (a' := ?_) (dn 13 2047) rfl rfl (dN HT_.out HW_.out (by kernel_rfl)) (fun _ _ _ h => h) (Or.inl ⟨by rfl, ?_⟩) hHeld ?_ ?_; rotate_left
     ·
      rintro w' ⟨s0, s1, s2, s3, s4, s5, s6, s7, s8, s9, s10, s11⟩
      go_simp
      with_reducible rfl
     rotate_left
     ·
      simp only [Act.put, List.setIfInBounds_toArray, List.set_cons_zero, List.set_cons_succ, bN, bR]
      rfl
     refine iB (i := 11) (N := some 21) (dn 13 4095) rfl rfl (fP HT_.out (by kernel_rfl)) (by decide) (fun K hK => ?_); refine mS Tryz.func89 (by kernel_rfl) rfl #[.agg #[.int .i64 ((aa l0 (ji3)).f0.f0), .int .i64 ((aa l0 (ji3)).f0.f1)], .agg #[.int .i64 ((aa l0 bA).f0.f0), .int .i64 ((aa l0 bA).f0.f1)]] (by rfl) rfl rfl (by (try simp only [List.map_toArray, List.map_cons, List.map_nil]); first | done | (simp only [vq]; rfl) | rfl | (simp only [List.length_drop, List.length_take]; rfl)) ?_
     with_reducible refine (kI.calls ((aa l0 (ji3)).f0.f0) ((aa l0 (ji3)).f0.f1) ((aa l0 bA).f0.f0) ((aa l0 bA).f0.f1) true _ A7.out).mono ?_
     rintro e w10 ⟨rfl, hb⟩; refine ⟨_, rfl, ?_⟩; replace HB := sb HB hb; (try clear hb); (try clear hb2); (try clear hk); (try clear hi); refine hK.out _ _ ⟨(cz HB.out qC), (cz HB.out qB), (cz HB.out qA), (cz HB.out qz), (cz HB.out qy), (cz HB.out qx), (cz HB.out qI), (cz HB.out qH), (cz HB.out qG), (cz HB.out qF), (cz HB.out qE), (cz HB.out qD)⟩ (fun hHeld => ?_); clear hK K; refine dH (a' := ?_) ?_ ?_; rotate_left
     ·
      show Act.put _ (some 21) _ = _; simp only [Act.put, List.setIfInBounds_toArray, List.set_cons_zero, List.set_cons_succ, bN, bR]
      rfl
     refine pz 12 22 (dn 13 8191) rfl rfl HT_ ?_; refine jF (iS HT_.out (by kernel_rfl)) ?_
     try go_wp2
     go_roundg k1
     case measure => have := HK1.out; omega
     case rel => exact ⟨(wrap64 (bA + 1)), sz, H', ⟨by have := HK1.out; omega⟩, ⟨hz HB.out⟩⟩
    ·
     replace c8 := Bool.eq_false_iff.mpr c8; subst c8; rw [if_neg (show ¬ (false = true) by decide)] at H; obtain rfl := Option.some.inj H
     try go_wp2
     replace HB := am (bw HB.out); have p139 : 0 ≤ ((ji3) : Int) := of_decide_eq_true az; have q139 : (ji3) < (l0.length : Int) := of_decide_eq_true az; obtain ⟨eC, xW, e139, lq, lu, lA, lB, lC, lD, KV⟩ := kF HR0.out (ji3) p139 q139; have qx := lD; have qy := lC; have qz := lB; have qA := lA; have qB := lu; have qC := lq
     cases e139
     replace lq := cz HB.out lq; replace lu := cz HB.out lu; replace lA := cz HB.out lA; replace lB := cz HB.out lB; replace lC := cz HB.out lC; replace lD := cz HB.out lD; replace p139 := eq_true p139; replace q139 := eq_true q139; have p140 : 0 ≤ (bA : Int) := of_decide_eq_true az; have q140 : bA < (l0.length : Int) := of_decide_eq_true az; obtain ⟨DW, xX, e140, lF, lG, lH, lI, lJ, lK, KW⟩ := kF HR0.out bA p140 q140; have qD := lK; have qE := lJ; have qF := lI; have qG := lH; have qH := lG; have qI := lF; obtain rfl : eC = DW := (by injection e140); replace lF := cz HB.out lF; replace lG := cz HB.out lG; replace lH := cz HB.out lH; replace lI := cz HB.out lI; replace lJ := cz HB.out lJ; replace lK := cz HB.out lK; replace p140 := eq_true p140; replace q140 := eq_true q140; refine iZ (n := 13) (S := fun w' => w'.cell? (eC.add (((ji3)).toNat * 6)) = some (.int .i64 ((aa l0 (ji3)).f0.f0)) ∧ w'.cell? ⟨(eC.add (((ji3)).toNat * 6)).block, (eC.add (((ji3)).toNat * 6)).off + 1, none⟩ = some (.int .i64 ((aa l0 (ji3)).f0.f1)) ∧ w'.cell? ⟨(eC.add (((ji3)).toNat * 6)).block, (eC.add (((ji3)).toNat * 6)).off + 2, none⟩ = some (.int .i64 ((aa l0 (ji3)).f1)) ∧ w'.cell? ⟨(eC.add (((ji3)).toNat * 6)).block, (eC.add (((ji3)).toNat * 6)).off + 3, none⟩ = some (.int .i64 ((aa l0 (ji3)).f2)) ∧ w'.cell? ⟨(eC.add (((ji3)).toNat * 6)).block, (eC.add (((ji3)).toNat * 6)).off + 4, none⟩ = some (.string ((aa l0 (ji3)).f3)) ∧ w'.cell? ⟨(eC.add (((ji3)).toNat * 6)).block, (eC.add (((ji3)).toNat * 6)).off + 5, none⟩ = some (.float .f64 xW) ∧ w'.cell? (eC.add ((bA).toNat * 6)) = some (.int .i64 ((aa l0 bA).f0.f0)) ∧ w'.cell? ⟨(eC.add ((bA).toNat * 6)).block, (eC.add ((bA).toNat * 6)).off + 1, none⟩ = some (.int .i64 ((aa l0 bA).f0.f1)) ∧ w'.cell? ⟨(eC.add ((bA).toNat * 6)).block, (eC.add ((bA).toNat * 6)).off + 2, none⟩ = some (.int .i64 ((aa l0 bA).f1)) ∧ w'.cell? ⟨(eC.add ((bA).toNat * 6)).block, (eC.add ((bA).toNat * 6)).off + 3, none⟩ = some (.int .i64 ((aa l0 bA).f2)) ∧ w'.cell? ⟨(eC.add ((bA).toNat * 6)).block, (eC.add ((bA).toNat * 6)).off + 4, none⟩ = some (.string ((aa l0 bA).f3)) ∧ w'.cell? ⟨(eC.add ((bA).toNat * 6)).block, (eC.add ((bA).toNat * 6)).off + 5, none⟩ = some (.float .f64 xX)) (ds := []) (dn 13 0) (by kernel_rfl) rfl (by kernel_rfl) ⟨(cz HB.out qC), (cz HB.out qB), (cz HB.out qA), (cz HB.out qz), (cz HB.out qy), (cz HB.out qx), (cz HB.out qI), (cz HB.out qH), (cz HB.out qG), (cz HB.out qF), (cz HB.out qE), (cz HB.out qD)⟩ (fun hHeld => ?_); refine gR cm.Mk cm.Jl (fun HT_ HW_ => ?_); generalize wr.drew = w11 at HB lq lu lA lB lC lD lF lG lH lI lJ lK hHeld ⊢; refine pz 0 10 (dn 13 1) rfl rfl HT_ ?_; refine pz 1 11 (dn 13 3) rfl rfl HT_ ?_; refine pz 2 12 (dn 13 7) rfl rfl HT_ ?_; refine pz 3 13 (dn 13 15) rfl rfl HT_ ?_; refine pz 4 14 (dn 13 31) rfl rfl HT_ ?_; refine pz 6 16 (dn 13 95) rfl rfl HT_ ?_; refine pz 7 17 (dn 13 223) rfl rfl HT_ ?_; refine pz 8 18 (dn 13 479) rfl rfl HT_ ?_; refine pz 9 19 (dn 13 991) rfl rfl HT_ ?_; refine fY (i := 5) (N := some 15) (v := ?_) (a' := ?_) (dn 13 1023) rfl rfl (dN HT_.out HW_.out (by kernel_rfl)) (fun _ _ _ h => h) (Or.inl ⟨by rfl, ?_⟩) hHeld ?_ ?_; rotate_left
     ·
      rintro w' ⟨s0, s1, s2, s3, s4, s5, s6, s7, s8, s9, s10, s11⟩
      go_simp
      with_reducible rfl
     rotate_left
     ·
      simp only [Act.put, List.setIfInBounds_toArray, List.set_cons_zero, List.set_cons_succ, bN, bR]
      rfl
     refine fY (i := 10) (N := some 20) (v := ?_) (a' := ?_) (dn 13 2047) rfl rfl (dN HT_.out HW_.out (by kernel_rfl)) (fun _ _ _ h => h) (Or.inl ⟨by rfl, ?_⟩) hHeld ?_ ?_; rotate_left
     ·
      rintro w' ⟨s0, s1, s2, s3, s4, s5, s6, s7, s8, s9, s10, s11⟩
      go_simp
      with_reducible rfl
     rotate_left
     ·
      simp only [Act.put, List.setIfInBounds_toArray, List.set_cons_zero, List.set_cons_succ, bN, bR]
      rfl
     refine iB (i := 11) (N := some 21) (dn 13 4095) rfl rfl (fP HT_.out (by kernel_rfl)) (by decide) (fun K hK => ?_); refine mS Tryz.func89 (by kernel_rfl) rfl #[.agg #[.int .i64 ((aa l0 (ji3)).f0.f0), .int .i64 ((aa l0 (ji3)).f0.f1)], .agg #[.int .i64 ((aa l0 bA).f0.f0), .int .i64 ((aa l0 bA).f0.f1)]] (by rfl) rfl rfl (by (try simp only [List.map_toArray, List.map_cons, List.map_nil]); first | done | (simp only [vq]; rfl) | rfl | (simp only [List.length_drop, List.length_take]; rfl)) ?_
     with_reducible refine (kI.calls ((aa l0 (ji3)).f0.f0) ((aa l0 (ji3)).f0.f1) ((aa l0 bA).f0.f0) ((aa l0 bA).f0.f1) false _ A7.out).mono ?_
     rintro e w12 ⟨rfl, hb⟩; refine ⟨_, rfl, ?_⟩; replace HB := sb HB hb; (try clear hb); (try clear hb2); (try clear hk); (try clear hi); refine hK.out _ _ ⟨(cz HB.out qC), (cz HB.out qB), (cz HB.out qA), (cz HB.out qz), (cz HB.out qy), (cz HB.out qx), (cz HB.out qI), (cz HB.out qH), (cz HB.out qG), (cz HB.out qF), (cz HB.out qE), (cz HB.out qD)⟩ (fun hHeld => ?_); clear hK K; refine dH (a' := ?_) ?_ ?_; rotate_left
     ·
      show Act.put _ (some 21) _ = _; simp only [Act.put, List.setIfInBounds_toArray, List.set_cons_zero, List.set_cons_succ, bN, bR]
      rfl
     refine pz 12 22 (dn 13 8191) rfl rfl HT_ ?_; refine jF (iS HT_.out (by kernel_rfl)) ?_
     try go_wp2
     go_ret
     (try simp only [vq]); exact ⟨by first | rfl | (simp [gX, gY] <;> rfl) | (simp only [← vq]; first | rfl | (simp [gX, gY] <;> rfl)) | (simp [*, gX, gY] <;> rfl), hz HB.out⟩
   ·
    rw [if_neg c2] at H; have jB := decide_eq_false c2; clear c2
    by_cases c13 : (l0.length : Int) ≤ 2000
    ·
     rw [if_pos c13] at H; have wq := decide_eq_true c13; have wu : decide (l0.length ≤ 2000) = true := decide_eq_true (by omega); clear c13; obtain ⟨t142, A14, H⟩ := bnz H; (try dsimp only at H); obtain rfl := Option.some.inj H
     go_wp2_with (first | (go_at_call 91; (with_reducible refine (dV.calls _ _ l0  t142 _ ?side1 ?side2 A14.out).mono ?_); (case side1 => repeat (first | exact (Kd.fc HR0.out HB.out) | (with_reducible refine Kd.bO ?_ _) | (with_reducible refine Kd.bQ ?_ _) | (with_reducible refine Kd.bZ ?_))); (case side2 => exact HC0.out); rintro e w15 ⟨rfl, hb⟩; replace HB := sb HB hb; (try clear hb); (try clear hb2); (try clear hk); (try clear hi)))
     go_ret
     exact ⟨ez, hz HB.out⟩
    ·
     rw [if_neg c13] at H; have wq := decide_eq_false c13; have wu : decide (l0.length ≤ 2000) = false := decide_eq_false (by omega); clear c13; obtain rfl := Option.some.inj H
     go_wp2
     go_ret
     exact ⟨ez, hz HB.out⟩
def mV (l : List Int) (j : Nat) : Int := wrap64 (l.getD j 0 - if j = 0 then 0 else l.getD (j - 1) 0)
def kQ (n : Nat) : List (Fin n) := List.finRange n
theorem wz (n k : Nat) (h : k < n) : (kQ n).take (k + 1) = (kQ n).take k ++ [⟨k, h⟩] := by
 have hl : k < (kQ n).length := by simp [kQ]; exact h
 rw [List.take_succ_eq_append_getElem hl]
 simp [kQ]
def vt (n : Nat) (A : Option Addr) (W W' : World) : Prop := 0 < n → ∀ ad, A = some ad → W'.heap[ad.block]? = W.heap[ad.block]?
theorem FW {n : Nat} {A : Option Addr} {X Y Z : World} (h : vt n A X Y) (k : vt n A Y Z) : vt n A X Z := fun hn ad e => (k hn ad e).trans (h hn ad e)
theorem Ml {n : Nat} {A : Option Addr} {w : World} (h1 : 0 < n → ∀ ad, A = some ad → ad.block < w.heap.size) (W : World) (l : Nat) (o o' : Obj) (hl : w.heap.size ≤ l) (h : W.heap[l]? = some o) (_ : o.isCells = false) (_ : o.isWalk = false) : vt n A W (W.putObj l o') :=
  fun hn ad e => by
    have hlt := (Array.getElem?_eq_some_iff.1 h).1
    have := h1 hn ad e
    exact (grownBy_putObj' W l o').block ad.block (by omega) (fun e => by cases e; omega)
theorem KX {A B : World} {a : Addr} (h : B.heap[a.block]? = A.heap[a.block]?) : B.cell? a = A.cell? a := by
 unfold World.cell?; simp only [h]
theorem Bd (a : Addr) (k : Nat) : (a.add k).block = a.block := by
 unfold Addr.add; (try split) <;> rfl
theorem KY {w : World} {A : Option Addr} {n : Nat} {l : List Int} (h : Kd.C (Kd.int .i64) w A n l) (j : Nat) (hj : j < n) : ∃ ad, A = some ad ∧ w.cell? (ad.add j) = some (.int .i64 (l.getD j 0)) := by
 obtain ⟨ad, c, e, _, hK, hc0⟩ := Kd.pI h (0 : Int) (j : Int) (by omega) (by omega); have hc : ∀ i u, c[i]? = some u → w.cell? (ad.add ((j : Int).toNat * 1 + i)) = some u := hc0; obtain rfl := hK; refine ⟨ad, e, ?_⟩; have := hc 0 _ rfl
 simpa using this
section
attribute [local go_sem] Oper.semAt_some
set_option maxRecDepth 100000 in
set_option maxHeartbeats 4000000 in
theorem DX (F : Fence) (n : Nat) (h8 : F.fn 154) (hro : F.round = none) (hn : 1 ≤ n) (l Bs len cap : Nat) (A : Option Addr) (xs : List Int) (hreach : len ≤ 1000000000) (J Jx : List (Fin len) → World → Prop)
    (hY : ∀ pre x W, J pre W → pre.length < len → YieldAt F (n - 1) Tryz.prog l #[.int .i64 (mV xs x.val)] W fun e W' =>
      (e = .returned (.bool true) ∧ J (pre ++ [x]) W' ∧ vt len A W W') ∨ (e = .returned (.bool false) ∧ Jx (pre ++ [x]) W'))
    (W : World) (hBs : W.cell? ⟨Bs, 0, none⟩ = some (.slice A len cap)) (hc : ∀ j, j < len → ∃ ad, A = some ad ∧ W.cell? (ad.add j) = some (.int .i64 (xs.getD j 0))) (h0 : J [] W) :
    CallsIn F n Tryz.prog 154 #[.func (.yield l) #[] #[], .pointer (some ⟨Bs, 0, none⟩)] W fun e W' => (∃ v, e = .returned v) ∧
      ((∃ ys, ys = kQ len ∧ J ys W') ∨ (∃ pre, (∃ k, k ≤ len ∧ pre = (kQ len).take k) ∧ Jx pre W')) := by
  have hu1 := Tryz.underlying57
  refine callsIn_of_wp Tryz.func154 rfl h8 ?_ hro
  simp only [Tryz.ntmps154, List.size_toArray, List.length_cons, List.length_nil, Nat.reduceAdd, Nat.reduceSub, Array.replicate_succ, Array.replicate_zero, List.push_toArray, List.append_toArray, List.nil_append, List.cons_append]
  gi_wp2
  gi_loopw [3, 8] (fun last i wr => ∃ k : Nat, k ≤ len ∧ i = .int .i64 (k : Int) ∧ last = .int .i64 (if k = 0 then 0 else xs.getD (k - 1) 0) ∧ J ((kQ len).take k) wr ∧ vt len A W wr)
    (fun _ i _ => ((len : Int) - intOf i).toNat)
  case atStart => exact ⟨0, Nat.zero_le _, rfl, rfl, by simpa using h0, fun _ _ _ => rfl⟩
  case round =>
    obtain ⟨k, hk, rfl, rfl, hJs, hnx⟩ := hrel
    by_cases hlt : k < len
    · obtain ⟨fn, tmps, assign, body, hy, hR⟩ := hY _ ⟨k, hlt⟩ wr hJs (by simp [kQ]; omega)
      dsimp only at hy
      obtain ⟨ad, hA, hcx0⟩ := hc k hlt
      subst hA
      have hcx : wr.cell? (ad.add k) = some (.int .i64 (xs.getD k 0)) := (KX (a := ad.add k) (by rw [Bd]; exact hnx (by omega) ad rfl)).trans hcx0
      obtain ⟨lst, hlst⟩ : ∃ z : Int, (if k = 0 then (0 : Int) else xs.getD (k - 1) 0) = z := ⟨_, rfl⟩
      obtain ⟨cur, hcur⟩ : ∃ z : Int, xs.getD k 0 = z := ⟨_, rfl⟩
      have hdl : mV xs k = wrap64 (cur - lst) := by unfold mV; rw [hlst, hcur]
      rw [hdl] at hy
      rw [hcur] at hcx
      rw [hlst]
      have HL := Aside0.mk hlst
      have HC := Aside0.mk hcur
      clear hlst hcur hdl hcx0
      gi_wp2
      refine hR.mono ?_
      rintro e W3 (⟨rfl, hJ3, hk3⟩ | ⟨rfl, hJx3⟩)
      · gi_wp2
        go_roundw
        case rel => exact ⟨k + 1, by omega, by first | rfl | simp | (simp [wrap64]; omega), by rw [if_neg (by omega), Nat.add_sub_cancel, HC.out], by rw [wz _ _ hlt]; exact hJ3, FW hnx hk3⟩
        case measure => simp [intOf, wrap64] <;> omega
      · gi_wp2
        refine bodyPost_ret (results_none rfl _ _ _) rfl ?_
        exact ⟨⟨_, rfl⟩, .inr ⟨_, ⟨k + 1, by omega, (wz _ _ hlt).symm⟩, hJx3⟩⟩
    · obtain rfl : k = len := by omega
      obtain ⟨lst, hlst⟩ : ∃ z : Int, (if k = 0 then (0 : Int) else xs.getD (k - 1) 0) = z := ⟨_, rfl⟩
      rw [hlst]
      clear hlst
      gi_wp2
      go_end0
      rw [List.take_of_length_le (by simp [kQ])] at hJs
      first | exact ⟨⟨_, rfl⟩, .inl hJs⟩ | exact ⟨⟨_, rfl⟩, .inl ⟨_, rfl, hJs⟩⟩
set_option maxHeartbeats 1000000 in
theorem Oh (F : Fence) (n : Nat) (h6 : F.fn 93) (hro : F.round = none) (a : Option Addr) (len cap : Nat) (w : World) :
    CallsIn F n Tryz.prog 93 #[.slice a len cap] w fun e w' => e = .returned (.func (.func 154) #[] #[.pointer (some ⟨w.heap.size, 0, none⟩)]) ∧ w' = w.alloc (.cells #[.slice a len cap] 57) := by
 refine callsIn_of_wp Tryz.func93 rfl h6 ?_ hro; simp only [Tryz.ntmps93, List.size_toArray, List.length_cons, List.length_nil, Nat.reduceAdd, Nat.reduceSub, Array.replicate_succ, Array.replicate_zero, List.push_toArray, List.append_toArray, List.nil_append, List.cons_append]
 gi_wp2
 go_ret
 exact ⟨rfl, rfl⟩
theorem G3 (F : Fence) (n : Nat) (h8 : F.fn 154) (hro : F.round = none) (hn : 1 ≤ n) (Bs len cap : Nat) (A : Option Addr) (xs : List Int) (hreach : len ≤ 1000000000) (w : World) (hBs : Bs < w.heap.size)
    (hc : w.cell? ⟨Bs, 0, none⟩ = some (.slice A len cap)) (hI : ∀ j, j < len → ∃ ad, A = some ad ∧ w.cell? (ad.add j) = some (.int .i64 (xs.getD j 0))) :
    SeqStopsK F n Tryz.prog 154 #[.pointer (some ⟨Bs, 0, none⟩)] (fun x : Fin len => #[Value.int .i64 (mV xs x.val)]) (vt len A) (fun ys => ys = kQ len) (fun pre => ∃ k, k ≤ len ∧ pre = (kQ len).take k) len w := fun l J Jx W hW _ _ hY h0 =>
  DX F n h8 hro hn l Bs len cap A xs hreach J Jx hY W ((hW.cell (p := ⟨Bs, 0, none⟩) hBs).trans hc) (fun j hj => by
    obtain ⟨ad, e, hcell⟩ := hI j hj
    exact ⟨ad, e, (hW.cell (World.block_lt_of_cell? _ _ hcell)).trans hcell⟩) h0
end
def nH.f (a0 : Int) : Option (Int) := some (Go.bits .xor .u64 (IntKind.u64.wrap ((IntKind.u64.wrap (a0)) * 2)) (IntKind.u64.wrap (a0 / 9223372036854775808)))
set_option maxHeartbeats 8000000 in
set_option maxRecDepth 100000 in
theorem nH.calls (a0 : Int) (r : Int) (w : World) (h : nH.f a0 = some r) :
 Calls Tryz.prog 94 #[.int .i64 a0] w fun e w' => e = .returned (.int .u64 r) ∧ bP w w' := by
 have H := h; unfold nH.f at H; clear h; obtain rfl := Option.some.inj H; go_enter Tryz.func94, Tryz.ntmps94
 go_wp2
 go_ret
 exact ⟨by first | rfl | (simp; done) | (simp [*]; done), by repeat (first | exact bP.refl _ | apply bP.step)⟩
def aI.one (k : Nat) (d : Int) : Option ByteArray := (nH.f d).bind fun z => (bL.f k z).bind fun a => if a.size ≤ 1000 then some a else none
def aI.g (k : Nat) : List Int → ByteArray → Option ByteArray
  | [], acc => some acc
  | d :: ds, acc => (aI.one k d).bind fun a => aI.g k ds (acc ++ a)
def aI.f (k : Nat) (l0 : List Int) : Option ByteArray := if l0.length ≤ 1000000000 then aI.g k ((kQ l0.length).map fun j => mV l0 j.val) ByteArray.empty else none
theorem aI.G5 (k : Nat) (d : Int) : LeO (aI.one k d) (aI.one (k + 1) d) :=
  LeO.bind (LeO.refl _) fun z => LeO.bind (bL.mono _ _) fun a => LeO.refl _
theorem aI.mono : ∀ a0 k, LeO (aI.f k a0) (aI.f (k + 1) a0) := by
 have hg : ∀ (k : Nat) (l : List Int) (acc : ByteArray), LeO (aI.g k l acc) (aI.g (k + 1) l acc) := by
  intro k l
  induction l with
  | nil => intro acc; exact LeO.refl _
  | cons x xs ih =>
   intro acc; exact LeO.bind (aI.G5 _ _) fun a => ih _
 intro a0 k; exact LeO.ite (hg k _ _) (LeO.refl _)
def aI.ab (k : Nat) (d : Int) : ByteArray := (aI.one k d).getD ByteArray.empty
theorem aI.all (k : Nat) : ∀ (ds : List Int) (acc r : ByteArray), aI.g k ds acc = some r → (∀ d ∈ ds, aI.one k d = some (aI.ab k d)) ∧ r = ds.foldl (fun s d => s ++ aI.ab k d) acc
  | [], acc, r, h => ⟨by simp, (Option.some.inj h).symm⟩
  | d :: ds, acc, r, h => by
    unfold aI.g at h
    obtain ⟨a, ha, h⟩ := Option.bind_eq_some_iff.mp h
    have hat : aI.ab k d = a := by unfold aI.ab; rw [ha]; rfl
    obtain ⟨h1, h2⟩ := aI.all k ds _ _ h
    refine ⟨fun x hx => ?_, by rw [List.foldl_cons, hat]; exact h2⟩
    rcases List.mem_cons.mp hx with rfl | hx
    · rw [hat]; exact ha
    · exact h1 x hx
theorem aI.small (k : Nat) (d : Int) : (aI.ab k d).size ≤ 1000 := by
 unfold aI.ab aI.one
 cases nH.f d with
 | none => exact Nat.zero_le _
 | some z =>
  cases h : bL.f k z with
  | none => simp [h]
  | some a =>
   by_cases hs : a.size ≤ 1000
   · simp [h, hs]
   · simp [h, hs]
def aI.acc (k : Nat) (l0 : List Int) (n : Nat) (pre : List (Fin n)) : ByteArray := pre.foldl (fun s j => s ++ aI.ab k (mV l0 j.val)) ByteArray.empty
theorem aI.G6 (k : Nat) (l0 : List Int) (n : Nat) (pre : List (Fin n)) (x : Fin n) : aI.acc k l0 n (pre ++ [x]) = aI.acc k l0 n pre ++ aI.ab k (mV l0 x.val) := by simp [aI.acc]
theorem aI.G7 (k : Nat) (l0 : List Int) (n : Nat) (pre : List (Fin n)) : (aI.acc k l0 n pre).size ≤ 1000 * pre.length := by
 have key : ∀ (pre : List (Fin n)) (s : ByteArray), (pre.foldl (fun s j => s ++ aI.ab k (mV l0 j.val)) s).size ≤ s.size + 1000 * pre.length := by
  intro pre
  induction pre with
  | nil => intro s; simp
  | cons x xs ih =>
   intro s; have h1 := ih (s ++ aI.ab k (mV l0 x.val)); have h2 := aI.small k (mV l0 x.val); rw [ByteArray.size_append] at h1; simp only [List.foldl_cons, List.length_cons]
   omega
 have := key pre ByteArray.empty; have h0 : ByteArray.empty.size = 0 := rfl; unfold aI.acc
 omega
theorem FY {B b : Nat} {s : ByteArray} {w w' : World} {row : Option Nat} (h : Build.Bld B b s w) (hg : w.grownBy w' row) (hr : ∀ r, row = some r → ∃ o : Obj, w.heap[r]? = some o ∧ o.isCells = false) : Build.Bld B b s w' := by
 have go : ∀ {q : Value}, Lib.BuilderAtF 104 5 B b q (Lib.strCells s) w → Lib.BuilderAtF 104 5 B b q (Lib.strCells s) w' := fun {q} hh => by
  have hlt := hh.lt; obtain ⟨hB, u, hu, hown, hne⟩ := hh; refine ⟨hB, u, (hg.block b hlt (fun e => ?_)).trans hu, hown.kept hg ?_, hne⟩
  ·
   obtain ⟨o, ho, hc⟩ := hr b e.symm; rw [hu] at ho; obtain rfl := Option.some.inj ho
   simp [Obj.isCells] at hc
  ·
   cases hv : u.ownBlock with
   | none => exact .inl rfl
   | some g =>
    refine .inr fun e => ?_
    obtain ⟨o, ho, hc⟩ := hr g e.symm; obtain ⟨_, ⟨rfl, _⟩ | ⟨g', cap, cur, fz, rfl, _, hcell, _⟩⟩ := hown
    · simp [Value.ownBlock] at hv
    ·
     simp [Value.ownBlock] at hv
     subst hv; rw [hcell] at ho; obtain rfl := Option.some.inj ho
     simp [Obj.isCells] at hc
 exact h.elim (fun x => .inl (go x)) (fun x => .inr (go x))
def aI.Inv (k : Nat) (l0 : List Int) (w : World) (n H2 : Nat) (pre : List (Fin n)) (W : World) : Prop := Build.Bld w.heap.size w.heap.size (aI.acc k l0 n pre) W ∧ Below w.heap.size w W ∧ H2 ≤ W.heap.size
theorem qJ {B : Nat} {W W' : World} (h : Below W.heap.size W W') : KeepsFrom B W W' := ⟨h.size, fun k o _ hk _ => (h.block k (Array.getElem?_eq_some_iff.1 hk).1).trans hk⟩
theorem wB {B b e : Nat} {W W' : World} (h : Lib.OthersKept e (some b) W W') (hs : W.heap.size ≤ W'.heap.size) (hb : ∃ cs, W.heap[b]? = some (.cells cs 104 (0, 0))) : KeepsFrom B W W' := ⟨hs, fun k o _ hk ho => h k o hk (fun e => by
  obtain ⟨cs, hb⟩ := hb
  cases e
  rw [hk] at hb
  obtain rfl := Option.some.inj hb
  simp [Obj.isCells] at ho) (fun c fz e => by subst e; simp [Obj.isCells] at ho)⟩
section
attribute [local go_sem] Oper.semAt_some
set_option maxHeartbeats 8000000 in
set_option maxRecDepth 100000 in
theorem aI.calls (k : Nat) (A0 : Option Addr) (c0 : Nat) (l0 : List Int) (r : ByteArray) (w : World) (hr0 : Kd.C (Kd.int .i64) w A0 l0.length l0) (hc0 : l0.length ≤ c0) (h : aI.f k l0 = some r) :
    Calls Tryz.prog 33 #[.slice A0 l0.length c0] w fun e w' => e = .returned (.string r) ∧ Below w.heap.size w w' := by
 unfold aI.f at h
 by_cases hlen : l0.length ≤ 1000000000
 case neg => rw [if_neg hlen] at h; exact absurd h (by simp)
 rw [if_pos hlen] at h; obtain ⟨hone, hr⟩ := aI.all _ _ _ _ h; rw [List.foldl_map] at hr; have hr' : r = aI.acc k l0 l0.length (kQ l0.length) := hr; have HO := Aside0.mk (show ∀ x : Fin l0.length, aI.one k (mV l0 x.val) = some (aI.ab k (mV l0 x.val)) from fun x => hone _ (List.mem_map.mpr ⟨x, List.mem_finRange x, rfl⟩)); have HR := Aside0.mk hr'; have HN := Aside0.mk hr0; clear h hone hr hr' hr0; refine (callsIn_wide (n := 3)).1 ?_; refine callsIn_of_wp_marks Tryz.func33 rfl trivial ?_ rfl; simp only [Tryz.ntmps33, List.size_toArray, List.length_cons, List.length_nil, Nat.reduceAdd, Nat.reduceSub, Array.replicate_succ, Array.replicate_zero, List.push_toArray, List.append_toArray, List.nil_append, List.cons_append]
 gi_wp2_with (refine ⟨trivial, ?_⟩; gi_at_call 93; refine (Oh Fence.wide _ trivial rfl _ _ _ _).mono ?_; rintro e w6 ⟨rfl, rfl⟩)
 obtain ⟨w2, hw2⟩ : ∃ W, W = (w.alloc (.cells #[.pointer none, .slice none 0 0] 104)).alloc (.cells #[.slice A0 l0.length c0] 57) := ⟨_, rfl⟩; have hs2 : w2.heap.size = w.heap.size + 2 := by rw [hw2]; simp
 have hbs : w2.cell? ⟨w.heap.size + 1, 0, none⟩ = some (.slice A0 l0.length c0) := by
  have h := eJ (w.alloc (.cells #[.pointer none, .slice none 0 0] 104)) (.cells #[.slice A0 l0.length c0] 57); rw [← hw2, World.size_alloc] at h; exact (af h 0).trans rfl
 have hB2 : Below w.heap.size w w2 := by rw [hw2]; exact aH (aH (Below.refl _ _) _) _
 have hBl2 : Build.Bld w.heap.size w.heap.size ByteArray.empty w2 := by rw [hw2]; exact (Build.Bld.fresh w).alloc _
 have hnum : ∀ j, j < l0.length → ∃ ad, A0 = some ad ∧ ad.block < w.heap.size ∧ w2.cell? (ad.add j) = some (.int .i64 (l0.getD j 0)) := fun j hj => by
  obtain ⟨ad, e, hc⟩ := KY HN.out j hj; have hlt := World.block_lt_of_cell? _ _ hc; exact ⟨ad, e, by rw [Bd] at hlt; exact hlt, (hB2.cell hlt).trans hc⟩
 have hAd : 0 < l0.length → ∀ ad, A0 = some ad → ad.block < w.heap.size := fun h0 ad e => by
  obtain ⟨ad', e', hlt, _⟩ := hnum 0 h0; rw [e] at e'; obtain rfl := Option.some.inj e'; exact hlt
 rw [← hw2]; have NUM := Aside0.mk hnum; have HA := Aside0.mk hAd; have HB2 := Aside0.mk hB2; have HBl2 := Aside0.mk hBl2; clear hw2 hB2 hBl2 hnum hAd
 refine wpIn_rangeFunc_ownG rfl (by omega) (gf := 154) (lb := #[.pointer (some ⟨w.heap.size + 1, 0, none⟩)]) rfl trivial (enters_of Tryz.func154 (by kernel_rfl) rfl)
  (G3 Fence.wide (3 - 1) trivial rfl (by omega) (w.heap.size + 1) l0.length c0 A0 l0 hlen w2 (by omega) hbs (fun j hj => by obtain ⟨ad, e, _, hc⟩ := NUM.out j hj; exact ⟨ad, e, hc⟩)) FW (Ml (fun h0 ad e => by have := HA.out h0 ad e; omega)) (Below.refl _ _) (fun _ => rfl)
  (aI.Inv k l0 w l0.length w2.heap.size)
  (fun _ _ _ => False)
  (fun s A B row hs hg hr => ⟨FY hs.1 hg (fun r e => (hr r e).2), hs.2.1.grown hg hs.2.1.size (fun k e => by have := (hr k e).1; omega), Nat.le_trans hs.2.2 hg.size⟩)
  (fun _ _ _ _ _ hs _ _ => hs)
  ⟨HBl2.out, HB2.out, Nat.le_refl _⟩
  (fun x => { tmps := #[.slice A0 l0.length c0, undef, .string ⟨#[]⟩, .pointer (some ⟨w.heap.size, 0, none⟩), .int .i64 (mV l0 x.val), .slice A0 l0.length c0, .func (.func 154) #[] #[.pointer (some ⟨w.heap.size + 1, 0, none⟩)], .int .i64 (mV l0 x.val), undef, undef, undef, undef, undef], defers := [] }) ?assign ?body ?done ?stop
 case assign =>
  intro l x W K hK
  gi_wp2
  exact hK
 case body =>
  rintro l pre x W hInv hpl; have h1 := HO.out x; unfold aI.one at h1; obtain ⟨z, hz, h1⟩ := Option.bind_eq_some_iff.mp h1; obtain ⟨a, ha, h1⟩ := Option.bind_eq_some_iff.mp h1
  by_cases hsz : a.size ≤ 1000
  case neg => rw [if_neg hsz] at h1; exact absurd h1 (by simp)
  rw [if_pos hsz] at h1; have hat := Option.some.inj h1; have hacc := aI.G7 k l0 l0.length pre; have A1 := Aside0.mk hz; have A2 := Aside0.mk ha; have HAT := Aside0.mk hat; have HI := Aside0.mk hInv; have HAC := Aside0.mk (show (aI.acc k l0 l0.length pre).size + a.size ≤ 140737488355328 by omega); have hd : (3 : Nat) - 1 - 1 = 1 := rfl; clear h1 hz ha hat hInv hsz hacc
  gi_wp2_with (first | (refine ⟨trivial, ?_⟩; gi_at_call 94; refine (CallsIn.inRound l (callsIn_wide.2 (nH.calls _ z _ A1.out))).mono ?_; rintro e W1 ⟨rfl, hd1⟩) | (refine ⟨trivial, ?_⟩; gi_at_call 32; refine (CallsIn.inRound l (callsIn_wide.2 (bL.calls k _ a _ A2.out))).mono ?_; rintro e W2 ⟨rfl, hb2⟩))
  have hb1 := j9 hd1; have hB12 := aM (aM (Below.refl W.heap.size W) hb1) hb2; have HBx := Aside0.mk ((HI.out.1.below hb1).below hb2); have hsw := HI.out.2.1.size; have HG := Aside0.mk (show w.heap.size ≤ W2.heap.size from Nat.le_trans hsw hB12.size); have HW2 := Aside0.mk hB12; have HKF := Aside0.mk ((qJ (B := w2.heap.size) hb1).trans (qJ hb2)); clear hb1 hb2 hd1 hB12 hsw
  gi_wp2_with (refine ⟨trivial, ?_⟩; gi_at_call 85; refine (CallsIn.inRound l (callsIn_wide.2 (Build.write w.heap.size w.heap.size _ a _ HBx.out HAC.out HG.out))).mono ?_; rintro e W3 ⟨rfl, hbl, hb3, hk3⟩)
  have hBW : Below w.heap.size W W3 := (HW2.out.mono HI.out.2.1.size).trans hb3; refine ⟨HKF.out.trans (wB hk3 hb3.size HBx.out.block), fun h0 ad e => hBW.block _ (HA.out h0 ad e), ?_, HI.out.2.1.trans hBW, Nat.le_trans HI.out.2.2 hBW.size⟩; rw [aI.G6, ← HAT.out]; exact hbl
 case done =>
  rintro D ys W hD rfl hInv hK; have HI := Aside0.mk hInv; have HK := Aside0.mk hK; have HG := Aside0.mk (show w.heap.size ≤ W.heap.size from hInv.2.1.size); clear hInv hK
  gi_wp2_with (refine ⟨trivial, ?_⟩; gi_at_call 86; refine (callsIn_wide.2 (Build.string w.heap.size w.heap.size _ _ HI.out.1 HG.out)).mono ?_; rintro e W4 ⟨rfl, hb4, hk4⟩)
  have hK4 : W4.heap[D]? = some (.deferred (some [])) := hk4 D _ HK.out (fun e => by cases e; omega) (fun c fz e => by cases e); refine ⟨by simp, .inl ⟨_, _, rfl, run_takeDeferred hK4, ?_⟩⟩; have hB4 : Below w.heap.size w W4 := HI.out.2.1.trans hb4; refine ⟨_, results_tmp rfl _ _ _, by rw [HR.out]; rfl, hB4.grown (grownBy_putObj' W4 D (.deferred none)) hB4.size (fun k e => by cases e; omega)⟩
 case stop =>
  rintro D c pre W _ _ h _; exact h.elim
end
end Go.Proofs.YtfgnjndfnijjoaaGreat.Print
end
