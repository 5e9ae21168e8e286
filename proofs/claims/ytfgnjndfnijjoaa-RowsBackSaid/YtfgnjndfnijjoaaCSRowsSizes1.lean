/- Part 1 of what RowsSizes, RowsBack stands on: merged by a program of this session out of its texts. -/
import Derived.OpenShut
import Derived.ChangeArms
import Derived.ChangeSlices
import Derived.DataElems
import Derived.Shelf.Strings.Builder1
import Derived.Shelf.Strings.BuilderF
import Derived.Shelf.Strings.BuilderK
import Derived.Test.YtfgnjndfnijjoaaProg
import Derived.WalkKit
import Derived.RowKit3
import Derived.Below
import Derived.Deep.Draws
import Derived.Deep.AppendLies
import Derived.Maps.AppendAt
import Derived.OwnWalk
import Derived.Laws.BytesArg
import Derived.Laws.MakeOwn
import Derived.Laws.OwnMore
import Derived.Deep.OwnRows
import Derived.Tactics
import Derived.Lib.ConvBytes
import Derived.Laws.Slices
import Derived.KernelRfl
import Derived.Deep.LoopGhost
import Derived.Deep.QuietTactic
import Derived.BigQuiet
import Derived.WideLaws
import Derived.Deep.DeepCutAuto
import Derived.Deep.CutBlock
import Derived.Deep.RegionHeld3
import Derived.Laws.Rows
import Derived.Lib.AppendStr
import Derived.ArgAppend
import Derived.Laws.IdiomCopy
import Derived.OrdersHeld
import Derived.Laws.BitsLemmas
import Derived.RowKit
import Derived.Defers
import Derived.Recover
import Derived.WalkMore
import Derived.Laws.FloatArith
import Derived.WalkLawsBesides
import Derived.Laws.CopyOwn
import Derived.Deep.RegionLaw
import Derived.Maps.OwnSet
import Derived.RangeFuncNested
import Derived.RangeFuncBound
import Derived.RangeFuncCalls
import Derived.RangeFuncLeaves
import Derived.RangeFuncBox
import Derived.Shelf.Abstract
import Derived.Shelf.RegionOpen
import Derived.IntWalk
import Derived.OwnWalkIn
import Derived.TacticsInMore
import Derived.LoopNIn
import Derived.LoopIn
import Derived.Test.YtfgnjndfnijjoaaCSRowsSizes0
section
namespace Go.Proofs.Ytfgnjndfnijjoaa.LibO
open Go.RowKit Go.Proofs.YtfgnjndfnijjoaaW.PrintWords Go.Proofs.YtfgnjndfnijjoaaW.PrintLast Go.Proofs.YtfgnjndfnijjoaaW.PrintMore Go.ChangeShapes
section
variable {H : Type} {enc : TypeId × Value → H} {P : Program} {W : World} {base : Nat} {spare : Nat → Bool} {held : Bool}
def Opens (enc : TypeId × Value → H) (P : Program) (W : World) (base : Nat) (spare : Nat → Bool) (held : Bool) {α : Type} (d : Kd α) (Q : α → Prop) (t : TypeId) : Prop :=
  ∀ fuel cs x, DataW.trod enc P W base spare held fuel t cs = some x → ∃ a, d.K W a cs ∧ Q a
theorem opens_int {t : TypeId} {k : IntKind} (ht : P.underlying t = some (.int k)) : Opens enc P W base spare held (Kd.int k) (fun x => (Lit.int k x).wf = true) t := fun fuel cs x h => by
  obtain ⟨n, rfl, _, hw⟩ := DataW.trod_int ht h
  exact ⟨n, rfl, hw⟩
theorem opens_string {t : TypeId} (ht : P.underlying t = some .string) : Opens enc P W base spare held Kd.string (fun s => s.size ≤ maxLen) t := fun fuel cs x h => by
  obtain ⟨s, rfl, _, hs⟩ := DataW.trod_string ht h
  exact ⟨s, rfl, hs⟩
theorem trod_flt {t : TypeId} (ht : P.underlying t = some (.float .f64)) {fuel : Nat} {cs : List Value} {x : DataW H × List MemPlace} (h : DataW.trod enc P W base spare held fuel t cs = some x) : ∃ b, cs = [.float .f64 b] ∧ (Lit.float .f64 b).wf = true := by
  cases fuel with
  | zero => simp [DataW.trod] at h
  | succ n =>
    unfold DataW.trod at h
    rw [ht] at h
    split at h <;> simp_all
theorem opens_flt {t : TypeId} (ht : P.underlying t = some (.float .f64)) : Opens enc P W base spare held Kd.flt (fun x => ∃ b, FB b x) t := fun fuel cs x h => by
  obtain ⟨b, rfl, hw⟩ := trod_flt ht h
  have hb : b < 18446744073709551616 := of_decide_eq_true hw
  exact ⟨((canonF b : Nat) : Int), ⟨b, rfl, ⟨hb, rfl⟩⟩, b, ⟨hb, rfl⟩⟩
theorem opens_iso {α β : Type} {d : Kd α} {Q : α → Prop} {t : TypeId} (f : β → α) (g : α → β) (hfg : ∀ a, f (g a) = a) (h : Opens enc P W base spare held d Q t) : Opens enc P W base spare held (Kd.iso d f) (fun b => Q (f b)) t := fun fuel cs x hx => by
  obtain ⟨a, hk, hq⟩ := h fuel cs x hx
  refine ⟨g a, ?_, by show Q (f (g a)); rw [hfg]; exact hq⟩
  show d.K W (f (g a)) cs
  rw [hfg]
  exact hk
def FO (W : World) (cs : List Value) (off : Nat) {α : Type} (d : Kd α) (Q : α → Prop) : Prop := ∃ a, d.K W a ((cs.drop off).take d.sz) ∧ Q a
theorem fo_one {α : Type} {d : Kd α} {Q : α → Prop} {f : Field} {n : Nat} {cs : List Value} {y : DataW H × List MemPlace} (h : Opens enc P W base spare held d Q f.type) (hc : P.cellsOf f.type = d.sz) (hy : DataW.trod enc P W base spare held n f.type ((cs.drop f.offset).take (P.cellsOf f.type)) = some y) : FO W cs f.offset d Q := by
  obtain ⟨a, h1, h2⟩ := h _ _ _ hy
  rw [hc] at h1
  exact ⟨a, h1, h2⟩
theorem fo_pair {α β : Type} {a : Kd α} {b : Kd β} {Qa : α → Prop} {Qb : β → Prop} {cs : List Value} {off off' : Nat} (ho : off' = off + a.sz) (h1 : FO W cs off a Qa) (h2 : FO W cs off' b Qb) : FO W cs off (Kd.pair a b) (fun x => Qa x.1 ∧ Qb x.2) := by
  obtain ⟨x, k1, q1⟩ := h1
  obtain ⟨y, k2, q2⟩ := h2
  subst ho
  refine ⟨(x, y), ⟨_, _, ?_, k1, k2⟩, q1, q2⟩
  show (cs.drop off).take (a.sz + b.sz) = _
  rw [List.take_add, List.drop_drop]
theorem opens_struct {α : Type} {d : Kd α} {Q : α → Prop} {t : TypeId} {fs : Array Field} (ht : P.underlying t = some (.struct fs)) (hc : P.cellsOf t = d.sz)
    (h : ∀ n cs, (∀ (i : Nat) (f : Field), fs[i]? = some f → ∃ y, DataW.trod enc P W base spare held n f.type ((cs.drop f.offset).take (P.cellsOf f.type)) = some y) → FO W cs 0 d Q) : Opens enc P W base spare held d Q t := fun fuel cs x hx => by
  obtain ⟨xs, n, _, _, hl, hn, hf⟩ := DataW.trod_struct ht hx
  obtain ⟨a, h1, h2⟩ := h n cs (fun i f hfi => by
    have hi : i < xs.length := by rw [hn]; exact (Array.getElem?_eq_some_iff.mp hfi).1
    exact ⟨xs[i], by rw [hf i f hfi, List.getElem?_eq_getElem hi]⟩)
  rw [List.drop_zero, List.take_of_length_le (by omega)] at h1
  exact ⟨a, h1, h2⟩
theorem cells_at {a : Addr} {n : Nat} {cs : List Value} (h : W.cells? base a n = some cs) : cs.length = n ∧ ∀ i u, cs[i]? = some u → W.cell? (a.add i) = some u := by
  unfold World.cells? at h
  split at h
  · have hl := mapM_some_length h
    rw [List.length_range] at hl
    refine ⟨hl, fun i u hu => ?_⟩
    have hi : i < cs.length := (List.getElem?_eq_some_iff.mp hu).1
    have := mapM_some_get h i i (by rw [List.getElem?_range (by omega)])
    rw [this, hu]
  · exact absurd h (by simp)
theorem row_of {α : Type} {d : Kd α} {Q : α → Prop} {t e : TypeId} {fuel : Nat} {cs : List Value} {x : DataW H × List MemPlace} (ht : P.underlying t = some (.slice e)) (hc : P.cellsOf e = d.sz) (h : Opens enc P W base spare held d Q e)
    (hx : DataW.trod enc P W base spare held fuel t cs = some x) : ∃ (A : Option Addr) (c : Nat) (l : List α), cs = [.slice A l.length c] ∧ l.length ≤ c ∧ c ≤ maxLen ∧ Kd.C d W A l.length l ∧ ∀ y ∈ l, Q y := by
  rcases DataW.trod_slice ht hx with ⟨rfl, _⟩ | ⟨a, len, cap, elems, rest, n, _, rfl, rfl, hb, hl, hm, hlen, hel, hsp, hns⟩
  · exact ⟨none, 0, [], rfl, Nat.le_refl _, Nat.zero_le _, ⟨rfl, Nat.zero_le _, fun h => absurd h (Nat.lt_irrefl 0)⟩, fun y hy => by simp at hy⟩
  · have key : ∀ m, m ≤ len → ∃ l : List α, l.length = m ∧ (∀ y ∈ l, Q y) ∧ ∀ j p, l[j]? = some p → ∃ c, c.length = d.sz ∧ d.K W p c ∧ ∀ i u, c[i]? = some u → W.cell? (a.add (j * d.sz + i)) = some u := by
      intro m
      induction m with
      | zero => exact fun _ => ⟨[], rfl, fun y hy => by simp at hy, fun j p hj => by simp at hj⟩
      | succ m ih =>
        intro hm1
        obtain ⟨l, h1, h2, h3⟩ := ih (by omega)
        have hme := hel m (by omega)
        rw [List.getElem?_eq_getElem (by omega), Option.bind_eq_some_iff] at hme
        obtain ⟨cs', hcs, hy⟩ := hme
        obtain ⟨p, hk, hq⟩ := h _ _ _ hy
        obtain ⟨hcl, hcell⟩ := cells_at hcs
        refine ⟨l ++ [p], by simp [h1], fun y hy => ?_, fun j q hj => ?_⟩
        · rcases List.mem_append.mp hy with hy | hy
          · exact h2 y hy
          · simp at hy; subst hy; exact hq
        · by_cases hjm : j < l.length
          · rw [List.getElem?_append_left hjm] at hj
            exact h3 j q hj
          · rw [List.getElem?_append_right (by omega)] at hj
            have hj0 : j - l.length = 0 := by
              have := (List.getElem?_eq_some_iff.mp hj).1
              simp at this
              omega
            rw [hj0] at hj
            obtain rfl : p = q := by simpa using hj
            obtain rfl : j = m := by omega
            refine ⟨cs', by rw [hcl, hc], hk, fun i u hu => ?_⟩
            have := hcell i u hu
            rw [hc] at this
            rwa [Addr.add_add] at this
    obtain ⟨l, h1, h2, h3⟩ := key len (Nat.le_refl _)
    have hmx : maxLen ≤ 9223372036854775807 := by decide
    exact ⟨some a, cap, l, by rw [h1], by omega, hm, ⟨rfl, by omega, fun _ => ⟨a, rfl, h3⟩⟩, h2⟩
theorem arg_slice {α : Type} {d : Kd α} {Q : α → Prop} {t e : TypeId} {a : Option Addr} {len cap : Nat} {dd : DataW H} {ps : List MemPlace} (ht : P.underlying t = some (.slice e)) (hc : P.cellsOf e = d.sz) (h : Opens enc P W base spare held d Q e)
    (hx : DataW.Trod enc P W base spare held t (.slice a len cap) dd ps) : ∃ l : List α, len = l.length ∧ l.length ≤ cap ∧ l.length ≤ maxLen ∧ Kd.C d W a l.length l ∧ ∀ y ∈ l, Q y := by
  obtain ⟨fuel, hf⟩ := hx
  obtain ⟨A, c, l, he, h1, h2, h3, h4⟩ := row_of ht hc h hf
  simp [Value.cells] at he
  obtain ⟨rfl, rfl, rfl⟩ := he
  exact ⟨l, rfl, h1, by omega, h3, h4⟩
end
end Go.Proofs.Ytfgnjndfnijjoaa.LibO
end
section
namespace Go.Proofs
open Go.Shelf
def Try.lays169_ren : Go.Shelf.Ren := ⟨fun | 169 => 23 | n => n, fun | 70 => 43 | 9 => 9 | 0 => 0 | 72 => 45 | 37 => 42 | 127 => 82 | 3 => 3 | 5 => 5 | n => n, fun | n => n⟩
theorem Try.lays169 : Go.Proofs.Lays.n169 Try.prog Try.lays169_ren := {
  mixed := by kernel_rfl
  f169 := Try.func23.trans (congrArg some (by kernel_rfl))
  t0 := Try.underlying0
  a0 := Try.isAgg0
  z0 := Try.sizeOf0
  v0 := Try.zeroValue0
  t3 := Try.underlying3
  a3 := Try.isAgg3
  z3 := Try.sizeOf3
  v3 := Try.zeroValue3
  t9 := Try.underlying9
  a9 := Try.isAgg9
  z9 := Try.sizeOf9
  v9 := Try.zeroValue9
  t37 := Try.underlying42
  a37 := Try.isAgg42
  z37 := Try.sizeOf42
  v37 := Try.zeroValue42
  t70 := Try.underlying43
  a70 := Try.isAgg43
  z70 := Try.sizeOf43
  v70 := Try.zeroValue43
  t72 := Try.underlying45
  a72 := Try.isAgg45
  z72 := Try.sizeOf45
  v72 := Try.zeroValue45
  t127 := Try.underlying82
  a127 := Try.isAgg82
  z127 := Try.sizeOf82
  v127 := Try.zeroValue82 }
theorem Try.Builder_Extra_169 : Builder.Extra Try.prog Try.lays169_ren := {
  sizeBuilder := by kernel_rfl
  liesBuilder := by kernel_rfl
  t5 := Try.underlying5
  a5 := Try.isAgg5
  z5 := Try.sizeOf5
  v5 := Try.zeroValue5
  infoByte := by kernel_rfl
  cellsByte := by kernel_rfl
  sizeByte := by kernel_rfl
  neB5 := by decide }
open Go.RowKit in
theorem Try.Builder_String_any_k (B b : Nat) (l : List UInt8) (w : World) (h : Lib.IsBuilderF 45 5 B b (Lib.byteCells l) w) (hBw : B ≤ w.heap.size) :
    Calls Try.prog 23 #[.pointer (some ⟨b, 0, none⟩)] w fun e w' => e = .returned (.string ⟨l.toArray⟩) ∧ (Lib.IsBuilderF 45 5 B b (Lib.byteCells l) w' ∧ Below B w w' ∧ Lib.OthersKept 5 (some b) w w') := Any.Builder_String_any_k Try.lays169 Try.Builder_Extra_169 B b l w h hBw
end Go.Proofs
end
section
namespace Go.Proofs.Ytfgnjndfnijjoaa.Build
open Go.RowKit Go.Shelf
theorem size45 : (Try.prog.info? 45).map (·.size) = some 2 := by kernel_rfl
theorem lies45 : liesAt Try.prog Try.prog.depth 45 (2 / Try.prog.cellsOf 45) 0 45 1 = true := by kernel_rfl
theorem infoByte : (Try.prog.info? 5).map (fun i => (i.zero, i.size, i.bytes)) = some (some (.int .u8 0), 1, 1) := by kernel_rfl
set_option maxHeartbeats 1000000 in
set_option maxRecDepth 100000 in
theorem check_used (b : Nat) (w : World) (h0 : w.cell? ⟨b, 0, none⟩ = some (.pointer (some ⟨b, 0, none⟩))) :
    Calls Try.prog 46 #[.pointer (some ⟨b, 0, none⟩)] w fun e w' => e = .returned (.tuple #[]) ∧ w' = w := by
  obtain ⟨j, hj, _⟩ := Option.map_eq_some_iff.1 size45
  go_enter Try.func46, Try.ntmps46
  go_wp2
  rw [Lib.run_neq_ptr_same w _ Try.underlying43 hj]
  go_wp2
  go_end0
  exact ⟨rfl, rfl⟩
set_option maxHeartbeats 1000000 in
set_option maxRecDepth 100000 in
theorem check_fresh (b : Nat) (w : World) (h0 : w.cell? ⟨b, 0, none⟩ = some (.pointer none)) (hsh : w.shape? b = some (45, 2)) (hfz : w.frozen? ⟨b, 0, none⟩ = false) :
    Calls Try.prog 46 #[.pointer (some ⟨b, 0, none⟩)] w fun e w' => e = .returned (.tuple #[]) ∧ w' = w.setCell ⟨b, 0, none⟩ (.pointer (some ⟨b, 0, none⟩)) := by
  obtain ⟨j, hj, hjs⟩ := Option.map_eq_some_iff.1 size45
  go_enter Try.func46, Try.ntmps46
  go_wp2
  rw [Lib.run_to_unsafe w ⟨b, 0, none⟩ Try.underlying43 Try.underlying99 hj (by rw [hjs]; decide) hsh (Nat.zero_lt_succ 1)]
  simp only [Result.andThen]
  rw [Oper.upon_value]
  go_wp2
  rw [run_callFunc_extern Try.func77 (by kernel_rfl) (by kernel_rfl) (by kernel_rfl) (e := Extern.AbiNoEscape.same) (by kernel_rfl)]
  rw [Lib.run_noEscape]
  simp only [Result.andThen]
  rw [Oper.upon_value]
  go_wp2
  rw [Lib.run_from_unsafe w ⟨b, 0, none⟩ Try.underlying99 Try.underlying43 hj hsh lies45]
  simp only [Result.andThen]
  rw [Oper.upon_value]
  go_wp2
  go_end0
  exact ⟨rfl, rfl⟩
def Bld (B b : Nat) (s : ByteArray) (w : World) : Prop := Lib.IsBuilderF 45 5 B b (Lib.strCells s) w
theorem Bld.fresh (w : World) : Bld w.heap.size w.heap.size ByteArray.empty (w.alloc (.cells #[.pointer none, .slice none 0 0] 45)) := Lib.IsBuilderF.of (Lib.fresh_isBuilder 45 5 w)
theorem Bld.alloc {B b : Nat} {s : ByteArray} {w : World} (h : Bld B b s w) (o : Obj) : Bld B b s (w.alloc o) := Lib.IsBuilderF.alloc h o
theorem Bld.drewN {B b : Nat} {s : ByteArray} {w : World} (h : Bld B b s w) (n : Nat) : Bld B b s (w.drewN n) := h
theorem cells_app (s t : ByteArray) : Lib.strCells s ++ Lib.strCells t = Lib.strCells (s ++ t) := by simp [Lib.strCells]
theorem check (B b : Nat) (s : ByteArray) (w : World) (h : Bld B b s w) :
    Calls Try.prog 46 #[.pointer (some ⟨b, 0, none⟩)] w fun e w' => e = .returned (.tuple #[]) ∧ (Lib.BuilderAtF 45 5 B b (.pointer (some ⟨b, 0, none⟩)) (Lib.strCells s) w' ∧ Below B w w' ∧ Lib.OthersKept 5 (some b) w w') := by
  rcases h with h | h
  · refine (check_fresh b w h.cell0 h.shape h.frozen0).mono ?_
    rintro e w' ⟨rfl, rfl⟩
    exact ⟨rfl, h.used _, (Below.refl B w).setCell (p := ⟨b, 0, none⟩) h.1 _, (Lib.OthersKept.refl _ _ w).setCell ⟨b, 0, none⟩ rfl _⟩
  · refine (check_used b w h.cell0).mono ?_
    rintro e w' ⟨rfl, rfl⟩
    exact ⟨rfl, h, Below.refl B _, Lib.OthersKept.refl _ _ _⟩
set_option maxHeartbeats 2000000 in
set_option maxRecDepth 100000 in
theorem write (B b : Nat) (s t : ByteArray) (w : World) (h : Bld B b s w) (hlen : s.size + t.size ≤ 140737488355328) (hBw : B ≤ w.heap.size) :
    Calls Try.prog 18 #[.pointer (some ⟨b, 0, none⟩), .string t] w fun e w' => e = .returned (.tuple #[.int .i64 t.size, .nilIface]) ∧ Bld B b (s ++ t) w' ∧ Below B w w' ∧ Lib.OthersKept 5 (some b) w w' := by
  obtain ⟨i0, hi, hz0, hz1, hz2⟩ := info_parts infoByte
  have hsl := Lib.strCells_length s
  go_enter Try.func18, Try.ntmps18
  go_wp2_with (go_at_call 46; refine (check B b s _ h).mono ?_)
  rintro e w1 ⟨rfl, h1, hb1, hk1⟩
  obtain ⟨hB, v, hbk, hown, hne⟩ := h1
  have c0 : w1.cell? ⟨b, 0, none⟩ = some (.pointer (some ⟨b, 0, none⟩)) := by rw [Lib.cell_of_heap hbk]; rfl
  have c1 : w1.cell? ⟨b, 1, none⟩ = some v := by rw [Lib.cell_of_heap hbk]; rfl
  go_wp2_with (at_builtin; refine Lib.wpList_append_own_stringF _ rfl _ _ 42 9 rfl B 5 i0 Try.underlying42 Try.underlying9 hi hz0 hz1 hz2 _ _ _ rfl hown t rfl ?c3 ?c4 ?c5 ?_)
  case c3 => unfold maxLen; omega
  case c4 => omega
  case c5 => have := hb1.size; omega
  intro v' w2 hown' hgrow _
  have hlt : b < w1.heap.size := by
    rcases Nat.lt_or_ge b w1.heap.size with h' | h'
    · exact h'
    · simp [Array.getElem?_eq_none h'] at hbk
  have hb2 : w2.heap[b]? = some (.cells #[.pointer (some ⟨b, 0, none⟩), v] 45 (0, 0)) := by
    rw [hgrow.block b hlt (fun e => hne e.symm)]
    exact hbk
  have d0 : w2.cell? ⟨b, 0, none⟩ = some (.pointer (some ⟨b, 0, none⟩)) := by rw [Lib.cell_of_heap hb2]; rfl
  have d1 : w2.cell? ⟨b, 1, none⟩ = some v := by rw [Lib.cell_of_heap hb2]; rfl
  have f1 : w2.frozen? ⟨b, 1, none⟩ = false := Lib.frozen_of_heap hb2 1
  obtain ⟨ao, n', cap, rfl⟩ : ∃ ao n' cap, v' = .slice ao n' cap := by
    rcases hown'.2 with ⟨hv, _⟩ | ⟨g, cap, cur, fz, hv, _⟩
    · exact ⟨_, _, _, hv⟩
    · exact ⟨_, _, _, hv⟩
  go_wp2
  go_ret2
  refine ⟨rfl, .inr ?_, ?_, (hk1.grown hgrow (Lib.ownsRowF_kind hown)).setCell ⟨b, 1, none⟩ rfl _⟩
  · refine Lib.BuilderAtF.put (T := 45) (e := 5) hB hb2 (bs' := Lib.strCells (s ++ t)) ?_ (by decide)
    rw [← cells_app]
    simpa [Lib.strCells_length] using hown'
  · exact (hb1.grown hgrow (by have := hb1.size; omega) (fun k hk => (hown.lt k hk).1)).setCell (p := ⟨b, 1, none⟩) hB _
theorem string (B b : Nat) (s : ByteArray) (w : World) (h : Bld B b s w) (hBw : B ≤ w.heap.size) :
    Calls Try.prog 23 #[.pointer (some ⟨b, 0, none⟩)] w fun e w' => e = .returned (.string s) ∧ Below B w w' ∧ Lib.OthersKept 5 (some b) w w' :=
  (Try.Builder_String_any_k B b s.data.toList w h hBw).mono fun _ _ ⟨he, _, hb, hk⟩ => ⟨he, hb, hk⟩
theorem Bld.block {B b : Nat} {s : ByteArray} {w : World} (h : Bld B b s w) : ∃ cs, w.heap[b]? = some (.cells cs 45 (0, 0)) := by
  rcases h with ⟨_, v, hb, _⟩ | ⟨_, v, hb, _⟩ <;> exact ⟨_, hb⟩
theorem grown_of_below {w w' : World} (h : Below w.heap.size w w') : w.grownBy w' none := ⟨h.os, h.tape, h.output, h.size, fun k hk _ => h.block k hk⟩
theorem Bld.below {B b : Nat} {s : ByteArray} {w w' : World} (h : Bld B b s w) (hb : Below w.heap.size w w') : Bld B b s w' := by
  have go : ∀ {p : Value}, Lib.BuilderAtF 45 5 B b p (Lib.strCells s) w → Lib.BuilderAtF 45 5 B b p (Lib.strCells s) w' := fun {p} hh => by
    have hlt := hh.lt
    obtain ⟨hB, v, hv, hown, hne⟩ := hh
    exact ⟨hB, v, (hb.block b hlt).trans hv, hown.kept (grown_of_below hb) (by cases hv : v.ownBlock <;> simp), hne⟩
  exact h.elim (fun x => .inl (go x)) (fun x => .inr (go x))
theorem Bld.lt {B b : Nat} {s : ByteArray} {w : World} (h : Bld B b s w) : b < w.heap.size := h.elim (fun x => x.lt) (fun x => x.lt)
theorem block_kept {w w' : World} {b k : Nat} {cs c : Array Value} {t : TypeId} {fz f : Nat × Nat} (hk : Lib.OthersKept 5 (some b) w w') (hb : w.heap[b]? = some (.cells c 45 f)) (h : w.heap[k]? = some (.cells cs t fz)) (ht : t ≠ 5 ∧ t ≠ 45) : w'.heap[k]? = some (.cells cs t fz) := by
  refine hk k _ h (fun hh => ?_) (fun c' fz' hh => ?_)
  · obtain rfl := Option.some.inj hh
    rw [h] at hb
    simp only [Option.some.injEq, Obj.cells.injEq] at hb
    exact ht.2 hb.2.1
  · simp only [Obj.cells.injEq] at hh
    exact ht.1 hh.2.1
end Go.Proofs.Ytfgnjndfnijjoaa.Build
end
section
namespace Go.Proofs.Ytfgnjndfnijjoaa.Print
open Go.RowKit Go.Proofs.YtfgnjndfnijjoaaW.PrintWords Go.Proofs.YtfgnjndfnijjoaaW.PrintLast Go.Proofs.YtfgnjndfnijjoaaW.PrintMore
attribute [local go_sem] max2_int min2_int max_two min_two max_three min_three max_four min_four
attribute [local go_sem] run_store_float
set_option linter.unusedVariables false
set_option linter.unusedSimpArgs false
def errW : Option Int → Value
  | none => .nilIface
  | some c => .iface 0 (.int .i64 c)
theorem errW_none : errW none = .nilIface := rfl
theorem errW_some (c : Int) : errW (some c) = .iface 0 (.int .i64 c) := rfl
theorem info5 : (Try.prog.info? 5).map (fun i => (i.zero, i.size, i.bytes)) = some (some (.int .u8 0), 1, 1) := by kernel_rfl
theorem info30 : (Try.prog.info? 30).map (fun i => (i.zero, i.size, i.bytes)) = some (some (.agg #[(.int .i64 0), (.int .i64 0), (.int .i64 0), (.int .i64 0), (.string ⟨#[]⟩), (.float .f64 0)]), 6, 56) := by kernel_rfl
structure S27 where
  f0 : Int
  f1 : Int
def z27 : S27 := ⟨(0 : Int), (0 : Int)⟩
def k27 : Kd S27 := Kd.iso (Kd.pair (Kd.int .i64) (Kd.int .i64)) (fun x : S27 => (x.f0, x.f1))
theorem k27_open {w : World} {x : S27} {cs : List Value} (h : k27.K w x cs) : cs = [.int .i64 x.f0, .int .i64 x.f1] := by
  obtain ⟨_, _, rfl, rfl, rfl⟩ := h
  exact rfl
theorem k27_mkM (w : World) (base : Nat) (ok : Nat → Prop) (x : S27)  : k27.M w base ok x [.int .i64 x.f0, .int .i64 x.f1] := ⟨[.int .i64 x.f0], [.int .i64 x.f1], rfl, rfl, rfl⟩
structure S30 where
  f0 : S27
  f1 : Int
  f2 : Int
  f3 : ByteArray
  f4 : Int
def z30 : S30 := ⟨z27, (0 : Int), (0 : Int), (⟨#[]⟩ : ByteArray), (0 : Int)⟩
def k30 : Kd S30 := Kd.iso (Kd.pair k27 (Kd.pair (Kd.int .i64) (Kd.pair (Kd.int .i64) (Kd.pair Kd.string Kd.flt)))) (fun x : S30 => (x.f0, x.f1, x.f2, x.f3, x.f4))
theorem k30_open {w : World} {x : S30} {cs : List Value} (h : k30.K w x cs) : ∃ b5, cs = [.int .i64 x.f0.f0, .int .i64 x.f0.f1, .int .i64 x.f1, .int .i64 x.f2, .string x.f3, .float .f64 b5] ∧ FB b5 x.f4 := by
  obtain ⟨_, _, rfl, s0, ⟨_, _, rfl, rfl, ⟨_, _, rfl, rfl, ⟨_, _, rfl, rfl, ⟨b5, rfl, q5⟩⟩⟩⟩⟩ := h
  obtain rfl := k27_open s0
  exact ⟨b5, rfl, q5⟩
theorem k30_mkM (w : World) (base : Nat) (ok : Nat → Prop) (x : S30)  {b5 : Nat} (q5 : FB b5 x.f4) : k30.M w base ok x [.int .i64 x.f0.f0, .int .i64 x.f0.f1, .int .i64 x.f1, .int .i64 x.f2, .string x.f3, .float .f64 b5] := ⟨[.int .i64 x.f0.f0, .int .i64 x.f0.f1], [.int .i64 x.f1, .int .i64 x.f2, .string x.f3, .float .f64 b5], rfl, (k27_mkM w base ok x.f0 ), ⟨[.int .i64 x.f1], [.int .i64 x.f2, .string x.f3, .float .f64 b5], rfl, rfl, ⟨[.int .i64 x.f2], [.string x.f3, .float .f64 b5], rfl, rfl, ⟨[.string x.f3], [.float .f64 b5], rfl, rfl, ⟨b5, rfl, q5⟩⟩⟩⟩⟩
def rd_T30 (xs : List S30) (i : Int) : S30 := xs.getD i.toNat z30
theorem at_T30 {w : World} {A : Option Addr} {n : Nat} {xs : List S30} (h : Kd.C k30 w A n xs) (i : Int) (h0 : 0 ≤ i) (h1 : i < n) : ∃ ad b5, A = some ad ∧ w.cell? (ad.add (i.toNat * 6)) = some (.int .i64 (rd_T30 xs i).f0.f0) ∧ w.cell? ⟨(ad.add (i.toNat * 6)).block, (ad.add (i.toNat * 6)).off + 1, none⟩ = some (.int .i64 (rd_T30 xs i).f0.f1) ∧ w.cell? ⟨(ad.add (i.toNat * 6)).block, (ad.add (i.toNat * 6)).off + 2, none⟩ = some (.int .i64 (rd_T30 xs i).f1) ∧ w.cell? ⟨(ad.add (i.toNat * 6)).block, (ad.add (i.toNat * 6)).off + 3, none⟩ = some (.int .i64 (rd_T30 xs i).f2) ∧ w.cell? ⟨(ad.add (i.toNat * 6)).block, (ad.add (i.toNat * 6)).off + 4, none⟩ = some (.string (rd_T30 xs i).f3) ∧ w.cell? ⟨(ad.add (i.toNat * 6)).block, (ad.add (i.toNat * 6)).off + 5, none⟩ = some (.float .f64 b5) ∧ FB b5 (rd_T30 xs i).f4 := by
  obtain ⟨ad, c, e, _, hK, hc0⟩ := Kd.C_get h z30 i h0 h1
  have hc : ∀ j u, c[j]? = some u → w.cell? (ad.add (i.toNat * 6 + j)) = some u := hc0
  obtain ⟨b5, rfl, q5⟩ := k30_open hK
  exact ⟨ad, b5, e, hc 0 _ rfl, by rw [← add_field _ _ 1 (by omega)]; exact hc 1 _ rfl, by rw [← add_field _ _ 2 (by omega)]; exact hc 2 _ rfl, by rw [← add_field _ _ 3 (by omega)]; exact hc 3 _ rfl, by rw [← add_field _ _ 4 (by omega)]; exact hc 4 _ rfl, by rw [← add_field _ _ 5 (by omega)]; exact hc 5 _ rfl, q5⟩
end Go.Proofs.Ytfgnjndfnijjoaa.Print
end
section
namespace Go.Proofs.Ytfgnjndfnijjoaa.Print
open Go.RowKit Go.Proofs.YtfgnjndfnijjoaaW.PrintWords Go.Proofs.YtfgnjndfnijjoaaW.PrintLast Go.Proofs.YtfgnjndfnijjoaaW.PrintMore
attribute [local go_sem] max2_int min2_int max_two min_two max_three min_three max_four min_four
attribute [local go_sem] run_store_float
set_option linter.unusedVariables false
set_option linter.unusedSimpArgs false
theorem eqA27 (d : Nat) (w : World) (x0 y0 : Int) (x1 y1 : Int) :
    (Op.equalIn (d + 2) 27 (.agg #[.int .i64 x0, .int .i64 x1]) (.agg #[.int .i64 y0, .int .i64 y1])).run Try.prog w = .ok (x0 == y0 && (x1 == y1)) w := by
  refine eqA_of Try.underlying27 (by kernel_rfl) ?_
  refine eqf_cons (by rfl) (by go_simp; rfl) (by go_simp; rfl) (by go_simp) ?_
  exact eqf_last (by rfl) (by go_simp; rfl) (by go_simp; rfl) (by go_simp)
end Go.Proofs.Ytfgnjndfnijjoaa.Print
end
section
namespace Go.Proofs.Ytfgnjndfnijjoaa.Print
open Go.RowKit Go.Proofs.YtfgnjndfnijjoaaW.PrintWords Go.Proofs.YtfgnjndfnijjoaaW.PrintLast Go.Proofs.YtfgnjndfnijjoaaW.PrintMore
attribute [local go_sem] max2_int min2_int max_two min_two max_three min_three max_four min_four
attribute [local go_sem] run_store_float
set_option linter.unusedVariables false
set_option linter.unusedSimpArgs false
def bonsairef13_Few.l0 : Nat → List (S30) → Int → Option (Bool)
  | 0, _, _ => none
  | k + 1, x0, x5 => if x5 < (x0.length : Int) then (if 0 ≤ x5 then (if (((rd_T30 x0 x5).f3).size : Int) > 100 then (some false) else (bonsairef13_Few.l0 k x0 (wrap64 (x5 + 1)))) else (none)) else (some true)
def bonsairef13_Few.f (k : Nat) (l0 : List (S30)) (a1 : Int) : Option (Bool) := if (l0.length : Int) > a1 then (some false) else (bonsairef13_Few.l0 k l0 0)
set_option maxHeartbeats 8000000 in
set_option maxRecDepth 100000 in
theorem bonsairef13_Few.calls (k : Nat) (A0 : Option Addr) (c0 : Nat) (l0 : List (S30)) (a1 : Int) (r : Bool) (w : World) (hr0 : Kd.C k30 w A0 l0.length l0) (hc0 : l0.length ≤ c0) (h : bonsairef13_Few.f k l0 a1 = some r) :
    Calls Try.prog 7 #[.slice A0 l0.length c0, .int .i64 a1] w fun e w' => e = .returned (.bool r) ∧ Drawn0 w w' := by
  have HR0 := Aside0.mk hr0
  have HC0 := Aside0.mk hc0
  clear hr0 hc0
  have H : (if (l0.length : Int) > a1 then (some false) else (bonsairef13_Few.l0 k l0 0)) = some r := h
  clear h
  by_cases c3 : (l0.length : Int) > a1
  · rw [if_pos c3] at H
    have c3b0 : decide (a1 < (l0.length : Int)) = true := decide_eq_true c3
    clear c3
    obtain rfl := Option.some.inj H
    go_enter Try.func7, Try.ntmps7
    go_wp2
    go_ret
    exact ⟨by first | rfl | (simp; done) | (simp [*]; done), by repeat (first | exact Drawn0.refl _ | apply Drawn0.step)⟩
  · rw [if_neg c3] at H
    have c3b0 : decide (a1 < (l0.length : Int)) = false := decide_eq_false c3
    clear c3
    have H' := Aside0.mk H
    clear H
    go_enter Try.func7, Try.ntmps7
    go_wp2
    go_loopg [5] k (fun kq v5 w' => ∃ (x5_1 : Int), v5 = .int .i64 x5_1 ∧ Aside0 (bonsairef13_Few.l0 kq l0 x5_1 = some r) ∧ Aside0 (kq ≤ k) ∧ Drawn0 w w')
    case atStart => exact ⟨(0), (by first | rfl | (simp; done) | (simp [*]; done)), H', ⟨Nat.le_refl _⟩, by repeat (first | exact Drawn0.refl _ | apply Drawn0.step)⟩
    case round =>
      clear H'
      try clear p2
      try clear c3
      try clear c3b0
      obtain ⟨x5_1, rfl, HA, HK1, ⟨m1, rfl⟩⟩ := hrel
      cases gk with
      | zero => exact absurd HA.out (by simp [bonsairef13_Few.l0])
      | succ k1 =>
        have H := HA.out
        clear HA
        simp only [bonsairef13_Few.l0] at H
        by_cases c4 : x5_1 < (l0.length : Int)
        · rw [if_pos c4] at H
          have c4b0 : decide (x5_1 < (l0.length : Int)) = true := decide_eq_true c4
          clear c4
          by_cases c5 : 0 ≤ x5_1
          · rw [if_pos c5] at H
            have c5b0 : decide (0 ≤ x5_1) = true := decide_eq_true c5
            clear c5
            by_cases c6 : (((rd_T30 l0 x5_1).f3).size : Int) > 100
            · rw [if_pos c6] at H
              have c6b0 : decide (100 < (((rd_T30 l0 x5_1).f3).size : Int)) = true := decide_eq_true c6
              have c6b1 : decide (100 < ((rd_T30 l0 x5_1).f3).size) = true := decide_eq_true (by omega)
              clear c6
              obtain rfl := Option.some.inj H
              have p101 : 0 ≤ (x5_1 : Int) := of_decide_eq_true (by first | (with_reducible assumption) | assumption)
              have q101 : x5_1 < (l0.length : Int) := of_decide_eq_true (by first | (with_reducible assumption) | assumption)
              obtain ⟨ad101, bv101_5, e101, hx101_0, hx101_1, hx101_2, hx101_3, hx101_4, hx101_5, bq101_5⟩ := at_T30 HR0.out x5_1 p101 q101
              cases e101
              replace p101 := eq_true p101
              replace q101 := eq_true q101
              go_wp2
              go_ret
              exact ⟨by first | rfl | (simp; done) | (simp [*]; done), by repeat (first | exact Drawn0.refl _ | apply Drawn0.step)⟩
            · rw [if_neg c6] at H
              have c6b0 : decide (100 < (((rd_T30 l0 x5_1).f3).size : Int)) = false := decide_eq_false c6
              have c6b1 : decide (100 < ((rd_T30 l0 x5_1).f3).size) = false := decide_eq_false (by omega)
              clear c6
              have H' := Aside0.mk H
              clear H
              have p101 : 0 ≤ (x5_1 : Int) := of_decide_eq_true (by first | (with_reducible assumption) | assumption)
              have q101 : x5_1 < (l0.length : Int) := of_decide_eq_true (by first | (with_reducible assumption) | assumption)
              obtain ⟨ad101, bv101_5, e101, hx101_0, hx101_1, hx101_2, hx101_3, hx101_4, hx101_5, bq101_5⟩ := at_T30 HR0.out x5_1 p101 q101
              cases e101
              replace p101 := eq_true p101
              replace q101 := eq_true q101
              go_wp2
              go_roundg k1
              case measure => have := HK1.out; omega
              case rel => exact ⟨(wrap64 (x5_1 + 1)), (by first | rfl | (simp; done) | (simp [*]; done)), H', ⟨by have := HK1.out; omega⟩, by repeat (first | exact Drawn0.refl _ | apply Drawn0.step)⟩
          · rw [if_neg c5] at H
            exact absurd H (by simp)
        · rw [if_neg c4] at H
          have c4b0 : decide (x5_1 < (l0.length : Int)) = false := decide_eq_false c4
          clear c4
          obtain rfl := Option.some.inj H
          go_wp2
          go_ret
          exact ⟨by first | rfl | (simp; done) | (simp [*]; done), by repeat (first | exact Drawn0.refl _ | apply Drawn0.step)⟩
def pack_Put.l0 : Nat → Int → List Int → Option (ByteArray)
  | 0, _, _ => none
  | k + 1, x0, x3 => if x0 ≥ 128 then (if x3.length < 140737488355328 then (pack_Put.l0 k (x0 / 128) (x3 ++ [Go.bits .or .u8 ((x0) % 256) 128])) else (none)) else (if x3.length < 140737488355328 then (some (strOfNums (x3 ++ [(x0) % 256]))) else (none))
def pack_Put.f (k : Nat) (a0 : Int) : Option (ByteArray) := pack_Put.l0 k a0 ([] : List Int)
theorem pack_Put.mono_l : ∀ k, (∀ y0 y1, LeO (pack_Put.l0 k y0 y1) (pack_Put.l0 (k + 1) y0 y1))
  | 0 => fun _ _ r h => by simp [pack_Put.l0] at h
  | k + 1 => by
    have ih0 := pack_Put.mono_l k
    · intro y0 y1
      unfold pack_Put.l0
      repeat' first
      | (with_reducible exact ih0 _ _)
      | (with_reducible exact LeO.refl _)
      | (with_reducible exact LeO.none _)
      | (with_reducible refine LeO.ite ?_ ?_)
      | (with_reducible refine LeO.bind ?_ (fun _ => ?_))
      | exact ih0 _ _
      | exact LeO.none _
      | refine LeO.ite ?_ ?_
      | refine LeO.bind ?_ (fun _ => ?_)
theorem pack_Put.mono : ∀ a0 k, LeO (pack_Put.f k a0) (pack_Put.f (k + 1) a0) := by
  intro a0 k
  have ih0 := pack_Put.mono_l k
  unfold pack_Put.f
  repeat' first
      | (with_reducible exact ih0 _ _)
      | (with_reducible exact LeO.refl _)
      | (with_reducible exact LeO.none _)
      | (with_reducible refine LeO.ite ?_ ?_)
      | (with_reducible refine LeO.bind ?_ (fun _ => ?_))
      | exact ih0 _ _
      | exact LeO.none _
      | refine LeO.ite ?_ ?_
      | refine LeO.bind ?_ (fun _ => ?_)
set_option maxHeartbeats 8000000 in
set_option maxRecDepth 100000 in
theorem pack_Put.calls (k : Nat) (a0 : Int) (r : ByteArray) (w : World) (h : pack_Put.f k a0 = some r) :
    Calls Try.prog 19 #[.int .u64 a0] w fun e w' => e = .returned (.string r) ∧ Below w.heap.size w w' := by
  have HB := Aside0.mk (Below.refl w.heap.size w)
  have H : (pack_Put.l0 k a0 ([] : List Int)) = some r := h
  clear h
  have H' := Aside0.mk H
  clear H
  go_enter Try.func19, Try.ntmps19
  go_wp2
  go_loopg [0, 3] k (fun kq v0 v3 w' => ∃ (x0_1 : Int) (x3_1 : List Int), v0 = .int .u64 x0_1 ∧ Aside0 (pack_Put.l0 kq x0_1 x3_1 = some r) ∧ Aside0 (kq ≤ k) ∧ Aside0 (Kd.R (Kd.int .u8) 5 w' w.heap.size (fun _ => True) v3 x3_1) ∧ Aside0 (Below w.heap.size w w'))
  case atStart => exact ⟨(a0), (([] : List Int)), (by first | rfl | (simp; done) | (simp [*]; done)), H', ⟨Nat.le_refl _⟩, ⟨by first | exact Kd.R_nil _ _ _ _ _ | exact Kd.N_nil _ _ _ _ _ | exact Kd.V_nil _ _ _ _ _ | exact Kd.Q_nil _ _ _ _ _ | exact Kd.S_nil _ _ _ _ _⟩, ⟨by repeat (first | (with_reducible first | exact HB.out | apply below_alloc | apply pw_below_drewN | apply below_drew1) | exact HB.out)⟩⟩
  case round =>
    clear H'
    try clear c1
    obtain ⟨x0_1, x3_1, rfl, HA, HK1, HO_3, HB⟩ := hrel
    cases gk with
    | zero => exact absurd HA.out (by simp [pack_Put.l0])
    | succ k1 =>
      have H := HA.out
      clear HA
      simp only [pack_Put.l0] at H
      by_cases c2 : x0_1 ≥ 128
      · rw [if_pos c2] at H
        have c2b0 : decide (128 ≤ x0_1) = true := decide_eq_true c2
        clear c2
        by_cases c3 : x3_1.length < 140737488355328
        · rw [if_pos c3] at H
          have LMc3 := Aside0.mk c3
          clear c3
          obtain ⟨y102, hy102⟩ : ∃ y_ : List Int, y_ = (x3_1 ++ [Go.bits .or .u8 ((x0_1) % 256) 128]) := ⟨_, rfl⟩
          replace H : (pack_Put.l0 k1 (x0_1 / 128) y102) = some r := by first | (rw [hy102]; with_reducible exact H) | (have H2_ := (Option.bind_some _ _).symm.trans H; rw [hy102]; with_reducible exact H2_) | (have H2_ := (Option.bind_some _ _).symm.trans H; with_reducible exact H2_) | with_reducible exact H | (rw [hy102]; exact H) | exact H
          have Ny102 := Aside0.mk hy102
          clear hy102
          have H' := Aside0.mk H
          clear H
          go_wp2_with (first | ((with_reducible refine gate_builtin (b := .append) (xs := #[.tmp 6, .tmp 10]) rfl ?_); at_builtin; refine Kd.R_append (Kd.int .u8) (w0 := w) w.heap.size rfl (.tmp 6) (.tmp 10) 42 5 (.int .u8 0) 1 rfl Try.underlying42 info5 rfl (by decide) (by omega) u3 x3_1 (Go.bits .or .u8 ((x0_1) % 256) 128) [.int .u8 (Go.bits .or .u8 ((x0_1) % 256) 128)] (fun _ => True) (fun _ => False) rfl rfl ?aP (fun _ hk => hk.elim) ?aF ?aO ?aB ?aS ?aL ?_; (case aP => exact rfl); (case aB => exact (by repeat (first | (with_reducible first | exact HB.out | apply below_alloc | apply pw_below_drewN | apply below_drew1) | exact HB.out))); (case aF => exact (fun _ _ => trivial)); (case aO => exact (by (with_reducible repeat (first | apply Kd.R_alloc | apply Kd.R_drewN | apply Kd.R_drew)); exact HO_3.out)); (case aS => exact (below_size (by repeat (first | (with_reducible first | exact HB.out | apply below_alloc | apply pw_below_drewN | apply below_drew1) | exact HB.out)))); (case aL => have := LMc3.out; omega); intro v103 w4 ho hb hg hat; rw [← Ny102.out] at ho; have n0_ := Aside0.mk (hb); have n1_ := Aside0.mk (ho); clear HB; clear HO_3; have HB := n0_; have HO104 := n1_; clear n0_ n1_; clear ho hb hg hat))
          go_roundg k1
          case measure => have := HK1.out; omega
          case rel => exact ⟨(x0_1 / 128), (y102), (by first | rfl | (simp; done) | (simp [*]; done)), H', ⟨by have := HK1.out; omega⟩, ⟨by (with_reducible repeat (first | apply Kd.R_alloc | apply Kd.R_drewN | apply Kd.R_drew)); exact HO104.out⟩, ⟨by repeat (first | (with_reducible first | exact HB.out | apply below_alloc | apply pw_below_drewN | apply below_drew1) | exact HB.out)⟩⟩
        · rw [if_neg c3] at H
          exact absurd H (by simp)
      · rw [if_neg c2] at H
        have c2b0 : decide (128 ≤ x0_1) = false := decide_eq_false c2
        clear c2
        by_cases c5 : x3_1.length < 140737488355328
        · rw [if_pos c5] at H
          have LMc5 := Aside0.mk c5
          clear c5
          obtain ⟨y105, hy105⟩ : ∃ y_ : List Int, y_ = (x3_1 ++ [(x0_1) % 256]) := ⟨_, rfl⟩
          replace H : (some (strOfNums y105)) = some r := by first | (rw [hy105]; with_reducible exact H) | (have H2_ := (Option.bind_some _ _).symm.trans H; rw [hy105]; with_reducible exact H2_) | (have H2_ := (Option.bind_some _ _).symm.trans H; with_reducible exact H2_) | with_reducible exact H | (rw [hy105]; exact H) | exact H
          have Ny105 := Aside0.mk hy105
          clear hy105
          obtain rfl := Option.some.inj H
          go_wp2_with (first | ((with_reducible refine gate_builtin (b := .append) (xs := #[.tmp 14, .tmp 17]) rfl ?_); at_builtin; refine Kd.R_append (Kd.int .u8) (w0 := w) w.heap.size rfl (.tmp 14) (.tmp 17) 42 5 (.int .u8 0) 1 rfl Try.underlying42 info5 rfl (by decide) (by omega) u3 x3_1 ((x0_1) % 256) [.int .u8 ((x0_1) % 256)] (fun _ => True) (fun _ => False) rfl rfl ?aP (fun _ hk => hk.elim) ?aF ?aO ?aB ?aS ?aL ?_; (case aP => exact rfl); (case aB => exact (by repeat (first | (with_reducible first | exact HB.out | apply below_alloc | apply pw_below_drewN | apply below_drew1) | exact HB.out))); (case aF => exact (fun _ _ => trivial)); (case aO => exact (by (with_reducible repeat (first | apply Kd.R_alloc | apply Kd.R_drewN | apply Kd.R_drew)); exact HO_3.out)); (case aS => exact (below_size (by repeat (first | (with_reducible first | exact HB.out | apply below_alloc | apply pw_below_drewN | apply below_drew1) | exact HB.out)))); (case aL => have := LMc5.out; omega); intro v106 w6 ho hb hg hat; rw [← Ny105.out] at ho; have n0_ := Aside0.mk (hb); have n1_ := Aside0.mk (ho); clear HB; clear HO_3; have HB := n0_; have HO107 := n1_; clear n0_ n1_; clear ho hb hg hat; have hcv7 := own_string (P := Try.prog) Try.underlying42 Try.underlying5 Try.underlying9 (Kd.own_of_R HO107.out)))
          go_ret
          exact ⟨by first | rfl | (simp [errW_none, errW_some] <;> rfl) | (simp [*, errW_none, errW_some] <;> rfl), by repeat (first | (with_reducible first | exact HB.out | apply below_alloc | apply pw_below_drewN | apply below_drew1) | exact HB.out)⟩
        · rw [if_neg c5] at H
          exact absurd H (by simp)
def word_Put.f (k : Nat) (a0 : ByteArray) : Option (ByteArray) := (pack_Put.f k (IntKind.u64.wrap ((a0.size : Int)))).bind fun t108 => (if t108.size + a0.size ≤ 9223372036854775807 then (some (t108 ++ a0)) else (none))
theorem word_Put.mono : ∀ a0 k, LeO (word_Put.f k a0) (word_Put.f (k + 1) a0) := by
  intro a0 k
  unfold word_Put.f
  repeat' first
      | (with_reducible exact pack_Put.mono _ _)
      | (with_reducible exact LeO.refl _)
      | (with_reducible exact LeO.none _)
      | (with_reducible refine LeO.ite ?_ ?_)
      | (with_reducible refine LeO.bind ?_ (fun _ => ?_))
      | exact pack_Put.mono _ _
      | exact LeO.none _
      | refine LeO.ite ?_ ?_
      | refine LeO.bind ?_ (fun _ => ?_)
set_option maxHeartbeats 8000000 in
set_option maxRecDepth 100000 in
theorem word_Put.calls (k : Nat) (a0 : ByteArray) (r : ByteArray) (w : World) (h : word_Put.f k a0 = some r) :
    Calls Try.prog 20 #[.string a0] w fun e w' => e = .returned (.string r) ∧ Below w.heap.size w w' := by
  have HB := Aside0.mk (Below.refl w.heap.size w)
  have H : ((pack_Put.f k (IntKind.u64.wrap ((a0.size : Int)))).bind fun t108 => (if t108.size + a0.size ≤ 9223372036854775807 then (some (t108 ++ a0)) else (none))) = some r := h
  clear h
  replace H := Option.bind_eq_some_iff.mp H
  obtain ⟨t108, A20, H⟩ := H
  replace H : (if t108.size + a0.size ≤ 9223372036854775807 then (some (t108 ++ a0)) else (none)) = some r := H
  have A2 := Aside0.mk A20
  clear A20
  by_cases c3 : t108.size + a0.size ≤ 9223372036854775807
  · rw [if_pos c3] at H
    have c3b0 := eq_true c3
    have c3b1 : decide (t108.size + a0.size ≤ 9223372036854775807) = true := decide_eq_true c3
    try have c3b2 : (9223372036854775807 < t108.size + a0.size) = False := eq_false (Nat.not_lt.2 c3)
    try (have c3b3 := c3b2; simp only [ByteArray.size_append] at c3b3)
    clear c3
    obtain rfl := Option.some.inj H
    go_enter Try.func20, Try.ntmps20
    go_wp2_with (first | ((with_reducible refine gate_callee (f := 19) rfl ?_); refine goesL_ (some 6) rfl rfl Try.func19 (by kernel_rfl) rfl #[.int .u64 (IntKind.u64.wrap ((a0.size : Int)))] rfl (by (try simp only [List.map_toArray, List.map_cons, List.map_nil]); first | done | rfl | (simp only [List.length_drop, List.length_take]; rfl)) ?_; (with_reducible refine (pack_Put.calls k (IntKind.u64.wrap ((a0.size : Int))) t108 _ A2.out).mono ?_); rintro e w4 ⟨rfl, hb⟩; refine ⟨_, rfl, ?_⟩; have n0_ := Aside0.mk (below_step (by repeat (first | (with_reducible first | exact HB.out | apply below_alloc | apply pw_below_drewN | apply below_drew1) | exact HB.out)) hb); clear HB; have HB := n0_; clear n0_; (try clear hb); (try clear hb2); (try clear hk); (try clear hi)))
    go_ret
    exact ⟨by first | rfl | (simp [errW_none, errW_some] <;> rfl) | (simp [*, errW_none, errW_some] <;> rfl), by repeat (first | (with_reducible first | exact HB.out | apply below_alloc | apply pw_below_drewN | apply below_drew1) | exact HB.out)⟩
  · rw [if_neg c3] at H
    exact absurd H (by simp)
def pack_Fixed.l0 : Nat → Int → List Int → Int → Int → Option (ByteArray)
  | 0, _, _, _, _ => none
  | k + 1, x0, x3, x7, x8 => if x8 < x7 then (if 0 ≤ (wrap64 (8 * x8)) then (if 0 ≤ x8 then (if x8 < (x3.length : Int) then (pack_Fixed.l0 k x0 (x3.set (x8 : Int).toNat ((shr .u64 x0 (wrap64 (8 * x8))) % 256)) x7 (wrap64 (x8 + 1))) else (none)) else (none)) else (none)) else (some (strOfNums x3))
def pack_Fixed.f (k : Nat) (a0 : Int) : Option (ByteArray) := (some (List.replicate 8 0 : List Int)).bind fun y109 => (pack_Fixed.l0 k a0 y109 (y109.length : Int) 0)
theorem pack_Fixed.mono_l : ∀ k, (∀ y0 y1 y2 y3, LeO (pack_Fixed.l0 k y0 y1 y2 y3) (pack_Fixed.l0 (k + 1) y0 y1 y2 y3))
  | 0 => fun _ _ _ _ r h => by simp [pack_Fixed.l0] at h
  | k + 1 => by
    have ih0 := pack_Fixed.mono_l k
    · intro y0 y1 y2 y3
      unfold pack_Fixed.l0
      repeat' first
      | (with_reducible exact ih0 _ _ _ _)
      | (with_reducible exact LeO.refl _)
      | (with_reducible exact LeO.none _)
      | (with_reducible refine LeO.ite ?_ ?_)
      | (with_reducible refine LeO.bind ?_ (fun _ => ?_))
      | exact ih0 _ _ _ _
      | exact LeO.none _
      | refine LeO.ite ?_ ?_
      | refine LeO.bind ?_ (fun _ => ?_)
theorem pack_Fixed.mono : ∀ a0 k, LeO (pack_Fixed.f k a0) (pack_Fixed.f (k + 1) a0) := by
  intro a0 k
  have ih0 := pack_Fixed.mono_l k
  unfold pack_Fixed.f
  repeat' first
      | (with_reducible exact ih0 _ _ _ _)
      | (with_reducible exact LeO.refl _)
      | (with_reducible exact LeO.none _)
      | (with_reducible refine LeO.ite ?_ ?_)
      | (with_reducible refine LeO.bind ?_ (fun _ => ?_))
      | exact ih0 _ _ _ _
      | exact LeO.none _
      | refine LeO.ite ?_ ?_
      | refine LeO.bind ?_ (fun _ => ?_)
set_option maxHeartbeats 8000000 in
set_option maxRecDepth 100000 in
theorem pack_Fixed.calls (k : Nat) (a0 : Int) (r : ByteArray) (w : World) (h : pack_Fixed.f k a0 = some r) :
    Calls Try.prog 21 #[.int .u64 a0] w fun e w' => e = .returned (.string r) ∧ Below w.heap.size w w' := by
  have HB := Aside0.mk (Below.refl w.heap.size w)
  have H : ((some (List.replicate 8 0 : List Int)).bind fun y109 => (pack_Fixed.l0 k a0 y109 (y109.length : Int) 0)) = some r := h
  clear h
  obtain ⟨y109, hy109⟩ : ∃ y_ : List Int, y_ = (List.replicate 8 0) := ⟨_, rfl⟩
  replace H : (pack_Fixed.l0 k a0 y109 (y109.length : Int) 0) = some r := by first | (rw [hy109]; with_reducible exact H) | (have H2_ := (Option.bind_some _ _).symm.trans H; rw [hy109]; with_reducible exact H2_) | (have H2_ := (Option.bind_some _ _).symm.trans H; with_reducible exact H2_) | with_reducible exact H | (rw [hy109]; exact H) | exact H
  have Ny109 := Aside0.mk hy109
  clear hy109
  have H' := Aside0.mk H
  clear H
  go_enter Try.func21, Try.ntmps21
  go_wp2_with (first | ((with_reducible refine gate_dst (N := 5) rfl ?_); refine Kd.R_make (Kd.int .u8) _ 5 rfl (N := 5) rfl 42 _ _ rfl 8 rfl rfl Try.underlying42 (.int .u8 0) 1 info5 rfl (by decide) (by omega) 0 (ok := fun _ => True) (okp := fun _ => True) rfl (fun _ hk => hk) trivial (by omega) (by omega) (Below.refl _ _) (Nat.le_refl _) ?_; intro v110 w2 ho3 hb hg_ hnew_; clear hg_ hnew_; (first | rw [← Ny109.out] at ho3 | (simp only [Int.reduceToNat] at ho3; rw [← Ny109.out] at ho3)); have n0_ := Aside0.mk (Kd.R_lower ho3 (below_size (by repeat (first | (with_reducible first | exact HB.out | apply below_alloc | apply pw_below_drewN | apply below_drew1) | exact HB.out)))); have n1_ := Aside0.mk (below_step (by repeat (first | (with_reducible first | exact HB.out | apply below_alloc | apply pw_below_drewN | apply below_drew1) | exact HB.out)) hb); clear HB; have HO111 := n0_; have HB := n1_; clear n0_ n1_; clear hb ho3; obtain ⟨Ao4, co4, eo4⟩ := Kd.R_slice HO111.out; subst eo4))
  go_loopg [8] k (fun kq v8 w' => ∃ (x3_1 : List Int) (x8_1 : Int), v8 = .int .i64 x8_1 ∧ Aside0 (pack_Fixed.l0 kq a0 x3_1 (y109.length : Int) x8_1 = some r) ∧ Aside0 (kq ≤ k) ∧ Aside0 (Kd.R (Kd.int .u8) 5 w' w.heap.size (fun _ => True) (.slice Ao4 y109.length co4) x3_1) ∧ Aside0 (Below w.heap.size w w'))
  case atStart => exact ⟨(y109), (0), (by first | rfl | (simp; done) | (simp [*]; done)), H', ⟨Nat.le_refl _⟩, ⟨by (with_reducible repeat (first | apply Kd.R_alloc | apply Kd.R_drewN | apply Kd.R_drew)); exact HO111.out⟩, ⟨by repeat (first | (with_reducible first | exact HB.out | apply below_alloc | apply pw_below_drewN | apply below_drew1) | exact HB.out)⟩⟩
  case round =>
    clear H'
    try clear c2
    try clear p2
    obtain ⟨x3_1, x8_1, rfl, HA, HK1, HO_3, HB⟩ := hrel
    have hl3_1 := (Kd.R_reads' HO_3.out).1
    rw [hl3_1] at HO_3
    (try simp only [hl3_1])
    cases gk with
    | zero => exact absurd HA.out (by simp [pack_Fixed.l0])
    | succ k1 =>
      have H := HA.out
      clear HA
      simp only [pack_Fixed.l0] at H
      by_cases c5 : x8_1 < (y109.length : Int)
      · rw [if_pos c5] at H
        have c5b0 : decide (x8_1 < (y109.length : Int)) = true := decide_eq_true c5
        (try have c5h0 := c5b0)
        (try simp only [hl3_1] at c5h0)
        clear c5
        obtain ⟨ji6, hji6⟩ : ∃ j_ : Int, (wrap64 (8 * x8_1)) = j_ := ⟨_, rfl⟩
        replace H : (if 0 ≤ (ji6) then (if 0 ≤ x8_1 then (if x8_1 < (x3_1.length : Int) then (pack_Fixed.l0 k1 a0 (x3_1.set (x8_1 : Int).toNat ((shr .u64 a0 (ji6)) % 256)) (y109.length : Int) (wrap64 (x8_1 + 1))) else (none)) else (none)) else (none)) = some r := by first | (rw [hji6] at H; exact H) | (simp only [hji6] at H ⊢; exact H)
        have hji6w : (IntKind.i64.wrap (8 * x8_1)) = ji6 := (i64_w _).trans hji6
        by_cases c7 : 0 ≤ (ji6)
        · rw [if_pos c7] at H
          have c7b0 := eq_true c7
          have c7b1 : decide (0 ≤ (ji6)) = true := decide_eq_true c7
          clear c7
          obtain ⟨ji8, hji8⟩ : ∃ j_ : Int, (shr .u64 a0 (ji6)) = j_ := ⟨_, rfl⟩
          replace H : (if 0 ≤ x8_1 then (if x8_1 < (x3_1.length : Int) then (pack_Fixed.l0 k1 a0 (x3_1.set (x8_1 : Int).toNat ((ji8) % 256)) (y109.length : Int) (wrap64 (x8_1 + 1))) else (none)) else (none)) = some r := by first | (rw [hji8] at H; exact H) | (simp only [hji8] at H ⊢; exact H)
          have hji8_ : (a0 / 2 ^ min (ji6).toNat 64) = ji8 := hji8
          have hji8z : (ji6) ≤ 64 → (a0 / 2 ^ (ji6).toNat) = ji8 := shr_small hji8
          by_cases c9 : 0 ≤ x8_1
          · rw [if_pos c9] at H
            have c9b0 : decide (0 ≤ x8_1) = true := decide_eq_true c9
            clear c9
            by_cases c10 : x8_1 < (x3_1.length : Int)
            · rw [if_pos c10] at H
              have c10b0 : decide (x8_1 < (x3_1.length : Int)) = true := decide_eq_true c10
              (try have c10h0 := c10b0)
              (try simp only [hl3_1] at c10h0)
              clear c10
              obtain ⟨y112, hy112⟩ : ∃ y_ : List Int, y_ = (x3_1.set (x8_1 : Int).toNat ((ji8) % 256)) := ⟨_, rfl⟩
              replace H : (pack_Fixed.l0 k1 a0 y112 (y109.length : Int) (wrap64 (x8_1 + 1))) = some r := by first | (rw [hy112]; with_reducible exact H) | (have H2_ := (Option.bind_some _ _).symm.trans H; rw [hy112]; with_reducible exact H2_) | (have H2_ := (Option.bind_some _ _).symm.trans H; with_reducible exact H2_) | with_reducible exact H | (rw [hy112]; exact H) | exact H
              have Ny112 := Aside0.mk hy112
              clear hy112
              have H' := Aside0.mk H
              clear H
              have p11 : 0 ≤ (x8_1 : Int) := of_decide_eq_true (by first | (with_reducible assumption) | assumption)
              have q11 : (x8_1 : Int) < ((x3_1.length : Int) : Int) := of_decide_eq_true (by first | (with_reducible assumption) | assumption)
              obtain ⟨go11, co11, eo11, gb11, gl11, cl11, HG11⟩ := Kd.R_form HO_3.out (by omega)
              (first | cases eo11 | (injection eo11 with ea_ en_ ec_; (first | subst ea_ | (injection ea_ with ea_; subst ea_)); subst ec_; clear en_))
              have GB11 := Aside0.mk gb11
              have GG11 := Aside0.mk HG11
              clear gb11 gl11 HG11
              obtain ⟨hx11_0, hf11_0⟩ := Kd.R_celln 0 HO_3.out (x8_1 : Int) p11 q11
              replace p11 := eq_true p11
              replace q11 := eq_true q11
              have HP12 := Kd.R_putg HO_3.out (x8_1 : Int) ((ji8) % 256)
              go_wp2_with (first | ((with_reducible refine gate_store (t := 5) (p := 18) rfl ?_); refine store_event (t := 5) (p := 18) (v := ?vo_w13) (w1 := (wr.setCell ⟨go11, (x8_1 : Int).toNat, none⟩ (.int .u8 ((ji8) % 256)))) ?hg ?ho ?hn ?hr ?_; (case ho => rfl); (case hg => rfl); (case hn => rfl); (case hr => first | (go_simp; done) | (go_simp; rfl)); intro w13 hw; have hg : wr.grownBy w13 (some go11) := (by rw [hw]; exact HP12.2); have hp_ : Kd.R (Kd.int .u8) 5 w13 w.heap.size (fun _ => True) (.slice (some ⟨go11, 0, none⟩) x3_1.length co4) y112 := (by rw [hw, Ny112.out]; exact HP12.1); clear HP12; have n0_ := Aside0.mk (hp_); have n1_ := Aside0.mk ((by rw [hw]; exact below_set (HB.out) GB11.out : Below w.heap.size w w13)); clear HO_3; clear HB; have HO_3 := n0_; have HB := n1_; clear n0_ n1_; clear hg hw hp_))
              (try simp only [← hl3_1])
              go_roundg k1
              case measure => have := HK1.out; omega
              case rel => exact ⟨(y112), (wrap64 (x8_1 + 1)), (by first | rfl | (simp; done) | (simp [*]; done)), H', ⟨by have := HK1.out; omega⟩, ⟨by (try simp only [hl3_1]); (with_reducible repeat (first | apply Kd.R_alloc | apply Kd.R_drewN | apply Kd.R_drew)); exact HO_3.out⟩, ⟨by repeat (first | (with_reducible first | exact HB.out | apply below_alloc | apply pw_below_drewN | apply below_drew1) | exact HB.out)⟩⟩
            · rw [if_neg c10] at H
              exact absurd H (by simp)
          · rw [if_neg c9] at H
            exact absurd H (by simp)
        · rw [if_neg c7] at H
          exact absurd H (by simp)
      · rw [if_neg c5] at H
        have c5b0 : decide (x8_1 < (y109.length : Int)) = false := decide_eq_false c5
        (try have c5h0 := c5b0)
        (try simp only [hl3_1] at c5h0)
        clear c5
        obtain rfl := Option.some.inj H
        have hcv14 := own_string (P := Try.prog) Try.underlying42 Try.underlying5 Try.underlying9 (Kd.own_of_R HO_3.out)
        go_wp2
        go_ret
        exact ⟨by first | rfl | (simp [errW_none, errW_some] <;> rfl) | (simp [*, errW_none, errW_some] <;> rfl), by repeat (first | (with_reducible first | exact HB.out | apply below_alloc | apply pw_below_drewN | apply below_drew1) | exact HB.out)⟩
set_option maxHeartbeats 8000000 in
set_option maxRecDepth 100000 in
theorem bits_Minus.calls1 (b : Nat) (s : Bool) (w : World) (h1 : (FloatKind.f64.format.order b 0 == some .lt) = s) (h2 : (FloatKind.f64.format.order b 0 == some .eq) = false) :
    Calls Try.prog 47 #[.float .f64 b] w fun e w' => e = .returned (.bool s) ∧ Drawn0 w w' := by
  go_enter Try.func47, Try.ntmps47
  cases s
  · go_wp2
    go_ret
    exact ⟨rfl, Drawn0.refl _⟩
  · go_wp2
    go_ret
    exact ⟨rfl, Drawn0.refl _⟩
set_option maxHeartbeats 8000000 in
set_option maxRecDepth 100000 in
theorem bits_Minus.calls0 (s : Bool) (w : World) :
    Calls Try.prog 47 #[.float .f64 (Fl.zero s)] w fun e w' => e = .returned (.bool s) ∧ Drawn0 w w' := by
  have h1 : (FloatKind.f64.format.order (Fl.zero s) 0 == some .lt) = false := by cases s <;> decide
  have h2 : (FloatKind.f64.format.order (Fl.zero s) 0 == some .eq) = true := by cases s <;> decide
  have h3 : ∀ W, (binOp .quo 28 (.float .f64 4607182418800017408) (.float .f64 (Fl.zero s))).run Try.prog W = .ok (.float .f64 (Fl.inf s)) W := fun W => run_float_arith W .quo 28 .f64 _ _ _ (by cases s <;> decide)
  have h4 : (FloatKind.f64.format.order (Fl.inf s) 0 == some .lt) = s := by cases s <;> decide
  go_enter Try.func47, Try.ntmps47
  go_wp2
  go_ret
  exact ⟨rfl, Drawn0.refl _⟩
def powersC : Array Value := #[.int .i64 512, .float .f64 6913025428013711360, .float .f64 2301339409586323456, .int .i64 256, .float .f64 5760103923406864384, .float .f64 3454260914193170432, .int .i64 128, .float .f64 5183643171103440896, .float .f64 4030721666496593920, .int .i64 64, .float .f64 4895412794951729152, .float .f64 4318952042648305664, .int .i64 32, .float .f64 4751297606875873280, .float .f64 4463067230724161536, .int .i64 16, .float .f64 4679240012837945344, .float .f64 4535124824762089472, .int .i64 8, .float .f64 4643211215818981376, .float .f64 4571153621781053440, .int .i64 4, .float .f64 4625196817309499392, .float .f64 4589168020290535424, .int .i64 2, .float .f64 4616189618054758400, .float .f64 4598175219545276416, .int .i64 1, .float .f64 4611686018427387904, .float .f64 4602678819172646912]
def powersZ : Array Value := #[(.int .i64 0), (.float .f64 0), (.float .f64 0), (.int .i64 0), (.float .f64 0), (.float .f64 0), (.int .i64 0), (.float .f64 0), (.float .f64 0), (.int .i64 0), (.float .f64 0), (.float .f64 0), (.int .i64 0), (.float .f64 0), (.float .f64 0), (.int .i64 0), (.float .f64 0), (.float .f64 0), (.int .i64 0), (.float .f64 0), (.float .f64 0), (.int .i64 0), (.float .f64 0), (.float .f64 0), (.int .i64 0), (.float .f64 0), (.float .f64 0), (.int .i64 0), (.float .f64 0), (.float .f64 0)]
def powersV : Value := .agg powersC
set_option maxHeartbeats 8000000 in
set_option maxRecDepth 100000 in
theorem bits_powers.calls (w : World) :
    Calls Try.prog 78 #[] w fun e w' => e = .returned powersV ∧ Below w.heap.size w w' := by
  have hu1 := Try.underlying102
  have hu2 := Try.underlying103
  have HB := Aside0.mk (Below.refl w.heap.size w)
  go_enter Try.func78, Try.ntmps78
  go_wp2_with (first | ((with_reducible refine gate_dst (N := 0) rfl ?_); refine box_event rfl (N := 0) rfl (cs := powersZ) (t := 103) (by kernel_rfl) ?_; intro g hg w2 hbox hb; have hge : Aside0 (w.heap.size ≤ g) := ⟨by omega⟩; have hbx := Aside0.mk hbox; clear hg hbox) | ((with_reducible refine gate_dst (N := 11) rfl ?_); refine Kd.event_run rfl (v := powersV) (W := w2) (by kernel_rfl) ?_) | ((with_reducible refine gate_store (t := 103) (p := 0) rfl ?_); refine store_event (t := 103) (p := 0) (v := .tmp 11) (w1 := w2.setRow g powersC) rfl rfl rfl (store_whole_run rfl rfl rfl hbx.out (by kernel_rfl) (by kernel_rfl) (by kernel_rfl)) ?_; intro w3 hw3))
  refine bodyPost_ret (results_cell_row rfl _ _ g 103 powersC (0, 0) _ rfl (by rw [hw3]; exact setRow_blk hbx.out) Try.underlying103 rfl (by kernel_rfl)) rfl ?_
  exact ⟨rfl, by rw [hw3]; exact setRow_below hge.out (w := w) hb⟩
theorem power_at (n : Int) (h0 : 0 ≤ n) (h1 : n < 10) : ∃ p : Int, (1 ≤ p ∧ p ≤ 512 ∧ p = 2 ^ (9 - n).toNat) ∧ ∀ (W : World), (Instr.index 103 powersV (.int .i64 n)).run Try.prog W = .ok (.agg #[.int .i64 p, .float .f64 (Fl.rung 1 p), .float .f64 (Fl.rung 1 (-p))]) W := by
  have hn : n = 0 ∨ n = 1 ∨ n = 2 ∨ n = 3 ∨ n = 4 ∨ n = 5 ∨ n = 6 ∨ n = 7 ∨ n = 8 ∨ n = 9 := by omega
  rcases hn with rfl | rfl | rfl | rfl | rfl | rfl | rfl | rfl | rfl | rfl
  · exact ⟨512, ⟨by omega, by omega, by rfl⟩, fun W => by kernel_rfl⟩
  · exact ⟨256, ⟨by omega, by omega, by rfl⟩, fun W => by kernel_rfl⟩
  · exact ⟨128, ⟨by omega, by omega, by rfl⟩, fun W => by kernel_rfl⟩
  · exact ⟨64, ⟨by omega, by omega, by rfl⟩, fun W => by kernel_rfl⟩
  · exact ⟨32, ⟨by omega, by omega, by rfl⟩, fun W => by kernel_rfl⟩
  · exact ⟨16, ⟨by omega, by omega, by rfl⟩, fun W => by kernel_rfl⟩
  · exact ⟨8, ⟨by omega, by omega, by rfl⟩, fun W => by kernel_rfl⟩
  · exact ⟨4, ⟨by omega, by omega, by rfl⟩, fun W => by kernel_rfl⟩
  · exact ⟨2, ⟨by omega, by omega, by rfl⟩, fun W => by kernel_rfl⟩
  · exact ⟨1, ⟨by omega, by omega, by rfl⟩, fun W => by kernel_rfl⟩
theorem mul_at {m : Nat} (hm : m ≠ 0) (h : m < 9007199254740992) {e k : Int} (he : -1074 ≤ e) (hE : e + m.log2 ≤ 1023) (hk : -1074 ≤ k) (hk2 : k ≤ 1023) (hek : -1074 ≤ e + k) (W : World) :
    (binOp .mul 28 (.float .f64 (Fl.rung m e)) (.float .f64 (Fl.rung 1 k))).run Try.prog W = .ok (.float .f64 (Fl.rung m (e + k))) W :=
  run_float_arith W .mul 28 .f64 _ _ _ (by have := Fl.mul_two false hm h he hE hk hk2 hek; rwa [Fl.word_false, Fl.word_false] at this)
set_option maxHeartbeats 8000000 in
set_option maxRecDepth 100000 in
theorem bits_split.calls {m : Nat} (hm : m ≠ 0) (h : m < 9007199254740992) (e0 : Int) (he : -1074 ≤ e0) (hE : e0 + m.log2 ≤ 1023) (w : World) :
    Calls Try.prog 48 #[.float .f64 (Fl.rung m e0)] w fun e w' => e = .returned (.tuple #[.float .f64 (Fl.rung m (-(m.log2 : Int))), .int .i64 (e0 + m.log2)]) ∧ Below w.heap.size w w' := by
  have hL := Fl.log2_lt53 hm h
  obtain ⟨L, hLd⟩ : ∃ L : Int, L = (m.log2 : Int) := ⟨_, rfl⟩
  obtain ⟨PV, hPV⟩ : ∃ v, v = powersV := ⟨_, rfl⟩
  have hu := Try.underlying102
  go_enter Try.func48, Try.ntmps48
  go_wp2_with (first | (go_at_call 78; (with_reducible refine (bits_powers.calls _).mono ?_); rintro e' w1 ⟨rfl, hb1⟩))
  rw [← hPV]
  have HPV := Aside0.mk hPV
  clear hPV
  have HB1 := Aside0.mk hb1
  clear hb1
  go_loopg [0, 4, 8] 11 (fun kq v0 v4 v8 w' => ∃ (e n i : Int), v0 = .float .f64 (Fl.rung m e) ∧ v4 = .int .i64 n ∧ v8 = .int .i64 i ∧ Aside0 (0 ≤ i ∧ i ≤ 10 ∧ 10 - i < kq ∧ n + e = e0 ∧ -1074 ≤ e ∧ e + L ≤ 1023) ∧ Aside0 (Below w.heap.size w w'))
  case atStart => exact ⟨e0, 0, 0, by first | rfl | simp, by first | rfl | simp, by first | rfl | simp, ⟨by omega⟩, HB1⟩
  case round =>
    clear HB1
    obtain ⟨e, n, i, rfl, rfl, rfl, HK, HB⟩ := hrel
    cases gk with
    | zero => have := HK.out; exact absurd this (by omega)
    | succ k1 =>
      by_cases hi : i < 10
      · have d1 : decide (i < 10) = true := decide_eq_true hi
        have hk := HK.out
        obtain ⟨p, ⟨hp, hp', -⟩, hidx⟩ := power_at i hk.1 hi
        have HIX := Aside0.mk hidx
        clear hidx
        have ev : ∀ x : Int, x + (m.log2 : Int) = x + L := fun x => by rw [hLd]
        have ro1 := (Fl.order_two hm h (e := e) (k := p) (by omega) (by omega) (by omega) (by omega)).2
        have rw1 : IntKind.i64.wrap (i + 1) = i + 1 := by rw [IntKind.wrap_i64]; omega
        by_cases c1 : p ≤ e + m.log2
        · rw [decide_eq_true c1] at ro1
          have s1 : (FloatKind.f64.format.order (Fl.rung m e) (Fl.rung 1 p) == some .gt || FloatKind.f64.format.order (Fl.rung m e) (Fl.rung 1 p) == some .eq) = true := ro1
          have m1 := mul_at hm h (e := e) (k := -p) (by omega) (by omega) (by omega) (by omega) (by omega)
          have ro2 := (Fl.order_two hm h (e := e + -p) (k := -p) (by omega) (by omega) (by omega) (by omega)).1
          rw [decide_eq_false (by omega)] at ro2
          have s2 : (FloatKind.f64.format.order (Fl.rung m (e + -p)) (Fl.rung 1 (-p)) == some .lt) = false := ro2
          have rw2 : IntKind.i64.wrap (n + p) = n + p := by rw [IntKind.wrap_i64]; omega
          clear ro1 ro2
          go_wp2_with (first | ((with_reducible refine gate_dst (N := 10) rfl ?_); refine Kd.event_run rfl (index_run rfl HPV.out rfl (HIX.out _)) ?_))
          go_roundg k1
          case measure => omega
          case rel => exact ⟨e + -p, n + p, i + 1, by rfl, by first | rfl | simp [goInt, rw2], by first | rfl | simp [goInt, rw1], ⟨by omega⟩, ⟨HB.out.alloc HB.out.size _⟩⟩
        · rw [decide_eq_false c1] at ro1
          have s1 : (FloatKind.f64.format.order (Fl.rung m e) (Fl.rung 1 p) == some .gt || FloatKind.f64.format.order (Fl.rung m e) (Fl.rung 1 p) == some .eq) = false := ro1
          have ro2 := (Fl.order_two hm h (e := e) (k := -p) (by omega) (by omega) (by omega) (by omega)).1
          by_cases c2 : e + m.log2 < -p
          · rw [decide_eq_true c2] at ro2
            have s2 : (FloatKind.f64.format.order (Fl.rung m e) (Fl.rung 1 (-p)) == some .lt) = true := ro2
            have m1 := mul_at hm h (e := e) (k := p) (by omega) (by omega) (by omega) (by omega) (by omega)
            have rw2 : IntKind.i64.wrap (n - p) = n - p := by rw [IntKind.wrap_i64]; omega
            clear ro1 ro2
            go_wp2_with (first | ((with_reducible refine gate_dst (N := 10) rfl ?_); refine Kd.event_run rfl (index_run rfl HPV.out rfl (HIX.out _)) ?_))
            go_roundg k1
            case measure => omega
            case rel => exact ⟨e + p, n - p, i + 1, by rfl, by first | rfl | simp [goInt, rw2], by first | rfl | simp [goInt, rw1], ⟨by omega⟩, ⟨HB.out.alloc HB.out.size _⟩⟩
          · rw [decide_eq_false c2] at ro2
            have s2 : (FloatKind.f64.format.order (Fl.rung m e) (Fl.rung 1 (-p)) == some .lt) = false := ro2
            clear ro1 ro2
            go_wp2_with (first | ((with_reducible refine gate_dst (N := 10) rfl ?_); refine Kd.event_run rfl (index_run rfl HPV.out rfl (HIX.out _)) ?_))
            go_roundg k1
            case measure => omega
            case rel => exact ⟨e, n, i + 1, by rfl, by rfl, by first | rfl | simp [goInt, rw1], ⟨by omega⟩, ⟨HB.out.alloc HB.out.size _⟩⟩
      · have d1 : decide (i < 10) = false := decide_eq_false hi
        have hk := HK.out
        have HB0 := HB
        obtain ⟨wb, hwb⟩ : ∃ x, x = wr := ⟨_, rfl⟩
        go_wp2
        go_loopg [0, 4] 3000 (fun kq v0 v4 w' => ∃ (e n : Int), v0 = .float .f64 (Fl.rung m e) ∧ v4 = .int .i64 n ∧ Aside0 (e + L < kq ∧ n + e = e0 ∧ -1074 ≤ e ∧ e + L ≤ 1023) ∧ Aside0 (Below w.heap.size w w'))
        case atStart => exact ⟨e, n, by rfl, by rfl, ⟨by omega⟩, HB⟩
        case round =>
          clear HB HK hk HB0 hwb
          obtain ⟨e, n, rfl, rfl, HK, HB⟩ := hrel
          have hk := HK.out
          have ro1 := (Fl.order_two hm h (e := e) (k := 1) (by omega) (by omega) (by omega) (by omega)).2
          rw [rung_1] at ro1
          by_cases c1 : 1 ≤ e + m.log2
          · cases gk with
            | zero => exact absurd c1 (by omega)
            | succ k2 =>
              rw [decide_eq_true c1] at ro1
              have s1 : (FloatKind.f64.format.order (Fl.rung m e) 4611686018427387904 == some .gt || FloatKind.f64.format.order (Fl.rung m e) 4611686018427387904 == some .eq) = true := ro1
              have m1 := mul_at hm h (e := e) (k := -1) (by omega) (by omega) (by omega) (by omega) (by omega)
              rw [rung_m1] at m1
              have rw2 : IntKind.i64.wrap (n + 1) = n + 1 := by rw [IntKind.wrap_i64]; omega
              clear ro1
              go_wp2
              go_roundg k2
              case measure => omega
              case rel => exact ⟨e + -1, n + 1, by rfl, by first | rfl | simp [goInt, rw2], ⟨by omega⟩, HB⟩
          · rw [decide_eq_false c1] at ro1
            have s1 : (FloatKind.f64.format.order (Fl.rung m e) 4611686018427387904 == some .gt || FloatKind.f64.format.order (Fl.rung m e) 4611686018427387904 == some .eq) = false := ro1
            clear ro1
            go_wp2
            go_loopg [0, 4] 3000 (fun kq v0 v4 w' => ∃ (e n : Int), v0 = .float .f64 (Fl.rung m e) ∧ v4 = .int .i64 n ∧ Aside0 (-(e + L) < kq ∧ e + L ≤ 0 ∧ n + e = e0 ∧ -1074 ≤ e) ∧ Aside0 (Below w.heap.size w w'))
            case atStart => exact ⟨e, n, by rfl, by rfl, ⟨by omega⟩, HB⟩
            case round =>
              clear HB HK hk c1 s1
              obtain ⟨e, n, rfl, rfl, HK, HB⟩ := hrel
              have hk := HK.out
              have ro1 := (Fl.order_two hm h (e := e) (k := 0) (by omega) (by omega) (by omega) (by omega)).1
              rw [rung_0] at ro1
              by_cases c1 : e + m.log2 < 0
              · cases gk with
                | zero => exact absurd c1 (by omega)
                | succ k2 =>
                  rw [decide_eq_true c1] at ro1
                  have s1 : (FloatKind.f64.format.order (Fl.rung m e) 4607182418800017408 == some .lt) = true := ro1
                  have m1 := mul_at hm h (e := e) (k := 1) (by omega) (by omega) (by omega) (by omega) (by omega)
                  rw [rung_1] at m1
                  have rw2 : IntKind.i64.wrap (n - 1) = n - 1 := by rw [IntKind.wrap_i64]; omega
                  clear ro1
                  go_wp2
                  go_roundg k2
                  case measure => omega
                  case rel => exact ⟨e + 1, n - 1, by rfl, by first | rfl | simp [goInt, rw2], ⟨by omega⟩, HB⟩
              · rw [decide_eq_false c1] at ro1
                have s1 : (FloatKind.f64.format.order (Fl.rung m e) 4607182418800017408 == some .lt) = false := ro1
                clear ro1
                go_wp2
                go_ret2
                have he' : e = -(m.log2 : Int) := by omega
                have hn' : n = e0 + m.log2 := by omega
                exact ⟨by rw [← hn', ← he']; rfl, HB.out⟩
def bits_Bits.f (a0 : Int) : Option Int := some a0
set_option maxHeartbeats 8000000 in
set_option maxRecDepth 100000 in
theorem bits_Bits.nan (bv0 : Nat) (w : World) (hn : 9218868437227405312 < bv0 % 9223372036854775808) :
    Calls Try.prog 22 #[.float .f64 bv0] w fun e_ w' => e_ = .returned (.int .u64 (canonF bv0 : Nat)) ∧ Below w.heap.size w w' := by
  have h1 := (Fl.order_nan hn 0).1
  have h2 := (Fl.order_nan hn bv0).1
  have g1 : (FloatKind.f64.format.order bv0 0 == some .lt) = false := by show (Ieee.double.order bv0 0 == some .lt) = false; rw [h1]; rfl
  have g2 : (FloatKind.f64.format.order bv0 0 == some .eq) = false := by show (Ieee.double.order bv0 0 == some .eq) = false; rw [h1]; rfl
  have g3 : (FloatKind.f64.format.order bv0 bv0 != some .eq) = true := by show (Ieee.double.order bv0 bv0 != some .eq) = true; rw [h2]; rfl
  have hc : canonF bv0 = 9221120237041090560 := by unfold canonF; rw [if_pos hn]
  rw [hc]
  clear h1 h2
  go_enter Try.func22, Try.ntmps22
  go_wp2_with (first | (go_at_call 47; (with_reducible refine (bits_Minus.calls1 _ false _ g1 g2).mono ?_); rintro e' w1 ⟨rfl, nd, rfl⟩))
  go_ret
  exact ⟨rfl, pw_below_drewN (Below.refl _ _) _⟩
theorem neg_zero (W : World) : (Op.unary .neg (.float .f64 (Fl.zero true))).run Try.prog W = .ok (.float .f64 (Fl.zero false)) W := by
  have h : Op.negFloat .f64 (Fl.zero true) = Fl.zero false := by decide
  simp only [Op.unary, h, Sem.run_pure]
set_option maxHeartbeats 8000000 in
set_option maxRecDepth 100000 in
theorem bits_Bits.zero (s : Bool) (w : World) :
    Calls Try.prog 22 #[.float .f64 (Fl.zero s)] w fun e_ w' => e_ = .returned (.int .u64 (canonF (Fl.zero s) : Nat)) ∧ Below w.heap.size w w' := by
  have g3 : (FloatKind.f64.format.order (Fl.zero false) (Fl.zero false) != some .eq) = false := by decide
  have g4 : (FloatKind.f64.format.order (Fl.zero false) 0 == some .eq) = true := by decide
  have hng := neg_zero
  have hc : ((canonF (Fl.zero s) : Nat) : Int) = (if s then 9223372036854775808 else 0) := by cases s <;> decide
  rw [hc]
  cases s
  · go_enter Try.func22, Try.ntmps22
    go_wp2_with (first | (go_at_call 47; (with_reducible refine (bits_Minus.calls0 false _).mono ?_); rintro e' w1 ⟨rfl, nd, rfl⟩))
    go_ret
    exact ⟨rfl, pw_below_drewN (Below.refl _ _) _⟩
  · go_enter Try.func22, Try.ntmps22
    go_wp2_with (first | (go_at_call 47; (with_reducible refine (bits_Minus.calls0 true _).mono ?_); rintro e' w1 ⟨rfl, nd, rfl⟩))
    go_ret
    exact ⟨rfl, pw_below_drewN (Below.refl _ _) _⟩
theorem neg_inf (W : World) : (Op.unary .neg (.float .f64 (Fl.inf true))).run Try.prog W = .ok (.float .f64 (Fl.inf false)) W := by
  have h : Op.negFloat .f64 (Fl.inf true) = Fl.inf false := by decide
  simp only [Op.unary, h, Sem.run_pure]
set_option maxHeartbeats 8000000 in
set_option maxRecDepth 100000 in
theorem bits_Bits.inf (s : Bool) (w : World) :
    Calls Try.prog 22 #[.float .f64 (Fl.inf s)] w fun e_ w' => e_ = .returned (.int .u64 (canonF (Fl.inf s) : Nat)) ∧ Below w.heap.size w w' := by
  have g1 : (FloatKind.f64.format.order (Fl.inf s) 0 == some .lt) = s := by cases s <;> decide
  have g2 : (FloatKind.f64.format.order (Fl.inf s) 0 == some .eq) = false := by cases s <;> decide
  have g3 : (FloatKind.f64.format.order (Fl.inf false) (Fl.inf false) != some .eq) = false := by decide
  have g4 : (FloatKind.f64.format.order (Fl.inf false) 0 == some .eq) = false := by decide
  have g5 : ∀ W, (binOp .mul 28 (.float .f64 (Fl.inf false)) (.float .f64 4611686018427387904)).run Try.prog W = .ok (.float .f64 (Fl.inf false)) W := fun W => run_float_arith W .mul 28 .f64 _ _ _ (by decide)
  have g6 : (FloatKind.f64.format.order (Fl.inf false) (Fl.inf false) == some .eq) = true := by decide
  have hng := neg_inf
  have hc : ((canonF (Fl.inf s) : Nat) : Int) = (if s then 18442240474082181120 else 9218868437227405312) := by cases s <;> decide
  rw [hc]
  cases s
  · go_enter Try.func22, Try.ntmps22
    go_wp2_with (first | (go_at_call 47; (with_reducible refine (bits_Minus.calls1 _ _ _ g1 g2).mono ?_); rintro e' w1 ⟨rfl, nd, rfl⟩))
    go_ret
    exact ⟨rfl, pw_below_drewN (Below.refl _ _) _⟩
  · go_enter Try.func22, Try.ntmps22
    go_wp2_with (first | (go_at_call 47; (with_reducible refine (bits_Minus.calls1 _ _ _ g1 g2).mono ?_); rintro e' w1 ⟨rfl, nd, rfl⟩))
    go_ret
    exact ⟨rfl, pw_below_drewN (Below.refl _ _) _⟩
set_option maxHeartbeats 8000000 in
set_option maxRecDepth 100000 in
theorem bits_Bits.fin (s : Bool) {m : Nat} {e : Int} (w : World) (hm : m ≠ 0) (hm2 : m < 9007199254740992) (he : -1074 ≤ e) (hE : e + m.log2 ≤ 1023)
    (hform : (m < 4503599627370496 ∧ e = -1074 ∧ m.log2 ≤ 51 ∧ Fl.rung m e = m) ∨ (4503599627370496 ≤ m ∧ m.log2 = 52 ∧ e ≤ 971 ∧ (Fl.rung m e : Int) = (e + 1074) * 4503599627370496 + m)) :
    Calls Try.prog 22 #[.float .f64 (Ieee.double.word s (Fl.rung m e))] w fun e_ w' => e_ = .returned (.int .u64 (canonF (Ieee.double.word s (Fl.rung m e)) : Nat)) ∧ Below w.heap.size w w' := by
  obtain ⟨hfin1, hfin2, hfin3⟩ := Fl.read_rung s hm hm2 he hE
  have oz := Fl.order_zero s hm hm2 he hE
  have g1 : (FloatKind.f64.format.order (Ieee.double.word s (Fl.rung m e)) 0 == some .lt) = s := oz.1
  have g2 : (FloatKind.f64.format.order (Ieee.double.word s (Fl.rung m e)) 0 == some .eq) = false := oz.2
  have os := Fl.order_self_fin false hm hm2 he hE (Fl.rung m e) (Fl.word_false _).symm
  have g3 : (FloatKind.f64.format.order (Fl.rung m e) (Fl.rung m e) != some .eq) = false := by show (Ieee.double.order _ _ != some .eq) = false; rw [os]; rfl
  have oz2 := (Fl.order_zero false hm hm2 he hE).2
  rw [Fl.word_false] at oz2
  have g4 : (FloatKind.f64.format.order (Fl.rung m e) 0 == some .eq) = false := oz2
  have g5 := Fl.mul_two false hm hm2 (e := e) (k := 1) he hE (by omega) (by omega) (by omega)
  rw [Fl.word_false, Fl.word_false, rung_1] at g5
  have g5' : ∀ W, (binOp .mul 28 (.float .f64 (Fl.rung m e)) (.float .f64 4611686018427387904)).run Try.prog W = .ok (.float .f64 (Fl.rung m (e + 1))) W := fun W => run_float_arith W .mul 28 .f64 _ _ _ g5
  have g6 : (FloatKind.f64.format.order (Fl.rung m e) (Fl.rung m (e + 1)) == some .eq) = false := (Fl.order_double hm hm2 he hE).1
  have hng := fun W => neg_run Try.prog W s (r := Fl.rung m e) (by omega)
  have hL := Fl.log2_lt53 hm hm2
  have g7 := Fl.mul_two false hm hm2 (e := -(m.log2 : Int)) (k := 52) (by omega) (by omega) (by omega) (by omega) (by omega)
  rw [Fl.word_false, Fl.word_false, rung_52] at g7
  have g7' : ∀ W, (binOp .mul 28 (.float .f64 (Fl.rung m (-(m.log2 : Int)))) (.float .f64 4841369599423283200)).run Try.prog W = .ok (.float .f64 (Fl.rung m (-(m.log2 : Int) + 52))) W := fun W => run_float_arith W .mul 28 .f64 _ _ _ g7
  have g8 := Fl.toInt_rung hm hm2 (e := -(m.log2 : Int) + 52) (by omega) (by omega) (by omega)
  rw [show (-(m.log2 : Int) + 52).toNat = 52 - m.log2 by omega] at g8
  obtain ⟨K, hK⟩ : ∃ K, K = m * 2 ^ (52 - m.log2) := ⟨_, rfl⟩
  rw [← hK] at g8
  have hK1 : 4503599627370496 ≤ K := by
    have h0 : K ≠ 0 := by rw [hK]; exact Nat.mul_ne_zero hm (Nat.pos_iff_ne_zero.1 (Nat.pow_pos (by omega)))
    have : 52 ≤ K.log2 := by rw [hK, Fl.log2_shift hm]; omega
    simpa using (Nat.le_log2 h0).1 this
  have hK2 : K < 9007199254740992 := by
    have h0 : K ≠ 0 := by omega
    have : K.log2 < 53 := by rw [hK, Fl.log2_shift hm]; omega
    simpa using (Nat.log2_lt h0).1 this
  have g9 := toIntVal_of g8 (by omega)
  have g9' : ∀ W, (convert 28 52 (.float .f64 (Fl.rung m (-(m.log2 : Int) + 52)))).run Try.prog W = .ok (.int .u64 (K : Int)) W := fun W => run_convert_float_int W 28 52 .f64 .u64 _ _ (by kernel_rfl) Try.underlying52 g9
  clear g5 g7 g8 g9 oz oz2 os hfin1
  rw [Fl.canonF_fin s (by omega), Fl.word_val]
  have hsp := fun w => bits_split.calls hm hm2 e he hE w
  have HN := Aside0.mk hng
  clear hng
  have hfin := Aside0.mk hfin2
  clear hfin2 hfin3
  have mk : bits .and .u64 (K : Int) 4503599627370495 = (K : Int) % 4503599627370496 := u64_mask 52 (by omega) K (by omega) (by omega)
  rcases hform with ⟨f1, f2, f3, f4⟩ | ⟨f1, f2, f3, f4⟩
  ·
    have hn : decide (e + (m.log2 : Int) + 1023 > 0) = false := decide_eq_false (by omega)
    have hKm : (K : Int) / 2 ^ (1 - (e + (m.log2 : Int)) - 1023).toNat = m := by
      rw [show (1 - (e + (m.log2 : Int)) - 1023).toNat = 52 - m.log2 by omega, hK]
      have : 0 < (2 : Nat) ^ (52 - m.log2) := Nat.pow_pos (by omega)
      push_cast
      exact Int.mul_ediv_cancel _ (by have : (0 : Int) < 2 ^ (52 - m.log2) := by exact_mod_cast this
                                      omega)
    have hres := Aside0.mk f4
    have hsh : 0 ≤ 1 - (e + (m.log2 : Int)) - 1023 ∧ 1 - (e + (m.log2 : Int)) - 1023 ≤ 64 := by omega
    have hKm' := Aside0.mk hKm
    clear f2 f4 hKm hK
    cases s
    · rw [Fl.word_false] at g1 g2 ⊢
      go_enter Try.func22, Try.ntmps22
      go_wp2_with (first | (go_at_call 47; (with_reducible refine (bits_Minus.calls1 _ _ _ g1 g2).mono ?_); rintro e' w1 ⟨rfl, nd, rfl⟩) | (go_at_call 48; (with_reducible refine (hsp _).mono ?_); rintro e' w2 ⟨rfl, hb2⟩))
      go_ret
      refine ⟨?_, below_then (pw_below_drewN (Below.refl _ _) _) (Nat.le_refl _) hb2⟩
      have hv : bits BinOp.or IntKind.u64 0 ((K : Int) / 2 ^ (1 - (e + (m.log2 : Int)) - 1023).toNat) = 0 + (Fl.rung m e : Int) := by
        rw [hKm'.out, hres.out]
        exact u64_join 63 _ _ (by omega) (by omega) (by omega) (by omega) (by omega) (by omega)
      rw [Int.zero_add] at hv
      exact congrArg (fun x => Ending.returned (.int .u64 x)) (by simpa using hv)
    · have hng : ∀ W, (Op.unary .neg (.float .f64 (Ieee.double.word true (Fl.rung m e)))).run Try.prog W = .ok (.float .f64 (Fl.rung m e)) W := fun W => by have := HN.out W; rwa [Bool.not_true, Fl.word_false] at this
      go_enter Try.func22, Try.ntmps22
      go_wp2_with (first | (go_at_call 47; (with_reducible refine (bits_Minus.calls1 _ _ _ g1 g2).mono ?_); rintro e' w1 ⟨rfl, nd, rfl⟩) | (go_at_call 48; (with_reducible refine (hsp _).mono ?_); rintro e' w2 ⟨rfl, hb2⟩))
      go_ret
      refine ⟨?_, below_then (pw_below_drewN (Below.refl _ _) _) (Nat.le_refl _) hb2⟩
      have hv : bits BinOp.or IntKind.u64 9223372036854775808 ((K : Int) / 2 ^ (1 - (e + (m.log2 : Int)) - 1023).toNat) = 9223372036854775808 + (Fl.rung m e : Int) := by
        rw [hKm'.out, hres.out]
        exact u64_join 63 _ _ (by omega) (by omega) (by omega) (by omega) (by omega) (by omega)
      exact congrArg (fun x => Ending.returned (.int .u64 x)) (by simpa using hv)
  ·
    have hn : decide (e + (m.log2 : Int) + 1023 > 0) = true := decide_eq_true (by omega)
    have hKm : K = m := by rw [hK, f2]; simp
    have hres := Aside0.mk f4
    have hKm' := Aside0.mk hKm
    have hl := Aside0.mk f2
    have hsh : 0 ≤ e + (m.log2 : Int) + 1023 ∧ e + (m.log2 : Int) + 1023 ≤ 2046 := by omega
    clear f2 f4 hKm hK
    cases s
    · rw [Fl.word_false] at g1 g2 ⊢
      go_enter Try.func22, Try.ntmps22
      go_wp2_with (first | (go_at_call 47; (with_reducible refine (bits_Minus.calls1 _ _ _ g1 g2).mono ?_); rintro e' w1 ⟨rfl, nd, rfl⟩) | (go_at_call 48; (with_reducible refine (hsp _).mono ?_); rintro e' w2 ⟨rfl, hb2⟩))
      go_ret
      refine ⟨?_, below_then (pw_below_drewN (Below.refl _ _) _) (Nat.le_refl _) hb2⟩
      have hv : bits BinOp.or IntKind.u64 (bits BinOp.or IntKind.u64 0 ((e + (m.log2 : Int) + 1023) * 4503599627370496)) ((K : Int) % 4503599627370496) = 0 + (Fl.rung m e : Int) := by
        have h1 := hres.out
        have h2 := hKm'.out
        have h3 := hl.out
        rw [u64_join 63 0 ((e + (m.log2 : Int) + 1023) * 4503599627370496) (by omega) (by omega) (by omega) (by omega) (by omega) (by omega), u64_join 52 _ _ (by omega) (by omega) (by omega) (by omega) (by omega) (by omega)]
        omega
      rw [Int.zero_add] at hv
      exact congrArg (fun x => Ending.returned (.int .u64 x)) (by simpa using hv)
    · have hng : ∀ W, (Op.unary .neg (.float .f64 (Ieee.double.word true (Fl.rung m e)))).run Try.prog W = .ok (.float .f64 (Fl.rung m e)) W := fun W => by have := HN.out W; rwa [Bool.not_true, Fl.word_false] at this
      go_enter Try.func22, Try.ntmps22
      go_wp2_with (first | (go_at_call 47; (with_reducible refine (bits_Minus.calls1 _ _ _ g1 g2).mono ?_); rintro e' w1 ⟨rfl, nd, rfl⟩) | (go_at_call 48; (with_reducible refine (hsp _).mono ?_); rintro e' w2 ⟨rfl, hb2⟩))
      go_ret
      refine ⟨?_, below_then (pw_below_drewN (Below.refl _ _) _) (Nat.le_refl _) hb2⟩
      have hv : bits BinOp.or IntKind.u64 (bits BinOp.or IntKind.u64 9223372036854775808 ((e + (m.log2 : Int) + 1023) * 4503599627370496)) ((K : Int) % 4503599627370496) = 9223372036854775808 + (Fl.rung m e : Int) := by
        have h1 := hres.out
        have h2 := hKm'.out
        have h3 := hl.out
        rw [u64_join 63 9223372036854775808 ((e + (m.log2 : Int) + 1023) * 4503599627370496) (by omega) (by omega) (by omega) (by omega) (by omega) (by omega), u64_join 52 _ _ (by omega) (by omega) (by omega) (by omega) (by omega) (by omega)]
        omega
      exact congrArg (fun x => Ending.returned (.int .u64 x)) (by simpa using hv)
set_option maxRecDepth 100000 in
theorem bits_Bits.calls (bv0 : Nat) (a0 : Int) (r : Int) (w : World) (bq0 : FB bv0 a0) (h : bits_Bits.f a0 = some r) :
    Calls Try.prog 22 #[.float .f64 bv0] w fun e_ w' => e_ = .returned (.int .u64 r) ∧ Below w.heap.size w w' := by
  obtain rfl := Option.some.inj h
  clear h
  rw [bq0.eq]
  rcases Fl.classify bv0 bq0.lt with hn | hz | hz | ⟨s, m, e, hm, hm2, he, hE, hz, hform⟩
  · exact bits_Bits.nan _ w hn
  · obtain ⟨s, hz⟩ := hz
    rw [hz]
    exact bits_Bits.zero s w
  · obtain ⟨s, hz⟩ := hz
    rw [hz]
    exact bits_Bits.inf s w
  · rw [hz]
    exact bits_Bits.fin s w hm hm2 he hE hform
def rows_One.g (k : Nat) : List Int → ByteArray → Option ByteArray
  | [], acc => some acc
  | x :: xs, acc => (pack_Put.f k (IntKind.u64.wrap x)).bind fun a => if acc.size + a.size ≤ 140737488355328 then rows_One.g k xs (acc ++ a) else none
def rows_One.f (k : Nat) (a0_0 : Int) (a0_1 : Int) (a0_2 : Int) (a0_3 : Int) (a0_4 : ByteArray) (a0_5 : Int) : Option ByteArray :=
  (rows_One.g k [a0_0, a0_1, a0_2, a0_3] ByteArray.empty).bind fun s => (word_Put.f k a0_4).bind fun t => if s.size + t.size ≤ 140737488355328 then (pack_Fixed.f k a0_5).bind fun u => if (s ++ t).size + u.size ≤ 140737488355328 then some ((s ++ t) ++ u) else none else none
theorem below_lower {B B' : Nat} {w W : World} (h : Below B w W) (hB : B' ≤ B) : Below B' w W := ⟨h.os, h.tape, h.output, h.size, fun i hi => h.block i (Nat.lt_of_lt_of_le hi hB)⟩
theorem rows_One.mono_g (k : Nat) (l : List Int) : ∀ acc, LeO (rows_One.g k l acc) (rows_One.g (k + 1) l acc) := by
  induction l with
  | nil => intro acc; exact LeO.refl _
  | cons x xs ih =>
    intro acc
    unfold rows_One.g
    exact LeO.bind (pack_Put.mono _ _) fun a => LeO.ite (ih _) (LeO.refl _)
theorem rows_One.mono : ∀ a0 a1 a2 a3 a4 a5 k, LeO (rows_One.f k a0 a1 a2 a3 a4 a5) (rows_One.f (k + 1) a0 a1 a2 a3 a4 a5) := by
  intro a0 a1 a2 a3 a4 a5 k
  exact LeO.bind (rows_One.mono_g _ _ _) fun s => LeO.bind (word_Put.mono _ _) fun t => LeO.ite (LeO.bind (pack_Fixed.mono _ _) fun u => LeO.refl _) (LeO.refl _)
set_option maxHeartbeats 8000000 in
set_option maxRecDepth 100000 in
theorem rows_One.calls (k : Nat) (a0_0 : Int) (a0_1 : Int) (a0_2 : Int) (a0_3 : Int) (a0_4 : ByteArray) (bv0_5 : Nat) (a0_5 : Int) (r : ByteArray) (w : World) (bq0_5 : FB bv0_5 a0_5) (h : rows_One.f k a0_0 a0_1 a0_2 a0_3 a0_4 a0_5 = some r) :
    Calls Try.prog 9 #[.agg #[.int .i64 a0_0, .int .i64 a0_1, .int .i64 a0_2, .int .i64 a0_3, .string a0_4, .float .f64 bv0_5]] w fun e w' => e = .returned (.string r) ∧ Below w.heap.size w w' := by
  have hu1 := Try.underlying30
  have hu2 := Try.underlying27
  have hu3 := Try.underlying46
  unfold rows_One.f at h
  obtain ⟨s, H1, h⟩ := Option.bind_eq_some_iff.mp h
  obtain ⟨t, H2, h⟩ := Option.bind_eq_some_iff.mp h
  by_cases hs1 : s.size + t.size ≤ 140737488355328
  case neg => rw [if_neg hs1] at h; exact absurd h (by simp)
  rw [if_pos hs1] at h
  obtain ⟨u, H3, h⟩ := Option.bind_eq_some_iff.mp h
  by_cases hs2 : (s ++ t).size + u.size ≤ 140737488355328
  case neg => rw [if_neg hs2] at h; exact absurd h (by simp)
  rw [if_pos hs2] at h
  obtain rfl := Option.some.inj h
  have A1 := Aside0.mk H1
  have A2 := Aside0.mk H2
  have A3 := Aside0.mk H3
  have S1 := Aside0.mk hs1
  have S2 := Aside0.mk hs2
  clear H1 H2 H3 h hs1 hs2
  have BQ := Aside0.mk bq0_5
  clear bq0_5
  go_enter Try.func9, Try.ntmps9
  go_wp2
  obtain ⟨gb, hgb⟩ : ∃ gb, gb = w.heap.size + 1 := ⟨_, rfl⟩
  obtain ⟨gm, hgm⟩ : ∃ gm, gm = w.heap.size := ⟨_, rfl⟩
  obtain ⟨w2, hw2⟩ : ∃ W, W = ((w.alloc (.cells #[.int .i64 a0_0, .int .i64 a0_1, .int .i64 a0_2, .int .i64 a0_3, .string a0_4, .float .f64 bv0_5] 30)).alloc (.cells #[.pointer none, .slice none 0 0] 45)) := ⟨_, rfl⟩
  have HBl : Aside0 (Build.Bld gb gb ByteArray.empty w2) := ⟨by
    have h := Build.Bld.fresh (w.alloc (.cells #[.int .i64 a0_0, .int .i64 a0_1, .int .i64 a0_2, .int .i64 a0_3, .string a0_4, .float .f64 bv0_5] 30))
    rw [← hw2] at h
    rw [hgb]
    simpa using h⟩
  have BM : Aside0 (w2.heap[gm]? = some (.cells #[.int .i64 a0_0, .int .i64 a0_1, .int .i64 a0_2, .int .i64 a0_3, .string a0_4, .float .f64 bv0_5] 30 (0, 0))) := ⟨by rw [hw2, hgm]; exact blk_alloc (blk_new w _) _⟩
  have HB : Aside0 (Below w.heap.size w w2) := ⟨by rw [hw2]; exact ((Below.refl _ _).alloc (Nat.le_refl _) _).alloc (by simp) _⟩
  have hgm' : w.heap.size ≤ gb := by omega
  rw [← hw2, ← hgb, ← hgm]
  have HG := Aside0.mk hgm'
  clear hw2 hgb hgm hgm'
  go_loopg [17] 5 (fun kq v17 w' => ∃ (i : Int) (acc : ByteArray), v17 = .int .i64 i ∧ Aside0 (0 ≤ i ∧ i ≤ 4 ∧ 4 - i < kq) ∧ Aside0 (rows_One.g k ([a0_0, a0_1, a0_2, a0_3].drop i.toNat) acc = some s) ∧ Aside0 (Build.Bld gb gb acc w') ∧ Aside0 (w'.heap[gm]? = some (.cells #[.int .i64 a0_0, .int .i64 a0_1, .int .i64 a0_2, .int .i64 a0_3, .string a0_4, .float .f64 bv0_5] 30 (0, 0))) ∧ Aside0 (Below w.heap.size w w'))
  case atStart => exact ⟨0, ByteArray.empty, by first | rfl | simp, ⟨by omega⟩, A1, HBl, BM, HB⟩
  case round =>
    clear HBl BM HB A1
    obtain ⟨i, acc, rfl, HK, A1, HBl, BM, HB⟩ := hrel
    by_cases hi : i < 4
    · cases gk with
      | zero => have := HK.out; exact absurd this (by omega)
      | succ k1 =>
        obtain ⟨x, rest, hx, hdrop⟩ : ∃ x rest, (∀ W, (Instr.index 46 (.agg #[.int .i64 a0_0, .int .i64 a0_1, .int .i64 a0_2, .int .i64 a0_3]) (.int .i64 i)).run Try.prog W = .ok (.int .i64 x) W) ∧ [a0_0, a0_1, a0_2, a0_3].drop i.toNat = x :: [a0_0, a0_1, a0_2, a0_3].drop (i.toNat + 1) ∧ rest = () := by
          have h4 : i = 0 ∨ i = 1 ∨ i = 2 ∨ i = 3 := by have := HK.out; omega
          rcases h4 with rfl | rfl | rfl | rfl
          · exact ⟨a0_0, (), fun W => by kernel_rfl, rfl, rfl⟩
          · exact ⟨a0_1, (), fun W => by kernel_rfl, rfl, rfl⟩
          · exact ⟨a0_2, (), fun W => by kernel_rfl, rfl, rfl⟩
          · exact ⟨a0_3, (), fun W => by kernel_rfl, rfl, rfl⟩
        have hg := A1.out
        rw [hdrop.1] at hg
        unfold rows_One.g at hg
        obtain ⟨p, hp, hg⟩ := Option.bind_eq_some_iff.mp hg
        by_cases hz : acc.size + p.size ≤ 140737488355328
        case neg => rw [if_neg hz] at hg; exact absurd hg (by simp)
        rw [if_pos hz] at hg
        have AG := Aside0.mk hg
        have AP := Aside0.mk hp
        have AZ := Aside0.mk hz
        have HX := Aside0.mk hx
        have c1 : decide (i < 4) = true := decide_eq_true hi
        have hk := HK.out
        have rw1 : IntKind.i64.wrap (i + 1) = i + 1 := by rw [IntKind.wrap_i64]; omega
        clear hg hp hz hx hdrop A1
        go_wp2_with (first | ((with_reducible refine gate_dst (N := 19) rfl ?_); refine Kd.event_run rfl (index_run rfl rfl rfl (HX.out _)) ?_) | (go_at_call 19; (with_reducible refine (pack_Put.calls k _ p _ AP.out).mono ?_); rintro e w5 ⟨rfl, hb⟩; have n0_ := Aside0.mk (HBl.out.below hb); have n1_ := Aside0.mk ((hb.block _ (blk_lt BM.out)).trans BM.out); have n2_ := Aside0.mk (below_step HB.out hb); clear HBl BM HB hb; have HBl := n0_; have BM := n1_; have HB := n2_; clear n0_ n1_ n2_) | (go_at_call 18; (with_reducible refine (Build.write gb gb acc p _ HBl.out AZ.out (Nat.le_of_lt HBl.out.lt)).mono ?_); rintro e w6 ⟨rfl, hbl, hb, hk⟩; obtain ⟨bs, hbs⟩ := HBl.out.block; have n1_ := Aside0.mk (Build.block_kept hk hbs BM.out (by decide)); have n2_ := Aside0.mk (HB.out.trans (below_lower hb HG.out)); clear HBl BM HB hb hk hbs; have HBl := Aside0.mk hbl; have BM := n1_; have HB := n2_; clear n1_ n2_ hbl))
        go_roundg k1
        case measure => omega
        case rel => exact ⟨i + 1, acc ++ p, by first | rfl | simp [goInt, rw1], ⟨by omega⟩, ⟨by rw [show (i + 1).toNat = i.toNat + 1 by omega]; exact AG.out⟩, HBl, BM, HB⟩
    · have c1 : decide (i < 4) = false := decide_eq_false hi
      have hg := A1.out
      rw [List.drop_eq_nil_of_le (by have := HK.out; simp; omega)] at hg
      unfold rows_One.g at hg
      obtain rfl := Option.some.inj hg
      clear hg A1
      have hc4 := (blk_cell BM.out 4).trans rfl
      go_wp2_with (first | (go_at_call 20; (with_reducible refine (word_Put.calls k _ t _ A2.out).mono ?_); rintro e w5 ⟨rfl, hb⟩; have n0_ := Aside0.mk (HBl.out.below hb); have n1_ := Aside0.mk ((hb.block _ (blk_lt BM.out)).trans BM.out); have n2_ := Aside0.mk (below_step HB.out hb); clear HBl BM HB hb; have HBl := n0_; have BM := n1_; have HB := n2_; clear n0_ n1_ n2_))
      go_wp2_with (first | (go_at_call 18; (with_reducible refine (Build.write gb gb acc t _ HBl.out S1.out (Nat.le_of_lt HBl.out.lt)).mono ?_); rintro e w6 ⟨rfl, hbl, hb, hk⟩; obtain ⟨bs, hbs⟩ := HBl.out.block; have n1_ := Aside0.mk (Build.block_kept hk hbs BM.out (by decide)); have n2_ := Aside0.mk (HB.out.trans (below_lower hb HG.out)); clear HBl BM HB hb hk hbs; have HBl := Aside0.mk hbl; have BM := n1_; have HB := n2_; clear n1_ n2_ hbl; have hc5 := (blk_cell BM.out 5).trans rfl))
      go_wp2_with (first | (go_at_call 22; (with_reducible refine (bits_Bits.calls _ _ a0_5 _ BQ.out rfl).mono ?_); rintro e w5 ⟨rfl, hb⟩; have n0_ := Aside0.mk (HBl.out.below hb); have n1_ := Aside0.mk ((hb.block _ (blk_lt BM.out)).trans BM.out); have n2_ := Aside0.mk (below_step HB.out hb); clear HBl BM HB hb; have HBl := n0_; have BM := n1_; have HB := n2_; clear n0_ n1_ n2_))
      go_wp2_with (first | (go_at_call 21; (with_reducible refine (pack_Fixed.calls k _ u _ A3.out).mono ?_); rintro e w5 ⟨rfl, hb⟩; have n0_ := Aside0.mk (HBl.out.below hb); have n1_ := Aside0.mk ((hb.block _ (blk_lt BM.out)).trans BM.out); have n2_ := Aside0.mk (below_step HB.out hb); clear HBl BM HB hb; have HBl := n0_; have BM := n1_; have HB := n2_; clear n0_ n1_ n2_))
      go_wp2_with (first | (go_at_call 18; (with_reducible refine (Build.write gb gb (acc ++ t) u _ HBl.out S2.out (Nat.le_of_lt HBl.out.lt)).mono ?_); rintro e w6 ⟨rfl, hbl, hb, hk⟩; obtain ⟨bs, hbs⟩ := HBl.out.block; have n1_ := Aside0.mk (Build.block_kept hk hbs BM.out (by decide)); have n2_ := Aside0.mk (HB.out.trans (below_lower hb HG.out)); clear HBl BM HB hb hk hbs; have HBl := Aside0.mk hbl; have BM := n1_; have HB := n2_; clear n1_ n2_ hbl))
      go_wp2_with (first | (go_at_call 23; (with_reducible refine (Build.string gb gb _ _ HBl.out (Nat.le_of_lt HBl.out.lt)).mono ?_); rintro e w9 ⟨rfl, hb, hk⟩; have n2_ := Aside0.mk (HB.out.trans (below_lower hb HG.out)); clear HB; have HB := n2_; clear n2_))
      go_ret
      exact ⟨rfl, HB.out⟩
end Go.Proofs.Ytfgnjndfnijjoaa.Print
end
section
namespace Go.Proofs.Ytfgnjndfnijjoaa.Print
open Go.RowKit Go.Proofs.YtfgnjndfnijjoaaW.PrintWords Go.Proofs.YtfgnjndfnijjoaaW.PrintLast Go.Proofs.YtfgnjndfnijjoaaW.PrintMore
attribute [local go_sem] max2_int min2_int max_two min_two max_three min_three max_four min_four
attribute [local go_sem] run_store_float
set_option linter.unusedVariables false
set_option linter.unusedSimpArgs false
def beforeB (a0 a1 b0 b1 : Int) : Bool := decide (a0 < b0) || (decide (a0 = b0) && decide (a1 < b1))
def rank_Before.f (a0_0 : Int) (a0_1 : Int) (a1_0 : Int) (a1_1 : Int) : Option Bool := some (beforeB a0_0 a0_1 a1_0 a1_1)
def cmpI (x y : Int) : Int := if x < y then -1 else if x > y then 1 else 0
set_option maxHeartbeats 8000000 in
set_option maxRecDepth 100000 in
theorem nan_int (x : Int) (w : World) : Calls Try.prog 87 #[.int .i64 x] w fun e w' => e = .returned (.bool false) ∧ w' = w := by
  have h : (x != x) = false := by simp
  go_enter Try.func87, Try.ntmps87
  go_wp2
  go_ret
  exact ⟨by first | rfl | simp, rfl⟩
set_option maxHeartbeats 8000000 in
set_option maxRecDepth 100000 in
theorem cmp_int (x y : Int) (w : World) : Calls Try.prog 67 #[.int .i64 x, .int .i64 y] w fun e w' => e = .returned (.int .i64 (cmpI x y)) ∧ w' = w := by
  unfold cmpI
  by_cases h1 : x < y
  · have c1 : decide (x < y) = true := decide_eq_true h1
    rw [if_pos h1]
    go_enter Try.func67, Try.ntmps67
    go_wp2_with (first | (go_at_call 87; (with_reducible refine (nan_int _ _).mono ?_); rintro e' w1 ⟨rfl, rfl⟩))
    go_ret
    exact ⟨rfl, rfl⟩
  · have c1 : decide (x < y) = false := decide_eq_false h1
    rw [if_neg h1]
    by_cases h2 : x > y
    · have c2 : decide (x > y) = true := decide_eq_true h2
      rw [if_pos h2]
      go_enter Try.func67, Try.ntmps67
      go_wp2_with (first | (go_at_call 87; (with_reducible refine (nan_int _ _).mono ?_); rintro e' w1 ⟨rfl, rfl⟩))
      go_ret
      exact ⟨rfl, rfl⟩
    · have c2 : decide (x > y) = false := decide_eq_false h2
      rw [if_neg h2]
      go_enter Try.func67, Try.ntmps67
      go_wp2_with (first | (go_at_call 87; (with_reducible refine (nan_int _ _).mono ?_); rintro e' w1 ⟨rfl, rfl⟩))
      go_ret
      exact ⟨rfl, rfl⟩
section
variable (a b c d : Int) (ga gb gs : Nat) (w : World)
set_option maxHeartbeats 8000000 in
set_option maxRecDepth 100000 in
theorem before_1 (ha : w.heap[ga]? = some (.cells #[.int .i64 a, .int .i64 b] 27 (0, 0))) (hb : w.heap[gb]? = some (.cells #[.int .i64 c, .int .i64 d] 27 (0, 0))) :
    Calls Try.prog 66 #[.pointer (some ⟨ga, 0, none⟩), .pointer (some ⟨gb, 0, none⟩)] w fun e w' => e = .returned (.int .i64 (cmpI a c)) ∧ w' = w := by
  have h1 : w.cell? ⟨ga, 0, none⟩ = some (.int .i64 a) := (blk_cell ha 0).trans rfl
  have h2 : w.cell? ⟨gb, 0, none⟩ = some (.int .i64 c) := (blk_cell hb 0).trans rfl
  have hu := Try.underlying27
  clear ha hb
  go_enter Try.func66, Try.ntmps66
  go_wp2_with (first | (go_at_call 67; (with_reducible refine (cmp_int _ _ _).mono ?_); rintro e' w1 ⟨rfl, rfl⟩))
  go_ret
  exact ⟨rfl, rfl⟩
set_option maxHeartbeats 8000000 in
set_option maxRecDepth 100000 in
theorem before_2 (ha : w.heap[ga]? = some (.cells #[.int .i64 a, .int .i64 b] 27 (0, 0))) (hb : w.heap[gb]? = some (.cells #[.int .i64 c, .int .i64 d] 27 (0, 0))) :
    Calls Try.prog 68 #[.pointer (some ⟨ga, 0, none⟩), .pointer (some ⟨gb, 0, none⟩)] w fun e w' => e = .returned (.int .i64 (cmpI b d)) ∧ w' = w := by
  have h1 : w.cell? ⟨ga, 1, none⟩ = some (.int .i64 b) := (blk_cell ha 1).trans rfl
  have h2 : w.cell? ⟨gb, 1, none⟩ = some (.int .i64 d) := (blk_cell hb 1).trans rfl
  have hu := Try.underlying27
  clear ha hb
  go_enter Try.func68, Try.ntmps68
  go_wp2_with (first | (go_at_call 67; (with_reducible refine (cmp_int _ _ _).mono ?_); rintro e' w1 ⟨rfl, rfl⟩))
  go_ret
  exact ⟨rfl, rfl⟩
set_option maxHeartbeats 8000000 in
set_option maxRecDepth 100000 in
theorem before_first (ha : w.heap[ga]? = some (.cells #[.int .i64 a, .int .i64 b] 27 (0, 0))) (hb : w.heap[gb]? = some (.cells #[.int .i64 c, .int .i64 d] 27 (0, 0))) {ft : Nat}
    (hs : w.heap[gs]? = some (.cells #[.func (.func 66) #[] #[.pointer (some ⟨ga, 0, none⟩), .pointer (some ⟨gb, 0, none⟩)], .func (.func 68) #[] #[.pointer (some ⟨ga, 0, none⟩), .pointer (some ⟨gb, 0, none⟩)]] ft (0, 0))) :
    Calls Try.prog 65 #[.slice (some ⟨gs, 0, none⟩) 2 2] w fun e w' => e = .returned (.int .i64 (if cmpI a c ≠ 0 then cmpI a c else cmpI b d)) ∧ w' = w := by
  have h1 : w.cell? ⟨gs, 0, none⟩ = some (.func (.func 66) #[] #[.pointer (some ⟨ga, 0, none⟩), .pointer (some ⟨gb, 0, none⟩)]) := (blk_cell hs 0).trans rfl
  have h2 : w.cell? ⟨gs, 1, none⟩ = some (.func (.func 68) #[] #[.pointer (some ⟨ga, 0, none⟩), .pointer (some ⟨gb, 0, none⟩)]) := (blk_cell hs 1).trans rfl
  have HA := Aside0.mk ha
  have HB := Aside0.mk hb
  clear ha hb hs
  obtain ⟨R, hR⟩ : ∃ R, R = (if cmpI a c ≠ 0 then cmpI a c else cmpI b d) := ⟨_, rfl⟩
  rw [← hR]
  have HR := Aside0.mk hR
  clear hR
  go_enter Try.func65, Try.ntmps65
  go_wp2
  go_loopg [8] 3 (fun kq v8 w' => ∃ (i : Int), v8 = .int .i64 i ∧ Aside0 (0 ≤ i ∧ i ≤ 2 ∧ 2 - i < kq ∧ (1 ≤ i → cmpI a c = 0) ∧ (2 ≤ i → cmpI b d = 0)) ∧ Aside0 (w' = w))
  case atStart => exact ⟨0, by first | rfl | simp, ⟨by omega⟩, ⟨rfl⟩⟩
  case round =>
    obtain ⟨i, rfl, HK, HW⟩ := hrel
    have e1 := HW.out
    subst e1
    have h3 : i = 0 ∨ i = 1 ∨ i = 2 := by have := HK.out; omega
    rcases h3 with rfl | rfl | rfl
    · by_cases hc : cmpI a c = 0
      · have c1 : (cmpI a c != 0) = false := by simp [hc]
        cases gk with
        | zero => have := HK.out; exact absurd this (by omega)
        | succ k1 =>
          have HC := Aside0.mk hc
          clear hc
          go_wp2_with (first | (go_at_call 66; (with_reducible refine (before_1 a b c d ga gb _ HA.out HB.out).mono ?_); rintro e' w1 ⟨rfl, rfl⟩))
          go_roundg k1
          case measure => have := HK.out; omega
          case rel => exact ⟨1, by first | rfl | simp [goInt], ⟨by have := HK.out; have := HC.out; omega⟩, ⟨rfl⟩⟩
      · have c1 : (cmpI a c != 0) = true := by simp [hc]
        have HC := Aside0.mk hc
        clear hc
        go_wp2_with (first | (go_at_call 66; (with_reducible refine (before_1 a b c d ga gb _ HA.out HB.out).mono ?_); rintro e' w1 ⟨rfl, rfl⟩))
        go_ret
        have hR := HR.out
        rw [if_pos HC.out] at hR
        exact ⟨by rw [hR]; rfl, rfl⟩
    · by_cases hc : cmpI b d = 0
      · have c1 : (cmpI b d != 0) = false := by simp [hc]
        cases gk with
        | zero => have := HK.out; exact absurd this (by omega)
        | succ k1 =>
          have HC := Aside0.mk hc
          clear hc
          go_wp2_with (first | (go_at_call 68; (with_reducible refine (before_2 a b c d ga gb _ HA.out HB.out).mono ?_); rintro e' w1 ⟨rfl, rfl⟩))
          go_roundg k1
          case measure => have := HK.out; omega
          case rel => exact ⟨2, by first | rfl | simp [goInt], ⟨by have := HK.out; have := HC.out; omega⟩, ⟨rfl⟩⟩
      · have c1 : (cmpI b d != 0) = true := by simp [hc]
        have HC := Aside0.mk hc
        clear hc
        go_wp2_with (first | (go_at_call 68; (with_reducible refine (before_2 a b c d ga gb _ HA.out HB.out).mono ?_); rintro e' w1 ⟨rfl, rfl⟩))
        go_ret
        have hR := HR.out
        rw [if_neg (by have := HK.out; omega)] at hR
        exact ⟨by rw [hR]; rfl, rfl⟩
    · go_wp2
      go_ret
      have hR := HR.out
      have hk := HK.out
      have e1 := hk.2.2.2.1 (by omega)
      have e2 := hk.2.2.2.2 (by omega)
      rw [if_neg (by omega), e2] at hR
      exact ⟨by rw [hR]; rfl, rfl⟩
theorem before_first' (ha : w.heap[ga]? = some (.cells #[.int .i64 a, .int .i64 b] 27 (0, 0))) (hb : w.heap[gb]? = some (.cells #[.int .i64 c, .int .i64 d] 27 (0, 0))) {ft : Nat}
    (hs : w.heap[gs]? = some (.cells #[.func (.func 66) #[] #[.pointer (some ⟨ga, 0, none⟩), .pointer (some ⟨gb, 0, none⟩)], .func (.func 68) #[] #[.pointer (some ⟨ga, 0, none⟩), .pointer (some ⟨gb, 0, none⟩)]] ft (0, 0))) :
    Calls Try.prog 65 #[.slice (some ⟨gs, 0, none⟩) 2 2] w fun e w' => ∃ R : Int, Aside0 (R = if cmpI a c ≠ 0 then cmpI a c else cmpI b d) ∧ e = .returned (.int .i64 R) ∧ w' = w :=
  (before_first a b c d ga gb gs w ha hb hs).mono fun e w' h => ⟨_, ⟨rfl⟩, h⟩
end
theorem beforeB_eq (a b c d : Int) : decide ((if cmpI a c ≠ 0 then cmpI a c else cmpI b d) < 0) = beforeB a b c d := by
  unfold cmpI beforeB
  rcases Int.lt_trichotomy a c with h | h | h
  · simp [h]
  · subst h
    rcases Int.lt_trichotomy b d with h | h | h
    · simp [h]
    · subst h; simp
    · have h2 : ¬ b < d := by omega
      simp [h, h2]
  · have h2 : ¬ a < c := by omega
    have h3 : ¬ a = c := by omega
    simp [h, h2, h3]
theorem three_0 (w : World) (A B C : Obj) : (((w.alloc A).alloc B).alloc C).heap[w.heap.size]? = some A := blk_alloc (blk_alloc (blk_new w A) B) C
theorem three_1 (w : World) (A B C : Obj) : (((w.alloc A).alloc B).alloc C).heap[w.heap.size + 1]? = some B := by
  have := blk_alloc (blk_new (w.alloc A) B) C
  simpa using this
theorem three_2 (w : World) (A B C : Obj) : (((w.alloc A).alloc B).alloc C).heap[w.heap.size + 1 + 1]? = some C := by
  have := blk_new ((w.alloc A).alloc B) C
  simpa using this
set_option maxHeartbeats 8000000 in
set_option maxRecDepth 100000 in
theorem rank_Before.calls (a0_0 : Int) (a0_1 : Int) (a1_0 : Int) (a1_1 : Int) (r : Bool) (w : World) (h : rank_Before.f a0_0 a0_1 a1_0 a1_1 = some r) :
    Calls Try.prog 33 #[.agg #[.int .i64 a0_0, .int .i64 a0_1], .agg #[.int .i64 a1_0, .int .i64 a1_1]] w fun e w' => e = .returned (.bool r) ∧ Below w.heap.size w w' := by
  obtain rfl := Option.some.inj h
  clear h
  have hmf : ∀ (fn : Fn) (first cap : Array Value) (w : World), (Instr.makeFunc fn first cap).run Try.prog w = .ok (.func fn first cap) w := fun _ _ _ _ => rfl
  have hu := Try.underlying27
  have HB := Aside0.mk (Below.refl w.heap.size w)
  go_enter Try.func33, Try.ntmps33
  go_wp2_with (first | (go_at_call 65; refine (before_first' a0_0 a0_1 a1_0 a1_1 _ _ _ _ (three_0 _ _ _ _) (three_1 _ _ _ _) (three_2 _ _ _ _)).mono ?_; rintro e' w1 ⟨R, hR, rfl, rfl⟩))
  go_ret
  refine ⟨?_, ((HB.out.alloc (Nat.le_refl _) _).alloc (by simp) _).alloc (by simp; omega) _⟩
  have h := beforeB_eq a0_0 a0_1 a1_0 a1_1
  rw [← hR.out] at h
  rw [← h]
  rfl
def word_head.f (a0 : Int) : Option (Int × Int × Int × Bool) := if a0 < 128 then (some (0, 128, 191, true)) else (if a0 < 194 then (some (0, 128, 191, false)) else (if a0 < 224 then (some (1, 128, 191, true)) else (if a0 < 240 then (if a0 = 224 then (some (2, 160, 191, true)) else (if a0 = 237 then (some (2, 128, 159, true)) else (some (2, 128, 191, true)))) else (if a0 < 245 then (if a0 = 240 then (some (3, 144, 191, true)) else (if a0 = 244 then (some (3, 128, 143, true)) else (some (3, 128, 191, true)))) else (some (0, 128, 191, false))))))
set_option maxHeartbeats 8000000 in
set_option maxRecDepth 100000 in
theorem word_head.calls (a0 : Int) (r1 : Int) (r2 : Int) (r3 : Int) (r4 : Bool) (w : World) (h : word_head.f a0 = some (r1, r2, r3, r4)) :
    Calls Try.prog 94 #[.int .u8 a0] w fun e w' => e = .returned (.tuple #[.int .i64 r1, .int .u8 r2, .int .u8 r3, .bool r4]) ∧ Drawn0 w w' := by
  have H : (if a0 < 128 then (some (0, 128, 191, true)) else (if a0 < 194 then (some (0, 128, 191, false)) else (if a0 < 224 then (some (1, 128, 191, true)) else (if a0 < 240 then (if a0 = 224 then (some (2, 160, 191, true)) else (if a0 = 237 then (some (2, 128, 159, true)) else (some (2, 128, 191, true)))) else (if a0 < 245 then (if a0 = 240 then (some (3, 144, 191, true)) else (if a0 = 244 then (some (3, 128, 143, true)) else (some (3, 128, 191, true)))) else (some (0, 128, 191, false))))))) = some (r1, r2, r3, r4) := h
  clear h
  by_cases c2 : a0 < 128
  · rw [if_pos c2] at H
    have c2b0 : decide (a0 < 128) = true := decide_eq_true c2
    clear c2
    simp only [Option.some.injEq, Prod.mk.injEq] at H
    obtain ⟨rfl, rfl, rfl, rfl⟩ := H
    go_enter Try.func94, Try.ntmps94
    go_wp2
    refine bodyPost_ret (results_list (rs := [.tmp 2, .tmp 3, .tmp 4, .tmp 5]) rfl (by simp) (.tmp (.tmp (.tmp (.tmp .nil))))) rfl ?_
    exact ⟨by first | rfl | (simp; done) | (simp [*]; done), by repeat (first | exact Drawn0.refl _ | apply Drawn0.step)⟩
  · rw [if_neg c2] at H
    have c2b0 : decide (a0 < 128) = false := decide_eq_false c2
    clear c2
    by_cases c3 : a0 < 194
    · rw [if_pos c3] at H
      have c3b0 : decide (a0 < 194) = true := decide_eq_true c3
      clear c3
      simp only [Option.some.injEq, Prod.mk.injEq] at H
      obtain ⟨rfl, rfl, rfl, rfl⟩ := H
      go_enter Try.func94, Try.ntmps94
      go_wp2
      refine bodyPost_ret (results_list (rs := [.tmp 2, .tmp 3, .tmp 4, .tmp 5]) rfl (by simp) (.tmp (.tmp (.tmp (.tmp .nil))))) rfl ?_
      exact ⟨by first | rfl | (simp; done) | (simp [*]; done), by repeat (first | exact Drawn0.refl _ | apply Drawn0.step)⟩
    · rw [if_neg c3] at H
      have c3b0 : decide (a0 < 194) = false := decide_eq_false c3
      clear c3
      by_cases c4 : a0 < 224
      · rw [if_pos c4] at H
        have c4b0 : decide (a0 < 224) = true := decide_eq_true c4
        clear c4
        simp only [Option.some.injEq, Prod.mk.injEq] at H
        obtain ⟨rfl, rfl, rfl, rfl⟩ := H
        go_enter Try.func94, Try.ntmps94
        go_wp2
        refine bodyPost_ret (results_list (rs := [.tmp 2, .tmp 3, .tmp 4, .tmp 5]) rfl (by simp) (.tmp (.tmp (.tmp (.tmp .nil))))) rfl ?_
        exact ⟨by first | rfl | (simp; done) | (simp [*]; done), by repeat (first | exact Drawn0.refl _ | apply Drawn0.step)⟩
      · rw [if_neg c4] at H
        have c4b0 : decide (a0 < 224) = false := decide_eq_false c4
        clear c4
        by_cases c5 : a0 < 240
        · rw [if_pos c5] at H
          have c5b0 : decide (a0 < 240) = true := decide_eq_true c5
          clear c5
          by_cases c6 : a0 = 224
          · rw [if_pos c6] at H
            have c6b0 : (a0 == 224) = true := beq_iff_eq.mpr c6
            have c6b1 : (a0 != 224) = false := bne_eq_false_iff_eq.mpr c6
            clear c6
            simp only [Option.some.injEq, Prod.mk.injEq] at H
            obtain ⟨rfl, rfl, rfl, rfl⟩ := H
            go_enter Try.func94, Try.ntmps94
            go_wp2
            refine bodyPost_ret (results_list (rs := [.tmp 2, .tmp 3, .tmp 4, .tmp 5]) rfl (by simp) (.tmp (.tmp (.tmp (.tmp .nil))))) rfl ?_
            exact ⟨by first | rfl | (simp; done) | (simp [*]; done), by repeat (first | exact Drawn0.refl _ | apply Drawn0.step)⟩
          · rw [if_neg c6] at H
            have c6b0 : (a0 == 224) = false := beq_eq_false_iff_ne.mpr c6
            have c6b1 : (a0 != 224) = true := bne_iff_ne.mpr c6
            by_cases c7 : a0 = 237
            · rw [if_pos c7] at H
              have c7b0 : (a0 == 237) = true := beq_iff_eq.mpr c7
              have c7b1 : (a0 != 237) = false := bne_eq_false_iff_eq.mpr c7
              clear c7
              simp only [Option.some.injEq, Prod.mk.injEq] at H
              obtain ⟨rfl, rfl, rfl, rfl⟩ := H
              go_enter Try.func94, Try.ntmps94
              go_wp2
              refine bodyPost_ret (results_list (rs := [.tmp 2, .tmp 3, .tmp 4, .tmp 5]) rfl (by simp) (.tmp (.tmp (.tmp (.tmp .nil))))) rfl ?_
              exact ⟨by first | rfl | (simp; done) | (simp [*]; done), by repeat (first | exact Drawn0.refl _ | apply Drawn0.step)⟩
            · rw [if_neg c7] at H
              have c7b0 : (a0 == 237) = false := beq_eq_false_iff_ne.mpr c7
              have c7b1 : (a0 != 237) = true := bne_iff_ne.mpr c7
              simp only [Option.some.injEq, Prod.mk.injEq] at H
              obtain ⟨rfl, rfl, rfl, rfl⟩ := H
              go_enter Try.func94, Try.ntmps94
              go_wp2
              refine bodyPost_ret (results_list (rs := [.tmp 2, .tmp 3, .tmp 4, .tmp 5]) rfl (by simp) (.tmp (.tmp (.tmp (.tmp .nil))))) rfl ?_
              exact ⟨by first | rfl | (simp; done) | (simp [*]; done), by repeat (first | exact Drawn0.refl _ | apply Drawn0.step)⟩
        · rw [if_neg c5] at H
          have c5b0 : decide (a0 < 240) = false := decide_eq_false c5
          clear c5
          by_cases c8 : a0 < 245
          · rw [if_pos c8] at H
            have c8b0 : decide (a0 < 245) = true := decide_eq_true c8
            clear c8
            by_cases c9 : a0 = 240
            · rw [if_pos c9] at H
              have c9b0 : (a0 == 240) = true := beq_iff_eq.mpr c9
              have c9b1 : (a0 != 240) = false := bne_eq_false_iff_eq.mpr c9
              clear c9
              simp only [Option.some.injEq, Prod.mk.injEq] at H
              obtain ⟨rfl, rfl, rfl, rfl⟩ := H
              go_enter Try.func94, Try.ntmps94
              go_wp2
              refine bodyPost_ret (results_list (rs := [.tmp 2, .tmp 3, .tmp 4, .tmp 5]) rfl (by simp) (.tmp (.tmp (.tmp (.tmp .nil))))) rfl ?_
              exact ⟨by first | rfl | (simp; done) | (simp [*]; done), by repeat (first | exact Drawn0.refl _ | apply Drawn0.step)⟩
            · rw [if_neg c9] at H
              have c9b0 : (a0 == 240) = false := beq_eq_false_iff_ne.mpr c9
              have c9b1 : (a0 != 240) = true := bne_iff_ne.mpr c9
              by_cases c10 : a0 = 244
              · rw [if_pos c10] at H
                have c10b0 : (a0 == 244) = true := beq_iff_eq.mpr c10
                have c10b1 : (a0 != 244) = false := bne_eq_false_iff_eq.mpr c10
                clear c10
                simp only [Option.some.injEq, Prod.mk.injEq] at H
                obtain ⟨rfl, rfl, rfl, rfl⟩ := H
                go_enter Try.func94, Try.ntmps94
                go_wp2
                refine bodyPost_ret (results_list (rs := [.tmp 2, .tmp 3, .tmp 4, .tmp 5]) rfl (by simp) (.tmp (.tmp (.tmp (.tmp .nil))))) rfl ?_
                exact ⟨by first | rfl | (simp; done) | (simp [*]; done), by repeat (first | exact Drawn0.refl _ | apply Drawn0.step)⟩
              · rw [if_neg c10] at H
                have c10b0 : (a0 == 244) = false := beq_eq_false_iff_ne.mpr c10
                have c10b1 : (a0 != 244) = true := bne_iff_ne.mpr c10
                simp only [Option.some.injEq, Prod.mk.injEq] at H
                obtain ⟨rfl, rfl, rfl, rfl⟩ := H
                go_enter Try.func94, Try.ntmps94
                go_wp2
                refine bodyPost_ret (results_list (rs := [.tmp 2, .tmp 3, .tmp 4, .tmp 5]) rfl (by simp) (.tmp (.tmp (.tmp (.tmp .nil))))) rfl ?_
                exact ⟨by first | rfl | (simp; done) | (simp [*]; done), by repeat (first | exact Drawn0.refl _ | apply Drawn0.step)⟩
          · rw [if_neg c8] at H
            have c8b0 : decide (a0 < 245) = false := decide_eq_false c8
            clear c8
            simp only [Option.some.injEq, Prod.mk.injEq] at H
            obtain ⟨rfl, rfl, rfl, rfl⟩ := H
            go_enter Try.func94, Try.ntmps94
            go_wp2
            refine bodyPost_ret (results_list (rs := [.tmp 2, .tmp 3, .tmp 4, .tmp 5]) rfl (by simp) (.tmp (.tmp (.tmp (.tmp .nil))))) rfl ?_
            exact ⟨by first | rfl | (simp; done) | (simp [*]; done), by repeat (first | exact Drawn0.refl _ | apply Drawn0.step)⟩
def sgR (s : ByteArray) : Nat → Int → Int → Int → Bool
  | 0, _, _, _ => true
  | m + 1, i, lo, hi => if bt s i < lo then false else if bt s i > hi then false else sgR s m (i + 1) 128 191
def sgH (c : Int) : Int × Int × Int × Bool := if c < 128 then (0, 128, 191, true) else (if c < 194 then (0, 128, 191, false) else (if c < 224 then (1, 128, 191, true) else (if c < 240 then (if c = 224 then (2, 160, 191, true) else (if c = 237 then (2, 128, 159, true) else (2, 128, 191, true))) else (if c < 245 then (if c = 240 then (3, 144, 191, true) else (if c = 244 then (3, 128, 143, true) else (3, 128, 191, true))) else (0, 128, 191, false)))))
theorem sgH_f (c : Int) : word_head.f c = some (sgH c) := by
  unfold word_head.f sgH
  repeat' split
  all_goals rfl
theorem sgH_rest (c : Int) : 0 ≤ (sgH c).1 ∧ (sgH c).1 ≤ 3 := by
  unfold sgH
  repeat' split
  all_goals simp
def sgStep (s : ByteArray) (i : Int) : Option Int :=
  if (sgH (bt s i)).2.2.2 = false then none else if (s.size : Int) - i ≤ (sgH (bt s i)).1 then none
  else if sgR s (sgH (bt s i)).1.toNat (i + 1) (sgH (bt s i)).2.1 (sgH (bt s i)).2.2.1 = true then some (1 + (sgH (bt s i)).1) else none
theorem bt_extract (s : ByteArray) (a b j : Nat) (hb : b ≤ s.size) (hj : a + j < b) : (((s.extract a b).data.toList.getD j 0).toNat : Int) = bt s ((a + j : Nat) : Int) := by
  unfold bt
  rw [dif_pos (by rw [Int.toNat_natCast]; omega)]
  have h1 : j < (s.extract a b).data.toList.length := by rw [data_length, ByteArray.size_extract]; omega
  rw [List.getD_eq_getElem?_getD, List.getElem?_eq_getElem h1]
  simp [ByteArray.data_extract, Array.getElem_extract]
  rfl
def sgL (s : ByteArray) : Nat → Int → Int → Int × Int
  | 0, n, i => (n, i)
  | k + 1, n, i => if i < s.size then match sgStep s i with | some m => sgL s k (n + 1) (i + m) | none => (n, i) else (n, i)
def word_signs.f (a0 : ByteArray) : Option (Int × Int) := if a0.size ≤ 9223372036854775000 then some (sgL a0 (a0.size + 1) 0 0) else none
set_option maxHeartbeats 400000 in
set_option maxRecDepth 100000 in
theorem word_signs.calls (a0 : ByteArray) (r1 r2 : Int) (w : World) (h : word_signs.f a0 = some (r1, r2)) :
    Calls Try.prog 91 #[.string a0] w fun e w' => e = .returned (.tuple #[.int .i64 r1, .int .i64 r2]) ∧ Below w.heap.size w w' := by
  obtain ⟨hsz, h⟩ : a0.size ≤ 9223372036854775000 ∧ sgL a0 (a0.size + 1) 0 0 = (r1, r2) := by
    unfold word_signs.f at h
    split at h
    · exact ⟨‹_›, Option.some.inj h⟩
    · cases h
  have HR := Aside0.mk h
  clear h
  have kb := fun s (W : World) => print_bytes (P := Try.prog) 9 42 5 Try.underlying9 Try.underlying42 Try.underlying5 s W
  go_enter Try.func91, Try.ntmps91
  go_wp2
  go_step3
  go_wp2
  go_step3
  go_wp2
  go_loopg [4, 5] (a0.size + 1) (fun gk v4 v5 w' => ∃ n i : Int, v4 = .int .i64 n ∧ v5 = .int .i64 i ∧ 0 ≤ n ∧ n ≤ i ∧ i ≤ a0.size ∧ a0.size - i < gk ∧ Aside0 (sgL a0 gk n i = (r1, r2)) ∧ Aside0 (Below w.heap.size w w'))
  case atStart => exact ⟨0, 0, rfl, rfl, by omega, by omega, by omega, by omega, HR, ⟨Below.refl _ _⟩⟩
  case round =>
    clear HR
    obtain ⟨n, i, rfl, rfl, hn, hni, hi, hk, HA, HB⟩ := hrel
    cases gk with
    | zero => omega
    | succ k1 =>
    by_cases hlt : i < a0.size
    · have hlt' : decide (i < (a0.size : Int)) = true := decide_eq_true hlt
      have p7 := eq_true (show 0 ≤ i by omega)
      have q7 := eq_true hlt
      have hx := bt_at a0 i
      obtain ⟨⟨rest, lo, hi_, is⟩, hh⟩ : ∃ p, sgH (bt a0 i) = p := ⟨_, rfl⟩
      have hrest := sgH_rest (bt a0 i)
      rw [hh] at hrest
      have hhf := sgH_f (bt a0 i)
      rw [hh] at hhf
      have HF := Aside0.mk hhf
      have HH := Aside0.mk hh
      clear hhf hh
      simp only at hrest
      cases is with
      | false =>
        have HE : Aside0 (r1 = n ∧ r2 = i) := by
          have := HA.out
          simp only [sgL, if_pos hlt, sgStep, HH.out, if_true] at this
          simp at this
          exact ⟨⟨this.1.symm, this.2.symm⟩⟩
        clear HA
        go_wp2_with (go_at_call 94; refine (word_head.calls _ rest lo hi_ false _ HF.out).mono ?_; rintro e w' ⟨rfl, ⟨nd, rfl⟩⟩)
        rw [Exit.noGoto_ret]
        go_ret2
        obtain ⟨rfl, rfl⟩ := HE.out
        exact ⟨rfl, pw_below_drewN HB.out _⟩
      | true =>
        by_cases hle : (a0.size : Int) - i ≤ rest
        · have HE : Aside0 (r1 = n ∧ r2 = i) := by
            have := HA.out
            simp only [sgL, if_pos hlt, sgStep, HH.out, if_pos hle] at this
            simp at this
            exact ⟨⟨this.1.symm, this.2.symm⟩⟩
          clear HA
          have hle' := decide_eq_true hle
          go_wp2_with (go_at_call 94; refine (word_head.calls _ rest lo hi_ true _ HF.out).mono ?_; rintro e w' ⟨rfl, ⟨nd, rfl⟩⟩)
          rw [Exit.noGoto_ret]
          go_ret2
          obtain ⟨rfl, rfl⟩ := HE.out
          exact ⟨rfl, pw_below_drewN HB.out _⟩
        · have hle' := decide_eq_false hle
          have HLE := Aside0.mk hle
          obtain ⟨rst, rfl⟩ : ∃ m : Nat, rest = m := ⟨rest.toNat, by omega⟩
          have s1 := eq_true (show 0 ≤ i + 1 by omega)
          have s2 := eq_true (show i + 1 ≤ i + 1 + (rst : Int) by omega)
          have s3 := eq_true (show i + 1 + (rst : Int) ≤ a0.size by omega)
          have hsl : (a0.extract (i + 1).toNat (i + 1 + rst).toNat).size = rst := by
            rw [ByteArray.size_extract]; omega
          go_wp2_with (go_at_call 94; refine (word_head.calls _ rst lo hi_ true _ HF.out).mono ?_; rintro e w' ⟨rfl, ⟨nd, rfl⟩⟩)
          have hcell : ∀ j : Nat, j < rst → (Lib.bytesWorld (wr.drewN nd) 5 (a0.extract (i + 1).toNat (i + 1 + ↑rst).toNat)).cell? ⟨wr.heap.size, j, none⟩ = some (.int .u8 (bt a0 (i + 1 + j))) := by
            intro j hj
            have := Lib.bytesWorld_cell (wr.drewN nd) 5 (a0.extract (i + 1).toNat (i + 1 + ↑rst).toNat) j (by omega)
            rw [bt_extract _ _ _ _ (by omega) (by omega), show (((i + 1).toNat + j : Nat) : Int) = i + 1 + j by omega] at this
            exact this
          have HBW : Aside0 (Below w.heap.size w (Lib.bytesWorld (wr.drewN nd) 5 (a0.extract (i + 1).toNat (i + 1 + ↑rst).toNat))) := ⟨bytes_below (pw_below_drewN HB.out _) (pw_below_drewN HB.out nd).size _ _⟩
          generalize Lib.bytesWorld (wr.drewN nd) 5 (a0.extract (i + 1).toNat (i + 1 + ↑rst).toNat) = WB at *
          have HC := Aside0.mk hcell
          clear hcell hsl hlt' hle' p7 q7 hx kb s1 s2 s3
          go_loopg [7, 8, 45] rst (fun g2 v7 v8 v45 wx => ∃ (j : Nat) (l h : Int), v7 = .int .u8 l ∧ v8 = .int .u8 h ∧ v45 = .int .i64 j ∧ j + g2 = rst ∧ Aside0 (sgR a0 g2 (i + 1 + j) l h = sgR a0 rst (i + 1) lo hi_) ∧ wx = WB)
          case atStart => exact ⟨0, lo, hi_, rfl, rfl, rfl, by omega, ⟨by simp⟩, rfl⟩
          case round =>
            obtain ⟨j, l, h, rfl, rfl, rfl, hj, HR, rfl⟩ := hrel
            cases gk with
            | zero =>
              have hj' : decide ((j : Int) < (rst : Int)) = false := decide_eq_false (by omega)
              have HE : Aside0 (sgL a0 k1 (n + 1) (i + (1 + (rst : Int))) = (r1, r2)) := by
                have := HA.out
                simp only [sgL, if_pos hlt, sgStep, HH.out, if_neg (show ¬ (a0.size : Int) - i ≤ (rst : Int) by have := HLE.out; omega)] at this
                have hR := HR.out
                simp only [sgR] at hR
                simp [← hR] at this
                exact ⟨this⟩
              clear HA HC HH HF HR
              go_wp2
              go_roundg k1
              case measure => omega
              case rel => exact ⟨n + 1, i + (1 + (rst : Int)), by first | rfl | simp, by first | rfl | simp, by omega, by omega, by omega, by omega, HE, HBW⟩
            | succ g2 =>
              have hc := HC.out j (by omega)
              have hj' : decide ((j : Int) < (rst : Int)) = true := decide_eq_true (by omega)
              have hb := bt_range a0 (i + 1 + j)
              obtain ⟨b, hbb⟩ : ∃ b, bt a0 (i + 1 + j) = b := ⟨_, rfl⟩
              rw [hbb] at hc hb
              have HBB := Aside0.mk hbb
              clear hbb
              have hHE : (b < l ∨ h < b) → Aside0 (r1 = n ∧ r2 = i) := by
                intro hor
                have := HA.out
                simp only [sgL, if_pos hlt, sgStep, HH.out, if_neg (show ¬ (a0.size : Int) - i ≤ (rst : Int) by have := HLE.out; omega)] at this
                have hR := HR.out
                simp only [sgR, HBB.out] at hR
                have hF : sgR a0 rst (i + 1) lo hi_ = false := by
                  rw [← hR]
                  rcases hor with h1 | h1
                  · rw [if_pos h1]
                  · split
                    · rfl
                    · rfl
                simp [hF] at this
                exact ⟨⟨this.1.symm, this.2.symm⟩⟩
              by_cases hl1 : b < l
              · have HE := hHE (.inl hl1)
                have hl1' := decide_eq_true hl1
                clear hHE HA HC HH HF HR
                go_wp2
                (try rw [Exit.noGoto_ret])
                go_ret2
                obtain ⟨rfl, rfl⟩ := HE.out
                exact ⟨rfl, HBW.out⟩
              · by_cases hl2 : h < b
                · have HE := hHE (.inr hl2)
                  have hl1' := decide_eq_false hl1
                  have hl2' := decide_eq_true hl2
                  clear hHE HA HC HH HF HR
                  go_wp2
                  (try rw [Exit.noGoto_ret])
                  go_ret2
                  obtain ⟨rfl, rfl⟩ := HE.out
                  exact ⟨rfl, HBW.out⟩
                · have HN : Aside0 (sgR a0 g2 (i + 1 + ((j + 1 : Nat) : Int)) 128 191 = sgR a0 rst (i + 1) lo hi_) := by
                    have hR := HR.out
                    simp only [sgR, HBB.out, if_neg hl1, if_neg hl2] at hR
                    rw [← hR]
                    exact ⟨by rw [show i + 1 + ((j + 1 : Nat) : Int) = i + 1 + j + 1 by omega]⟩
                  have hl1' := decide_eq_false hl1
                  have hl2' := decide_eq_false hl2
                  clear hHE HA HC HH HF HR
                  go_wp2
                  go_roundg g2
                  case measure => omega
                  case rel => exact ⟨j + 1, 128, 191, rfl, rfl, by go_num, by omega, HN, rfl⟩
    · have HE : Aside0 (r1 = n ∧ r2 = i) := by
        have := HA.out
        simp only [sgL, if_neg hlt] at this
        simp at this
        exact ⟨⟨this.1.symm, this.2.symm⟩⟩
      have hlt' := decide_eq_false hlt
      clear HA
      go_wp2
      go_ret2
      obtain ⟨rfl, rfl⟩ := HE.out
      exact ⟨rfl, HB.out⟩
def word_Valid.f (a0 : ByteArray) : Option (Bool) := (word_signs.f a0).bind fun bt115 => (some (bt115.2 == (a0.size : Int)))
set_option maxHeartbeats 8000000 in
set_option maxRecDepth 100000 in
theorem word_Valid.calls (a0 : ByteArray) (r : Bool) (w : World) (h : word_Valid.f a0 = some r) :
    Calls Try.prog 83 #[.string a0] w fun e w' => e = .returned (.bool r) ∧ Below w.heap.size w w' := by
  have HB := Aside0.mk (Below.refl w.heap.size w)
  have H : ((word_signs.f a0).bind fun bt115 => (some (bt115.2 == (a0.size : Int)))) = some r := h
  clear h
  replace H := Option.bind_eq_some_iff.mp H
  obtain ⟨⟨t115, t116⟩, A20, H⟩ := H
  replace H : (some (t116 == (a0.size : Int))) = some r := H
  have A2 := Aside0.mk A20
  clear A20
  obtain rfl := Option.some.inj H
  go_enter Try.func83, Try.ntmps83
  go_wp2_with (first | ((with_reducible refine gate_callee (f := 91) rfl ?_); refine goesL_ (some 7) rfl rfl Try.func91 (by kernel_rfl) rfl #[.string a0] rfl (by (try simp only [List.map_toArray, List.map_cons, List.map_nil]); first | done | rfl | (simp only [List.length_drop, List.length_take]; rfl)) ?_; (with_reducible refine (word_signs.calls a0 t115 t116 _ A2.out).mono ?_); rintro e w3 ⟨rfl, hb⟩; refine ⟨_, rfl, ?_⟩; have n0_ := Aside0.mk (below_step (by repeat (first | (with_reducible first | exact HB.out | apply below_alloc | apply pw_below_drewN | apply below_drew1) | exact HB.out)) hb); clear HB; have HB := n0_; clear n0_; (try clear hb); (try clear hb2); (try clear hk); (try clear hi)))
  go_ret
  exact ⟨by first | rfl | (simp [errW_none, errW_some] <;> rfl) | (simp [*, errW_none, errW_some] <;> rfl), by repeat (first | (with_reducible first | exact HB.out | apply below_alloc | apply pw_below_drewN | apply below_drew1) | exact HB.out)⟩
def tree_One.f (a0_0 : Int) (a0_1 : Int) (a0_2 : ByteArray) (a0_3 : Int) : Option (Bool) := if a0_0 ≥ 1 then (if a0_0 ≤ 2147483647 then (if a0_1 ≥ 0 then (if a0_1 ≤ 2147483647 then (if (a0_2.size : Int) ≤ 64 then ((word_Valid.f a0_2).bind fun t118 => (some t118)) else (some false)) else (some false)) else (some false)) else (some false)) else (some false)
set_option maxHeartbeats 8000000 in
set_option maxRecDepth 100000 in
theorem tree_One.calls (a0_0 : Int) (a0_1 : Int) (a0_2 : ByteArray) (bv0_3 : Nat) (a0_3 : Int) (r : Bool) (w : World) (bq0_3 : FB bv0_3 a0_3) (h : tree_One.f a0_0 a0_1 a0_2 a0_3 = some r) :
    Calls Try.prog 80 #[.agg #[.int .i64 a0_0, .int .i64 a0_1, .string a0_2, .float .f64 bv0_3]] w fun e w' => e = .returned (.bool r) ∧ Below w.heap.size w w' := by
  have hu96 := Try.underlying96
  have HB := Aside0.mk (Below.refl w.heap.size w)
  have H : (if a0_0 ≥ 1 then (if a0_0 ≤ 2147483647 then (if a0_1 ≥ 0 then (if a0_1 ≤ 2147483647 then (if (a0_2.size : Int) ≤ 64 then ((word_Valid.f a0_2).bind fun t118 => (some t118)) else (some false)) else (some false)) else (some false)) else (some false)) else (some false)) = some r := h
  clear h
  by_cases c2 : a0_0 ≥ 1
  · rw [if_pos c2] at H
    have c2b0 : decide (1 ≤ a0_0) = true := decide_eq_true c2
    clear c2
    by_cases c3 : a0_0 ≤ 2147483647
    · rw [if_pos c3] at H
      have c3b0 : decide (a0_0 ≤ 2147483647) = true := decide_eq_true c3
      clear c3
      by_cases c4 : a0_1 ≥ 0
      · rw [if_pos c4] at H
        have c4b0 : decide (0 ≤ a0_1) = true := decide_eq_true c4
        clear c4
        by_cases c5 : a0_1 ≤ 2147483647
        · rw [if_pos c5] at H
          have c5b0 : decide (a0_1 ≤ 2147483647) = true := decide_eq_true c5
          clear c5
          by_cases c6 : (a0_2.size : Int) ≤ 64
          · rw [if_pos c6] at H
            have c6b0 : decide ((a0_2.size : Int) ≤ 64) = true := decide_eq_true c6
            have c6b1 : decide (a0_2.size ≤ 64) = true := decide_eq_true (by omega)
            clear c6
            replace H := Option.bind_eq_some_iff.mp H
            obtain ⟨t118, A70, H⟩ := H
            replace H : (some t118) = some r := H
            have A7 := Aside0.mk A70
            clear A70
            obtain rfl := Option.some.inj H
            go_enter Try.func80, Try.ntmps80
            go_wp2_with (first | ((with_reducible refine gate_dst (N := 1) rfl ?_); (try (refine gate_guard (by rfl) ?_; dsimp only)); refine box_event ?hg (N := 1) ?hd (cs := #[.int .i64 a0_0, .int .i64 a0_1, .string a0_2, .float .f64 bv0_3]) (t := 96) ?hr ?_; (case hd => rfl); (case hg => rfl); (case hr => first | (go_simp; done) | (go_simp; rfl)); intro gb117 hg w8 hbox hb; have n0_ := Aside0.mk (below_step (by repeat (first | (with_reducible first | exact HB.out | apply below_alloc | apply pw_below_drewN | apply below_drew1) | exact HB.out)) hb); have n1_ := Aside0.mk (hbox); have n2_ := Aside0.mk ((by rw [hg]; exact (below_size (by repeat (first | (with_reducible first | exact HB.out | apply below_alloc | apply pw_below_drewN | apply below_drew1) | exact HB.out))) : w.heap.size ≤ gb117)); have n3_ := Aside0.mk ((by rw [hg]; exact (below_size (by repeat (first | (with_reducible first | exact HB.out | apply below_alloc | apply pw_below_drewN | apply below_drew1) | exact HB.out))) : w.heap.size ≤ gb117)); clear HB; have HB := n0_; have BK117 := n1_; have GW117 := n2_; have GE117 := n3_; clear n0_ n1_ n2_ n3_; clear hb hbox hg; have hcz9_0 : w8.cell? ⟨gb117, 0, none⟩ = some (.int .i64 a0_0) := (blk_cell BK117.out 0).trans rfl; have hcz9_1 : w8.cell? ⟨gb117, 1, none⟩ = some (.int .i64 a0_1) := (blk_cell BK117.out 1).trans rfl; have hcz9_2 : w8.cell? ⟨gb117, 2, none⟩ = some (.string a0_2) := (blk_cell BK117.out 2).trans rfl; have hcz9_3 : w8.cell? ⟨gb117, 3, none⟩ = some (.float .f64 bv0_3) := (blk_cell BK117.out 3).trans rfl; have hfz9_0 := blk_frozen BK117.out 0; have hfz9_1 := blk_frozen BK117.out 1; have hfz9_2 := blk_frozen BK117.out 2; have hfz9_3 := blk_frozen BK117.out 3) | (go_at_call 83; (with_reducible refine (word_Valid.calls a0_2 t118 _ A7.out).mono ?_); rintro e w10 ⟨rfl, hb⟩; have n0_ := Aside0.mk (blk_below (g := gb117) (o := .cells #[.int .i64 a0_0, .int .i64 a0_1, .string a0_2, .float .f64 bv0_3] 96 (0, 0)) (by (with_reducible repeat (first | refine blk_drewN ?_ _ | refine blk_drew ?_ | refine blk_alloc ?_ _)); exact BK117.out) hb); have n1_ := Aside0.mk (below_step (by repeat (first | (with_reducible first | exact HB.out | apply below_alloc | apply pw_below_drewN | apply below_drew1 | refine below_set ?_ GE117.out) | exact HB.out)) hb); clear BK117; clear HB; have BK117 := n0_; have HB := n1_; clear n0_ n1_; (try clear hb); (try clear hb2); (try clear hk); (try clear hi)))
            go_ret
            exact ⟨by first | rfl | (simp [errW_none, errW_some] <;> rfl) | (simp [*, errW_none, errW_some] <;> rfl), by repeat (first | (with_reducible first | exact HB.out | apply below_alloc | apply pw_below_drewN | apply below_drew1 | refine below_set ?_ GE117.out) | exact HB.out)⟩
          · rw [if_neg c6] at H
            have c6b0 : decide ((a0_2.size : Int) ≤ 64) = false := decide_eq_false c6
            have c6b1 : decide (a0_2.size ≤ 64) = false := decide_eq_false (by omega)
            clear c6
            obtain rfl := Option.some.inj H
            go_enter Try.func80, Try.ntmps80
            go_wp2_with (first | ((with_reducible refine gate_dst (N := 1) rfl ?_); (try (refine gate_guard (by rfl) ?_; dsimp only)); refine box_event ?hg (N := 1) ?hd (cs := #[.int .i64 a0_0, .int .i64 a0_1, .string a0_2, .float .f64 bv0_3]) (t := 96) ?hr ?_; (case hd => rfl); (case hg => rfl); (case hr => first | (go_simp; done) | (go_simp; rfl)); intro gb117 hg w11 hbox hb; have n0_ := Aside0.mk (below_step (by repeat (first | (with_reducible first | exact HB.out | apply below_alloc | apply pw_below_drewN | apply below_drew1) | exact HB.out)) hb); have n1_ := Aside0.mk (hbox); have n2_ := Aside0.mk ((by rw [hg]; exact (below_size (by repeat (first | (with_reducible first | exact HB.out | apply below_alloc | apply pw_below_drewN | apply below_drew1) | exact HB.out))) : w.heap.size ≤ gb117)); have n3_ := Aside0.mk ((by rw [hg]; exact (below_size (by repeat (first | (with_reducible first | exact HB.out | apply below_alloc | apply pw_below_drewN | apply below_drew1) | exact HB.out))) : w.heap.size ≤ gb117)); clear HB; have HB := n0_; have BK117 := n1_; have GW117 := n2_; have GE117 := n3_; clear n0_ n1_ n2_ n3_; clear hb hbox hg; have hcz12_0 : w11.cell? ⟨gb117, 0, none⟩ = some (.int .i64 a0_0) := (blk_cell BK117.out 0).trans rfl; have hcz12_1 : w11.cell? ⟨gb117, 1, none⟩ = some (.int .i64 a0_1) := (blk_cell BK117.out 1).trans rfl; have hcz12_2 : w11.cell? ⟨gb117, 2, none⟩ = some (.string a0_2) := (blk_cell BK117.out 2).trans rfl; have hcz12_3 : w11.cell? ⟨gb117, 3, none⟩ = some (.float .f64 bv0_3) := (blk_cell BK117.out 3).trans rfl; have hfz12_0 := blk_frozen BK117.out 0; have hfz12_1 := blk_frozen BK117.out 1; have hfz12_2 := blk_frozen BK117.out 2; have hfz12_3 := blk_frozen BK117.out 3))
            go_ret
            exact ⟨by first | rfl | (simp [errW_none, errW_some] <;> rfl) | (simp [*, errW_none, errW_some] <;> rfl), by repeat (first | (with_reducible first | exact HB.out | apply below_alloc | apply pw_below_drewN | apply below_drew1 | refine below_set ?_ GE117.out) | exact HB.out)⟩
        · rw [if_neg c5] at H
          have c5b0 : decide (a0_1 ≤ 2147483647) = false := decide_eq_false c5
          clear c5
          obtain rfl := Option.some.inj H
          go_enter Try.func80, Try.ntmps80
          go_wp2_with (first | ((with_reducible refine gate_dst (N := 1) rfl ?_); (try (refine gate_guard (by rfl) ?_; dsimp only)); refine box_event ?hg (N := 1) ?hd (cs := #[.int .i64 a0_0, .int .i64 a0_1, .string a0_2, .float .f64 bv0_3]) (t := 96) ?hr ?_; (case hd => rfl); (case hg => rfl); (case hr => first | (go_simp; done) | (go_simp; rfl)); intro gb117 hg w13 hbox hb; have n0_ := Aside0.mk (below_step (by repeat (first | (with_reducible first | exact HB.out | apply below_alloc | apply pw_below_drewN | apply below_drew1) | exact HB.out)) hb); have n1_ := Aside0.mk (hbox); have n2_ := Aside0.mk ((by rw [hg]; exact (below_size (by repeat (first | (with_reducible first | exact HB.out | apply below_alloc | apply pw_below_drewN | apply below_drew1) | exact HB.out))) : w.heap.size ≤ gb117)); have n3_ := Aside0.mk ((by rw [hg]; exact (below_size (by repeat (first | (with_reducible first | exact HB.out | apply below_alloc | apply pw_below_drewN | apply below_drew1) | exact HB.out))) : w.heap.size ≤ gb117)); clear HB; have HB := n0_; have BK117 := n1_; have GW117 := n2_; have GE117 := n3_; clear n0_ n1_ n2_ n3_; clear hb hbox hg; have hcz14_0 : w13.cell? ⟨gb117, 0, none⟩ = some (.int .i64 a0_0) := (blk_cell BK117.out 0).trans rfl; have hcz14_1 : w13.cell? ⟨gb117, 1, none⟩ = some (.int .i64 a0_1) := (blk_cell BK117.out 1).trans rfl; have hcz14_2 : w13.cell? ⟨gb117, 2, none⟩ = some (.string a0_2) := (blk_cell BK117.out 2).trans rfl; have hcz14_3 : w13.cell? ⟨gb117, 3, none⟩ = some (.float .f64 bv0_3) := (blk_cell BK117.out 3).trans rfl; have hfz14_0 := blk_frozen BK117.out 0; have hfz14_1 := blk_frozen BK117.out 1; have hfz14_2 := blk_frozen BK117.out 2; have hfz14_3 := blk_frozen BK117.out 3))
          go_ret
          exact ⟨by first | rfl | (simp [errW_none, errW_some] <;> rfl) | (simp [*, errW_none, errW_some] <;> rfl), by repeat (first | (with_reducible first | exact HB.out | apply below_alloc | apply pw_below_drewN | apply below_drew1 | refine below_set ?_ GE117.out) | exact HB.out)⟩
      · rw [if_neg c4] at H
        have c4b0 : decide (0 ≤ a0_1) = false := decide_eq_false c4
        clear c4
        obtain rfl := Option.some.inj H
        go_enter Try.func80, Try.ntmps80
        go_wp2_with (first | ((with_reducible refine gate_dst (N := 1) rfl ?_); (try (refine gate_guard (by rfl) ?_; dsimp only)); refine box_event ?hg (N := 1) ?hd (cs := #[.int .i64 a0_0, .int .i64 a0_1, .string a0_2, .float .f64 bv0_3]) (t := 96) ?hr ?_; (case hd => rfl); (case hg => rfl); (case hr => first | (go_simp; done) | (go_simp; rfl)); intro gb117 hg w15 hbox hb; have n0_ := Aside0.mk (below_step (by repeat (first | (with_reducible first | exact HB.out | apply below_alloc | apply pw_below_drewN | apply below_drew1) | exact HB.out)) hb); have n1_ := Aside0.mk (hbox); have n2_ := Aside0.mk ((by rw [hg]; exact (below_size (by repeat (first | (with_reducible first | exact HB.out | apply below_alloc | apply pw_below_drewN | apply below_drew1) | exact HB.out))) : w.heap.size ≤ gb117)); have n3_ := Aside0.mk ((by rw [hg]; exact (below_size (by repeat (first | (with_reducible first | exact HB.out | apply below_alloc | apply pw_below_drewN | apply below_drew1) | exact HB.out))) : w.heap.size ≤ gb117)); clear HB; have HB := n0_; have BK117 := n1_; have GW117 := n2_; have GE117 := n3_; clear n0_ n1_ n2_ n3_; clear hb hbox hg; have hcz16_0 : w15.cell? ⟨gb117, 0, none⟩ = some (.int .i64 a0_0) := (blk_cell BK117.out 0).trans rfl; have hcz16_1 : w15.cell? ⟨gb117, 1, none⟩ = some (.int .i64 a0_1) := (blk_cell BK117.out 1).trans rfl; have hcz16_2 : w15.cell? ⟨gb117, 2, none⟩ = some (.string a0_2) := (blk_cell BK117.out 2).trans rfl; have hcz16_3 : w15.cell? ⟨gb117, 3, none⟩ = some (.float .f64 bv0_3) := (blk_cell BK117.out 3).trans rfl; have hfz16_0 := blk_frozen BK117.out 0; have hfz16_1 := blk_frozen BK117.out 1; have hfz16_2 := blk_frozen BK117.out 2; have hfz16_3 := blk_frozen BK117.out 3))
        go_ret
        exact ⟨by first | rfl | (simp [errW_none, errW_some] <;> rfl) | (simp [*, errW_none, errW_some] <;> rfl), by repeat (first | (with_reducible first | exact HB.out | apply below_alloc | apply pw_below_drewN | apply below_drew1 | refine below_set ?_ GE117.out) | exact HB.out)⟩
    · rw [if_neg c3] at H
      have c3b0 : decide (a0_0 ≤ 2147483647) = false := decide_eq_false c3
      clear c3
      obtain rfl := Option.some.inj H
      go_enter Try.func80, Try.ntmps80
      go_wp2_with (first | ((with_reducible refine gate_dst (N := 1) rfl ?_); (try (refine gate_guard (by rfl) ?_; dsimp only)); refine box_event ?hg (N := 1) ?hd (cs := #[.int .i64 a0_0, .int .i64 a0_1, .string a0_2, .float .f64 bv0_3]) (t := 96) ?hr ?_; (case hd => rfl); (case hg => rfl); (case hr => first | (go_simp; done) | (go_simp; rfl)); intro gb117 hg w17 hbox hb; have n0_ := Aside0.mk (below_step (by repeat (first | (with_reducible first | exact HB.out | apply below_alloc | apply pw_below_drewN | apply below_drew1) | exact HB.out)) hb); have n1_ := Aside0.mk (hbox); have n2_ := Aside0.mk ((by rw [hg]; exact (below_size (by repeat (first | (with_reducible first | exact HB.out | apply below_alloc | apply pw_below_drewN | apply below_drew1) | exact HB.out))) : w.heap.size ≤ gb117)); have n3_ := Aside0.mk ((by rw [hg]; exact (below_size (by repeat (first | (with_reducible first | exact HB.out | apply below_alloc | apply pw_below_drewN | apply below_drew1) | exact HB.out))) : w.heap.size ≤ gb117)); clear HB; have HB := n0_; have BK117 := n1_; have GW117 := n2_; have GE117 := n3_; clear n0_ n1_ n2_ n3_; clear hb hbox hg; have hcz18_0 : w17.cell? ⟨gb117, 0, none⟩ = some (.int .i64 a0_0) := (blk_cell BK117.out 0).trans rfl; have hcz18_1 : w17.cell? ⟨gb117, 1, none⟩ = some (.int .i64 a0_1) := (blk_cell BK117.out 1).trans rfl; have hcz18_2 : w17.cell? ⟨gb117, 2, none⟩ = some (.string a0_2) := (blk_cell BK117.out 2).trans rfl; have hcz18_3 : w17.cell? ⟨gb117, 3, none⟩ = some (.float .f64 bv0_3) := (blk_cell BK117.out 3).trans rfl; have hfz18_0 := blk_frozen BK117.out 0; have hfz18_1 := blk_frozen BK117.out 1; have hfz18_2 := blk_frozen BK117.out 2; have hfz18_3 := blk_frozen BK117.out 3))
      go_ret
      exact ⟨by first | rfl | (simp [errW_none, errW_some] <;> rfl) | (simp [*, errW_none, errW_some] <;> rfl), by repeat (first | (with_reducible first | exact HB.out | apply below_alloc | apply pw_below_drewN | apply below_drew1 | refine below_set ?_ GE117.out) | exact HB.out)⟩
  · rw [if_neg c2] at H
    have c2b0 : decide (1 ≤ a0_0) = false := decide_eq_false c2
    clear c2
    obtain rfl := Option.some.inj H
    go_enter Try.func80, Try.ntmps80
    go_wp2_with (first | ((with_reducible refine gate_dst (N := 1) rfl ?_); (try (refine gate_guard (by rfl) ?_; dsimp only)); refine box_event ?hg (N := 1) ?hd (cs := #[.int .i64 a0_0, .int .i64 a0_1, .string a0_2, .float .f64 bv0_3]) (t := 96) ?hr ?_; (case hd => rfl); (case hg => rfl); (case hr => first | (go_simp; done) | (go_simp; rfl)); intro gb117 hg w19 hbox hb; have n0_ := Aside0.mk (below_step (by repeat (first | (with_reducible first | exact HB.out | apply below_alloc | apply pw_below_drewN | apply below_drew1) | exact HB.out)) hb); have n1_ := Aside0.mk (hbox); have n2_ := Aside0.mk ((by rw [hg]; exact (below_size (by repeat (first | (with_reducible first | exact HB.out | apply below_alloc | apply pw_below_drewN | apply below_drew1) | exact HB.out))) : w.heap.size ≤ gb117)); have n3_ := Aside0.mk ((by rw [hg]; exact (below_size (by repeat (first | (with_reducible first | exact HB.out | apply below_alloc | apply pw_below_drewN | apply below_drew1) | exact HB.out))) : w.heap.size ≤ gb117)); clear HB; have HB := n0_; have BK117 := n1_; have GW117 := n2_; have GE117 := n3_; clear n0_ n1_ n2_ n3_; clear hb hbox hg; have hcz20_0 : w19.cell? ⟨gb117, 0, none⟩ = some (.int .i64 a0_0) := (blk_cell BK117.out 0).trans rfl; have hcz20_1 : w19.cell? ⟨gb117, 1, none⟩ = some (.int .i64 a0_1) := (blk_cell BK117.out 1).trans rfl; have hcz20_2 : w19.cell? ⟨gb117, 2, none⟩ = some (.string a0_2) := (blk_cell BK117.out 2).trans rfl; have hcz20_3 : w19.cell? ⟨gb117, 3, none⟩ = some (.float .f64 bv0_3) := (blk_cell BK117.out 3).trans rfl; have hfz20_0 := blk_frozen BK117.out 0; have hfz20_1 := blk_frozen BK117.out 1; have hfz20_2 := blk_frozen BK117.out 2; have hfz20_3 := blk_frozen BK117.out 3))
    go_ret
    exact ⟨by first | rfl | (simp [errW_none, errW_some] <;> rfl) | (simp [*, errW_none, errW_some] <;> rfl), by repeat (first | (with_reducible first | exact HB.out | apply below_alloc | apply pw_below_drewN | apply below_drew1 | refine below_set ?_ GE117.out) | exact HB.out)⟩
def moves_Row.f (a0_0 : Int) (a0_1 : Int) (a0_2 : Int) (a0_3 : Int) (a0_4 : ByteArray) (a0_5 : Int) : Option (Int × Int × ByteArray × Int) := some (a0_3, a0_2, a0_4, a0_5)
set_option maxHeartbeats 8000000 in
set_option maxRecDepth 100000 in
theorem moves_Row.calls (a0_0 : Int) (a0_1 : Int) (a0_2 : Int) (a0_3 : Int) (a0_4 : ByteArray) (bv0_5 : Nat) (a0_5 : Int) (r1 : Int) (r2 : Int) (r3 : ByteArray) (r4 : Int) (w : World) (bq0_5 : FB bv0_5 a0_5) (h : moves_Row.f a0_0 a0_1 a0_2 a0_3 a0_4 a0_5 = some (r1, r2, r3, r4)) :
    Calls Try.prog 81 #[.agg #[.int .i64 a0_0, .int .i64 a0_1, .int .i64 a0_2, .int .i64 a0_3, .string a0_4, .float .f64 bv0_5]] w fun e w' => ∃ b3_ : Nat, e = .returned (.agg #[.int .i64 r1, .int .i64 r2, .string r3, .float .f64 b3_]) ∧ FB b3_ r4 ∧ Below w.heap.size w w' := by
  have hu30 := Try.underlying30
  have hu96 := Try.underlying96
  have HB := Aside0.mk (Below.refl w.heap.size w)
  have H : (some (a0_3, a0_2, a0_4, a0_5)) = some (r1, r2, r3, r4) := h
  clear h
  simp only [Option.some.injEq, Prod.mk.injEq] at H
  obtain ⟨rfl, rfl, rfl, rfl⟩ := H
  go_enter Try.func81, Try.ntmps81
  go_wp2_with (first | ((with_reducible refine gate_dst (N := 1) rfl ?_); refine box_event ?hg (N := 1) ?hd (cs := #[.int .i64 a0_0, .int .i64 a0_1, .int .i64 a0_2, .int .i64 a0_3, .string a0_4, .float .f64 bv0_5]) (t := 30) ?hr ?_; (case hd => rfl); (case hg => rfl); (case hr => first | (go_simp; done) | (go_simp; rfl)); intro gb119 hg w2 hbox hb; have n0_ := Aside0.mk (below_step (by repeat (first | (with_reducible first | exact HB.out | apply below_alloc | apply pw_below_drewN | apply below_drew1) | exact HB.out)) hb); have n1_ := Aside0.mk (hbox); have n2_ := Aside0.mk ((by rw [hg]; exact (below_size (by repeat (first | (with_reducible first | exact HB.out | apply below_alloc | apply pw_below_drewN | apply below_drew1) | exact HB.out))) : w.heap.size ≤ gb119)); have n3_ := Aside0.mk ((by rw [hg]; exact (below_size (by repeat (first | (with_reducible first | exact HB.out | apply below_alloc | apply pw_below_drewN | apply below_drew1) | exact HB.out))) : w.heap.size ≤ gb119)); clear HB; have HB := n0_; have BK119 := n1_; have GW119 := n2_; have GE119 := n3_; clear n0_ n1_ n2_ n3_; clear hb hbox hg) | ((with_reducible refine gate_dst (N := 2) rfl ?_); refine box_event ?hg (N := 2) ?hd (cs := #[.int .i64 0, .int .i64 0, .string (⟨#[]⟩ : ByteArray), .float .f64 0]) (t := 96) ?hr ?_; (case hd => rfl); (case hg => rfl); (case hr => first | (go_simp; done) | (go_simp; rfl)); intro gb120 hg w3 hbox hb; have n0_ := Aside0.mk (blk_below (g := gb119) (o := .cells #[.int .i64 a0_0, .int .i64 a0_1, .int .i64 a0_2, .int .i64 a0_3, .string a0_4, .float .f64 bv0_5] 30 (0, 0)) (by (with_reducible repeat (first | refine blk_drewN ?_ _ | refine blk_drew ?_ | refine blk_alloc ?_ _)); exact BK119.out) hb); have n1_ := Aside0.mk (below_step (by repeat (first | (with_reducible first | exact HB.out | apply below_alloc | apply pw_below_drewN | apply below_drew1 | refine below_set ?_ GE119.out) | exact HB.out)) hb); have n2_ := Aside0.mk (hbox); have n3_ := Aside0.mk ((by rw [hg]; exact (below_size (by repeat (first | (with_reducible first | exact HB.out | apply below_alloc | apply pw_below_drewN | apply below_drew1 | refine below_set ?_ GE119.out) | exact HB.out))) : w.heap.size ≤ gb120)); have n4_ := Aside0.mk ((by rw [hg]; exact (below_size (by repeat (first | (with_reducible first | exact HB.out | apply below_alloc | apply pw_below_drewN | apply below_drew1 | refine below_set ?_ GE119.out) | exact HB.out))) : w.heap.size ≤ gb120)); have n5_ := Aside0.mk ((by rw [hg]; exact Nat.ne_of_lt (blk_lt (g := gb119) (o := .cells #[.int .i64 a0_0, .int .i64 a0_1, .int .i64 a0_2, .int .i64 a0_3, .string a0_4, .float .f64 bv0_5] 30 (0, 0)) (by (with_reducible repeat (first | refine blk_drewN ?_ _ | refine blk_drew ?_ | refine blk_alloc ?_ _)); exact BK119.out)) : gb119 ≠ gb120)); have n6_ := Aside0.mk ((by rw [hg]; exact Nat.ne_of_gt (blk_lt (g := gb119) (o := .cells #[.int .i64 a0_0, .int .i64 a0_1, .int .i64 a0_2, .int .i64 a0_3, .string a0_4, .float .f64 bv0_5] 30 (0, 0)) (by (with_reducible repeat (first | refine blk_drewN ?_ _ | refine blk_drew ?_ | refine blk_alloc ?_ _)); exact BK119.out)) : gb120 ≠ gb119)); clear BK119; clear HB; have BK119 := n0_; have HB := n1_; have BK120 := n2_; have GW120 := n3_; have GE120 := n4_; have NB119_120 := n5_; have NB120_119 := n6_; clear n0_ n1_ n2_ n3_ n4_ n5_ n6_; clear hb hbox hg; have hnb4 := NB119_120.out; have hnc4 := NB120_119.out; have hcz5_0 : w3.cell? ⟨gb119, 0, none⟩ = some (.int .i64 a0_0) := (blk_cell BK119.out 0).trans rfl; have hcz5_1 : w3.cell? ⟨gb119, 1, none⟩ = some (.int .i64 a0_1) := (blk_cell BK119.out 1).trans rfl; have hcz5_2 : w3.cell? ⟨gb119, 2, none⟩ = some (.int .i64 a0_2) := (blk_cell BK119.out 2).trans rfl; have hcz5_3 : w3.cell? ⟨gb119, 3, none⟩ = some (.int .i64 a0_3) := (blk_cell BK119.out 3).trans rfl; have hcz5_4 : w3.cell? ⟨gb119, 4, none⟩ = some (.string a0_4) := (blk_cell BK119.out 4).trans rfl; have hcz5_5 : w3.cell? ⟨gb119, 5, none⟩ = some (.float .f64 bv0_5) := (blk_cell BK119.out 5).trans rfl; have hfz5_0 := blk_frozen BK119.out 0; have hfz5_1 := blk_frozen BK119.out 1; have hfz5_2 := blk_frozen BK119.out 2; have hfz5_3 := blk_frozen BK119.out 3; have hfz5_4 := blk_frozen BK119.out 4; have hfz5_5 := blk_frozen BK119.out 5; have hcz6_0 : w3.cell? ⟨gb120, 0, none⟩ = some (.int .i64 0) := (blk_cell BK120.out 0).trans rfl; have hcz6_1 : w3.cell? ⟨gb120, 1, none⟩ = some (.int .i64 0) := (blk_cell BK120.out 1).trans rfl; have hcz6_2 : w3.cell? ⟨gb120, 2, none⟩ = some (.string (⟨#[]⟩ : ByteArray)) := (blk_cell BK120.out 2).trans rfl; have hcz6_3 : w3.cell? ⟨gb120, 3, none⟩ = some (.float .f64 0) := (blk_cell BK120.out 3).trans rfl; have hfz6_0 := blk_frozen BK120.out 0; have hfz6_1 := blk_frozen BK120.out 1; have hfz6_2 := blk_frozen BK120.out 2; have hfz6_3 := blk_frozen BK120.out 3))
  refine bodyPost_ret (results_cell_row rfl _ _ gb120 96 #[.int .i64 a0_3, .int .i64 a0_2, .string a0_4, .float .f64 bv0_5] (0, 0) _ rfl (by (with_reducible repeat (first | refine blk_drewN ?_ _ | refine blk_drew ?_ | refine blk_alloc ?_ _)); refine blk_put (cs := #[.int .i64 a0_3, .int .i64 a0_2, .string a0_4, .float .f64 0]) ?_ 3 _ rfl; (with_reducible repeat (first | refine blk_drewN ?_ _ | refine blk_drew ?_ | refine blk_alloc ?_ _)); refine blk_put (cs := #[.int .i64 a0_3, .int .i64 a0_2, .string (⟨#[]⟩ : ByteArray), .float .f64 0]) ?_ 2 _ rfl; (with_reducible repeat (first | refine blk_drewN ?_ _ | refine blk_drew ?_ | refine blk_alloc ?_ _)); refine blk_put (cs := #[.int .i64 a0_3, .int .i64 0, .string (⟨#[]⟩ : ByteArray), .float .f64 0]) ?_ 1 _ rfl; (with_reducible repeat (first | refine blk_drewN ?_ _ | refine blk_drew ?_ | refine blk_alloc ?_ _)); refine blk_put (cs := #[.int .i64 0, .int .i64 0, .string (⟨#[]⟩ : ByteArray), .float .f64 0]) ?_ 0 _ rfl; (with_reducible repeat (first | refine blk_drewN ?_ _ | refine blk_drew ?_ | refine blk_alloc ?_ _)); exact BK120.out) Try.underlying96 rfl (by kernel_rfl)) rfl ?_
  exact ⟨_, by first | rfl | (simp [errW_none, errW_some] <;> rfl) | (simp [*, errW_none, errW_some] <;> rfl), (by first | assumption | exact FB_lit _ _ rfl | exact FB_int _ | simpa using (by assumption)), by repeat (first | (with_reducible first | exact HB.out | apply below_alloc | apply pw_below_drewN | apply below_drew1 | refine below_set ?_ GE119.out | refine below_set ?_ GE120.out) | exact HB.out)⟩
def moves_One.f (a0_0 : Int) (a0_1 : Int) (a0_2 : Int) (a0_3 : Int) (a0_4 : ByteArray) (a0_5 : Int) : Option (Bool) := if a0_0 ≥ 1 then (if a0_0 ≤ 4611686018427387903 then (if a0_1 ≥ 1 then (if a0_1 ≤ 255 then ((moves_Row.f a0_0 a0_1 a0_2 a0_3 a0_4 a0_5).bind fun bt123 => ((tree_One.f bt123.1 bt123.2.1 bt123.2.2.1 bt123.2.2.2).bind fun t128 => (some t128))) else (some false)) else (some false)) else (some false)) else (some false)
set_option maxHeartbeats 8000000 in
set_option maxRecDepth 100000 in
theorem moves_One.calls (a0_0 : Int) (a0_1 : Int) (a0_2 : Int) (a0_3 : Int) (a0_4 : ByteArray) (bv0_5 : Nat) (a0_5 : Int) (r : Bool) (w : World) (bq0_5 : FB bv0_5 a0_5) (h : moves_One.f a0_0 a0_1 a0_2 a0_3 a0_4 a0_5 = some r) :
    Calls Try.prog 54 #[.agg #[.int .i64 a0_0, .int .i64 a0_1, .int .i64 a0_2, .int .i64 a0_3, .string a0_4, .float .f64 bv0_5]] w fun e w' => e = .returned (.bool r) ∧ Below w.heap.size w w' := by
  have hu30 := Try.underlying30
  have hu27 := Try.underlying27
  have HB := Aside0.mk (Below.refl w.heap.size w)
  have H : (if a0_0 ≥ 1 then (if a0_0 ≤ 4611686018427387903 then (if a0_1 ≥ 1 then (if a0_1 ≤ 255 then ((moves_Row.f a0_0 a0_1 a0_2 a0_3 a0_4 a0_5).bind fun bt123 => ((tree_One.f bt123.1 bt123.2.1 bt123.2.2.1 bt123.2.2.2).bind fun t128 => (some t128))) else (some false)) else (some false)) else (some false)) else (some false)) = some r := h
  clear h
  by_cases c2 : a0_0 ≥ 1
  · rw [if_pos c2] at H
    have c2b0 : decide (1 ≤ a0_0) = true := decide_eq_true c2
    clear c2
    by_cases c3 : a0_0 ≤ 4611686018427387903
    · rw [if_pos c3] at H
      have c3b0 : decide (a0_0 ≤ 4611686018427387903) = true := decide_eq_true c3
      clear c3
      by_cases c4 : a0_1 ≥ 1
      · rw [if_pos c4] at H
        have c4b0 : decide (1 ≤ a0_1) = true := decide_eq_true c4
        clear c4
        by_cases c5 : a0_1 ≤ 255
        · rw [if_pos c5] at H
          have c5b0 : decide (a0_1 ≤ 255) = true := decide_eq_true c5
          clear c5
          replace H := Option.bind_eq_some_iff.mp H
          obtain ⟨⟨t123, t124, t125, t126⟩, A60, H⟩ := H
          replace H : ((tree_One.f t123 t124 t125 t126).bind fun t128 => (some t128)) = some r := H
          have A6 := Aside0.mk A60
          clear A60
          replace H := Option.bind_eq_some_iff.mp H
          obtain ⟨t128, A70, H⟩ := H
          replace H : (some t128) = some r := H
          have A7 := Aside0.mk A70
          clear A70
          obtain rfl := Option.some.inj H
          go_enter Try.func54, Try.ntmps54
          go_wp2_with (first | ((with_reducible refine gate_dst (N := 1) rfl ?_); refine box_event ?hg (N := 1) ?hd (cs := #[.int .i64 a0_0, .int .i64 a0_1, .int .i64 a0_2, .int .i64 a0_3, .string a0_4, .float .f64 bv0_5]) (t := 30) ?hr ?_; (case hd => rfl); (case hg => rfl); (case hr => first | (go_simp; done) | (go_simp; rfl)); intro gb121 hg w8 hbox hb; have n0_ := Aside0.mk (below_step (by repeat (first | (with_reducible first | exact HB.out | apply below_alloc | apply pw_below_drewN | apply below_drew1) | exact HB.out)) hb); have n1_ := Aside0.mk (hbox); have n2_ := Aside0.mk ((by rw [hg]; exact (below_size (by repeat (first | (with_reducible first | exact HB.out | apply below_alloc | apply pw_below_drewN | apply below_drew1) | exact HB.out))) : w.heap.size ≤ gb121)); have n3_ := Aside0.mk ((by rw [hg]; exact (below_size (by repeat (first | (with_reducible first | exact HB.out | apply below_alloc | apply pw_below_drewN | apply below_drew1) | exact HB.out))) : w.heap.size ≤ gb121)); clear HB; have HB := n0_; have BK121 := n1_; have GW121 := n2_; have GE121 := n3_; clear n0_ n1_ n2_ n3_; clear hb hbox hg; have hcz9_0 : w8.cell? ⟨gb121, 0, none⟩ = some (.int .i64 a0_0) := (blk_cell BK121.out 0).trans rfl; have hcz9_1 : w8.cell? ⟨gb121, 1, none⟩ = some (.int .i64 a0_1) := (blk_cell BK121.out 1).trans rfl; have hcz9_2 : w8.cell? ⟨gb121, 2, none⟩ = some (.int .i64 a0_2) := (blk_cell BK121.out 2).trans rfl; have hcz9_3 : w8.cell? ⟨gb121, 3, none⟩ = some (.int .i64 a0_3) := (blk_cell BK121.out 3).trans rfl; have hcz9_4 : w8.cell? ⟨gb121, 4, none⟩ = some (.string a0_4) := (blk_cell BK121.out 4).trans rfl; have hcz9_5 : w8.cell? ⟨gb121, 5, none⟩ = some (.float .f64 bv0_5) := (blk_cell BK121.out 5).trans rfl; have hfz9_0 := blk_frozen BK121.out 0; have hfz9_1 := blk_frozen BK121.out 1; have hfz9_2 := blk_frozen BK121.out 2; have hfz9_3 := blk_frozen BK121.out 3; have hfz9_4 := blk_frozen BK121.out 4; have hfz9_5 := blk_frozen BK121.out 5) | ((with_reducible refine gate_dst (N := 3) rfl ?_); refine box_event ?hg (N := 3) ?hd (cs := #[.int .i64 0, .int .i64 0]) (t := 27) ?hr ?_; (case hd => rfl); (case hg => rfl); (case hr => first | (go_simp; done) | (go_simp; rfl)); intro gb122 hg w10 hbox hb; have n0_ := Aside0.mk (blk_below (g := gb121) (o := .cells #[.int .i64 a0_0, .int .i64 a0_1, .int .i64 a0_2, .int .i64 a0_3, .string a0_4, .float .f64 bv0_5] 30 (0, 0)) (by (with_reducible repeat (first | refine blk_drewN ?_ _ | refine blk_drew ?_ | refine blk_alloc ?_ _)); exact BK121.out) hb); have n1_ := Aside0.mk (below_step (by repeat (first | (with_reducible first | exact HB.out | apply below_alloc | apply pw_below_drewN | apply below_drew1 | refine below_set ?_ GE121.out) | exact HB.out)) hb); have n2_ := Aside0.mk (hbox); have n3_ := Aside0.mk ((by rw [hg]; exact (below_size (by repeat (first | (with_reducible first | exact HB.out | apply below_alloc | apply pw_below_drewN | apply below_drew1 | refine below_set ?_ GE121.out) | exact HB.out))) : w.heap.size ≤ gb122)); have n4_ := Aside0.mk ((by rw [hg]; exact (below_size (by repeat (first | (with_reducible first | exact HB.out | apply below_alloc | apply pw_below_drewN | apply below_drew1 | refine below_set ?_ GE121.out) | exact HB.out))) : w.heap.size ≤ gb122)); have n5_ := Aside0.mk ((by rw [hg]; exact Nat.ne_of_lt (blk_lt (g := gb121) (o := .cells #[.int .i64 a0_0, .int .i64 a0_1, .int .i64 a0_2, .int .i64 a0_3, .string a0_4, .float .f64 bv0_5] 30 (0, 0)) (by (with_reducible repeat (first | refine blk_drewN ?_ _ | refine blk_drew ?_ | refine blk_alloc ?_ _)); exact BK121.out)) : gb121 ≠ gb122)); have n6_ := Aside0.mk ((by rw [hg]; exact Nat.ne_of_gt (blk_lt (g := gb121) (o := .cells #[.int .i64 a0_0, .int .i64 a0_1, .int .i64 a0_2, .int .i64 a0_3, .string a0_4, .float .f64 bv0_5] 30 (0, 0)) (by (with_reducible repeat (first | refine blk_drewN ?_ _ | refine blk_drew ?_ | refine blk_alloc ?_ _)); exact BK121.out)) : gb122 ≠ gb121)); clear BK121; clear HB; have BK121 := n0_; have HB := n1_; have BK122 := n2_; have GW122 := n3_; have GE122 := n4_; have NB121_122 := n5_; have NB122_121 := n6_; clear n0_ n1_ n2_ n3_ n4_ n5_ n6_; clear hb hbox hg; have hnb11 := NB122_121.out; have hnc11 := NB121_122.out; have hcz12_0 : w10.cell? ⟨gb122, 0, none⟩ = some (.int .i64 0) := (blk_cell BK122.out 0).trans rfl; have hcz12_1 : w10.cell? ⟨gb122, 1, none⟩ = some (.int .i64 0) := (blk_cell BK122.out 1).trans rfl; have hfz12_0 := blk_frozen BK122.out 0; have hfz12_1 := blk_frozen BK122.out 1; have hcz13_0 : w10.cell? ⟨gb121, 0, none⟩ = some (.int .i64 a0_0) := (blk_cell BK121.out 0).trans rfl; have hcz13_1 : w10.cell? ⟨gb121, 1, none⟩ = some (.int .i64 a0_1) := (blk_cell BK121.out 1).trans rfl; have hcz13_2 : w10.cell? ⟨gb121, 2, none⟩ = some (.int .i64 a0_2) := (blk_cell BK121.out 2).trans rfl; have hcz13_3 : w10.cell? ⟨gb121, 3, none⟩ = some (.int .i64 a0_3) := (blk_cell BK121.out 3).trans rfl; have hcz13_4 : w10.cell? ⟨gb121, 4, none⟩ = some (.string a0_4) := (blk_cell BK121.out 4).trans rfl; have hcz13_5 : w10.cell? ⟨gb121, 5, none⟩ = some (.float .f64 bv0_5) := (blk_cell BK121.out 5).trans rfl; have hfz13_0 := blk_frozen BK121.out 0; have hfz13_1 := blk_frozen BK121.out 1; have hfz13_2 := blk_frozen BK121.out 2; have hfz13_3 := blk_frozen BK121.out 3; have hfz13_4 := blk_frozen BK121.out 4; have hfz13_5 := blk_frozen BK121.out 5) | (go_at_call 81; (with_reducible refine (moves_Row.calls a0_0 a0_1 a0_2 a0_3 a0_4 _ a0_5 t123 t124 t125 t126 _ ?side1 A6.out).mono ?_); (case side1 => exact (by first | assumption | exact FB_lit _ _ rfl | exact FB_int _ | simpa using (by assumption))); rintro e w14 ⟨bv127, rfl, bq127, hb⟩; have n0_ := Aside0.mk (blk_below (g := gb121) (o := .cells #[.int .i64 a0_0, .int .i64 a0_1, .int .i64 a0_2, .int .i64 a0_3, .string a0_4, .float .f64 bv0_5] 30 (0, 0)) (by (with_reducible repeat (first | refine blk_drewN ?_ _ | refine blk_drew ?_ | refine blk_alloc ?_ _)); refine blk_far ?_ NB121_122.out _; (with_reducible repeat (first | refine blk_drewN ?_ _ | refine blk_drew ?_ | refine blk_alloc ?_ _)); refine blk_far ?_ NB121_122.out _; (with_reducible repeat (first | refine blk_drewN ?_ _ | refine blk_drew ?_ | refine blk_alloc ?_ _)); exact BK121.out) hb); have n1_ := Aside0.mk (blk_below (g := gb122) (o := .cells #[.int .i64 a0_0, .int .i64 a0_1] 27 (0, 0)) (by (with_reducible repeat (first | refine blk_drewN ?_ _ | refine blk_drew ?_ | refine blk_alloc ?_ _)); refine blk_put (cs := #[.int .i64 a0_0, .int .i64 0]) ?_ 1 _ rfl; (with_reducible repeat (first | refine blk_drewN ?_ _ | refine blk_drew ?_ | refine blk_alloc ?_ _)); refine blk_put (cs := #[.int .i64 0, .int .i64 0]) ?_ 0 _ rfl; (with_reducible repeat (first | refine blk_drewN ?_ _ | refine blk_drew ?_ | refine blk_alloc ?_ _)); exact BK122.out) hb); have n2_ := Aside0.mk (below_step (by repeat (first | (with_reducible first | exact HB.out | apply below_alloc | apply pw_below_drewN | apply below_drew1 | refine below_set ?_ GE121.out | refine below_set ?_ GE122.out) | exact HB.out)) hb); clear BK121; clear BK122; clear HB; have BK121 := n0_; have BK122 := n1_; have HB := n2_; clear n0_ n1_ n2_; (try clear hb); (try clear hb2); (try clear hk); (try clear hi)) | (go_at_call 80; (with_reducible refine (tree_One.calls t123 t124 t125 _ t126 t128 _ ?side1 A7.out).mono ?_); (case side1 => exact (by first | assumption | exact FB_lit _ _ rfl | exact FB_int _ | simpa using (by assumption))); rintro e w15 ⟨rfl, hb⟩; have n0_ := Aside0.mk (blk_below (g := gb121) (o := .cells #[.int .i64 a0_0, .int .i64 a0_1, .int .i64 a0_2, .int .i64 a0_3, .string a0_4, .float .f64 bv0_5] 30 (0, 0)) (by (with_reducible repeat (first | refine blk_drewN ?_ _ | refine blk_drew ?_ | refine blk_alloc ?_ _)); exact BK121.out) hb); have n1_ := Aside0.mk (blk_below (g := gb122) (o := .cells #[.int .i64 a0_0, .int .i64 a0_1] 27 (0, 0)) (by (with_reducible repeat (first | refine blk_drewN ?_ _ | refine blk_drew ?_ | refine blk_alloc ?_ _)); exact BK122.out) hb); have n2_ := Aside0.mk (below_step (by repeat (first | (with_reducible first | exact HB.out | apply below_alloc | apply pw_below_drewN | apply below_drew1 | refine below_set ?_ GE121.out | refine below_set ?_ GE122.out) | exact HB.out)) hb); clear BK121; clear BK122; clear HB; have BK121 := n0_; have BK122 := n1_; have HB := n2_; clear n0_ n1_ n2_; (try clear hb); (try clear hb2); (try clear hk); (try clear hi)))
          go_ret
          exact ⟨by first | rfl | (simp [errW_none, errW_some] <;> rfl) | (simp [*, errW_none, errW_some] <;> rfl), by repeat (first | (with_reducible first | exact HB.out | apply below_alloc | apply pw_below_drewN | apply below_drew1 | refine below_set ?_ GE121.out | refine below_set ?_ GE122.out) | exact HB.out)⟩
        · rw [if_neg c5] at H
          have c5b0 : decide (a0_1 ≤ 255) = false := decide_eq_false c5
          clear c5
          obtain rfl := Option.some.inj H
          go_enter Try.func54, Try.ntmps54
          go_wp2_with (first | ((with_reducible refine gate_dst (N := 1) rfl ?_); refine box_event ?hg (N := 1) ?hd (cs := #[.int .i64 a0_0, .int .i64 a0_1, .int .i64 a0_2, .int .i64 a0_3, .string a0_4, .float .f64 bv0_5]) (t := 30) ?hr ?_; (case hd => rfl); (case hg => rfl); (case hr => first | (go_simp; done) | (go_simp; rfl)); intro gb121 hg w16 hbox hb; have n0_ := Aside0.mk (below_step (by repeat (first | (with_reducible first | exact HB.out | apply below_alloc | apply pw_below_drewN | apply below_drew1) | exact HB.out)) hb); have n1_ := Aside0.mk (hbox); have n2_ := Aside0.mk ((by rw [hg]; exact (below_size (by repeat (first | (with_reducible first | exact HB.out | apply below_alloc | apply pw_below_drewN | apply below_drew1) | exact HB.out))) : w.heap.size ≤ gb121)); have n3_ := Aside0.mk ((by rw [hg]; exact (below_size (by repeat (first | (with_reducible first | exact HB.out | apply below_alloc | apply pw_below_drewN | apply below_drew1) | exact HB.out))) : w.heap.size ≤ gb121)); clear HB; have HB := n0_; have BK121 := n1_; have GW121 := n2_; have GE121 := n3_; clear n0_ n1_ n2_ n3_; clear hb hbox hg; have hcz17_0 : w16.cell? ⟨gb121, 0, none⟩ = some (.int .i64 a0_0) := (blk_cell BK121.out 0).trans rfl; have hcz17_1 : w16.cell? ⟨gb121, 1, none⟩ = some (.int .i64 a0_1) := (blk_cell BK121.out 1).trans rfl; have hcz17_2 : w16.cell? ⟨gb121, 2, none⟩ = some (.int .i64 a0_2) := (blk_cell BK121.out 2).trans rfl; have hcz17_3 : w16.cell? ⟨gb121, 3, none⟩ = some (.int .i64 a0_3) := (blk_cell BK121.out 3).trans rfl; have hcz17_4 : w16.cell? ⟨gb121, 4, none⟩ = some (.string a0_4) := (blk_cell BK121.out 4).trans rfl; have hcz17_5 : w16.cell? ⟨gb121, 5, none⟩ = some (.float .f64 bv0_5) := (blk_cell BK121.out 5).trans rfl; have hfz17_0 := blk_frozen BK121.out 0; have hfz17_1 := blk_frozen BK121.out 1; have hfz17_2 := blk_frozen BK121.out 2; have hfz17_3 := blk_frozen BK121.out 3; have hfz17_4 := blk_frozen BK121.out 4; have hfz17_5 := blk_frozen BK121.out 5) | ((with_reducible refine gate_dst (N := 3) rfl ?_); refine box_event ?hg (N := 3) ?hd (cs := #[.int .i64 0, .int .i64 0]) (t := 27) ?hr ?_; (case hd => rfl); (case hg => rfl); (case hr => first | (go_simp; done) | (go_simp; rfl)); intro gb122 hg w18 hbox hb; have n0_ := Aside0.mk (blk_below (g := gb121) (o := .cells #[.int .i64 a0_0, .int .i64 a0_1, .int .i64 a0_2, .int .i64 a0_3, .string a0_4, .float .f64 bv0_5] 30 (0, 0)) (by (with_reducible repeat (first | refine blk_drewN ?_ _ | refine blk_drew ?_ | refine blk_alloc ?_ _)); exact BK121.out) hb); have n1_ := Aside0.mk (below_step (by repeat (first | (with_reducible first | exact HB.out | apply below_alloc | apply pw_below_drewN | apply below_drew1 | refine below_set ?_ GE121.out) | exact HB.out)) hb); have n2_ := Aside0.mk (hbox); have n3_ := Aside0.mk ((by rw [hg]; exact (below_size (by repeat (first | (with_reducible first | exact HB.out | apply below_alloc | apply pw_below_drewN | apply below_drew1 | refine below_set ?_ GE121.out) | exact HB.out))) : w.heap.size ≤ gb122)); have n4_ := Aside0.mk ((by rw [hg]; exact (below_size (by repeat (first | (with_reducible first | exact HB.out | apply below_alloc | apply pw_below_drewN | apply below_drew1 | refine below_set ?_ GE121.out) | exact HB.out))) : w.heap.size ≤ gb122)); have n5_ := Aside0.mk ((by rw [hg]; exact Nat.ne_of_lt (blk_lt (g := gb121) (o := .cells #[.int .i64 a0_0, .int .i64 a0_1, .int .i64 a0_2, .int .i64 a0_3, .string a0_4, .float .f64 bv0_5] 30 (0, 0)) (by (with_reducible repeat (first | refine blk_drewN ?_ _ | refine blk_drew ?_ | refine blk_alloc ?_ _)); exact BK121.out)) : gb121 ≠ gb122)); have n6_ := Aside0.mk ((by rw [hg]; exact Nat.ne_of_gt (blk_lt (g := gb121) (o := .cells #[.int .i64 a0_0, .int .i64 a0_1, .int .i64 a0_2, .int .i64 a0_3, .string a0_4, .float .f64 bv0_5] 30 (0, 0)) (by (with_reducible repeat (first | refine blk_drewN ?_ _ | refine blk_drew ?_ | refine blk_alloc ?_ _)); exact BK121.out)) : gb122 ≠ gb121)); clear BK121; clear HB; have BK121 := n0_; have HB := n1_; have BK122 := n2_; have GW122 := n3_; have GE122 := n4_; have NB121_122 := n5_; have NB122_121 := n6_; clear n0_ n1_ n2_ n3_ n4_ n5_ n6_; clear hb hbox hg; have hnb19 := NB122_121.out; have hnc19 := NB121_122.out; have hcz20_0 : w18.cell? ⟨gb122, 0, none⟩ = some (.int .i64 0) := (blk_cell BK122.out 0).trans rfl; have hcz20_1 : w18.cell? ⟨gb122, 1, none⟩ = some (.int .i64 0) := (blk_cell BK122.out 1).trans rfl; have hfz20_0 := blk_frozen BK122.out 0; have hfz20_1 := blk_frozen BK122.out 1))
          go_ret
          exact ⟨by first | rfl | (simp [errW_none, errW_some] <;> rfl) | (simp [*, errW_none, errW_some] <;> rfl), by repeat (first | (with_reducible first | exact HB.out | apply below_alloc | apply pw_below_drewN | apply below_drew1 | refine below_set ?_ GE121.out | refine below_set ?_ GE122.out) | exact HB.out)⟩
      · rw [if_neg c4] at H
        have c4b0 : decide (1 ≤ a0_1) = false := decide_eq_false c4
        clear c4
        obtain rfl := Option.some.inj H
        go_enter Try.func54, Try.ntmps54
        go_wp2_with (first | ((with_reducible refine gate_dst (N := 1) rfl ?_); refine box_event ?hg (N := 1) ?hd (cs := #[.int .i64 a0_0, .int .i64 a0_1, .int .i64 a0_2, .int .i64 a0_3, .string a0_4, .float .f64 bv0_5]) (t := 30) ?hr ?_; (case hd => rfl); (case hg => rfl); (case hr => first | (go_simp; done) | (go_simp; rfl)); intro gb121 hg w21 hbox hb; have n0_ := Aside0.mk (below_step (by repeat (first | (with_reducible first | exact HB.out | apply below_alloc | apply pw_below_drewN | apply below_drew1) | exact HB.out)) hb); have n1_ := Aside0.mk (hbox); have n2_ := Aside0.mk ((by rw [hg]; exact (below_size (by repeat (first | (with_reducible first | exact HB.out | apply below_alloc | apply pw_below_drewN | apply below_drew1) | exact HB.out))) : w.heap.size ≤ gb121)); have n3_ := Aside0.mk ((by rw [hg]; exact (below_size (by repeat (first | (with_reducible first | exact HB.out | apply below_alloc | apply pw_below_drewN | apply below_drew1) | exact HB.out))) : w.heap.size ≤ gb121)); clear HB; have HB := n0_; have BK121 := n1_; have GW121 := n2_; have GE121 := n3_; clear n0_ n1_ n2_ n3_; clear hb hbox hg; have hcz22_0 : w21.cell? ⟨gb121, 0, none⟩ = some (.int .i64 a0_0) := (blk_cell BK121.out 0).trans rfl; have hcz22_1 : w21.cell? ⟨gb121, 1, none⟩ = some (.int .i64 a0_1) := (blk_cell BK121.out 1).trans rfl; have hcz22_2 : w21.cell? ⟨gb121, 2, none⟩ = some (.int .i64 a0_2) := (blk_cell BK121.out 2).trans rfl; have hcz22_3 : w21.cell? ⟨gb121, 3, none⟩ = some (.int .i64 a0_3) := (blk_cell BK121.out 3).trans rfl; have hcz22_4 : w21.cell? ⟨gb121, 4, none⟩ = some (.string a0_4) := (blk_cell BK121.out 4).trans rfl; have hcz22_5 : w21.cell? ⟨gb121, 5, none⟩ = some (.float .f64 bv0_5) := (blk_cell BK121.out 5).trans rfl; have hfz22_0 := blk_frozen BK121.out 0; have hfz22_1 := blk_frozen BK121.out 1; have hfz22_2 := blk_frozen BK121.out 2; have hfz22_3 := blk_frozen BK121.out 3; have hfz22_4 := blk_frozen BK121.out 4; have hfz22_5 := blk_frozen BK121.out 5) | ((with_reducible refine gate_dst (N := 3) rfl ?_); refine box_event ?hg (N := 3) ?hd (cs := #[.int .i64 0, .int .i64 0]) (t := 27) ?hr ?_; (case hd => rfl); (case hg => rfl); (case hr => first | (go_simp; done) | (go_simp; rfl)); intro gb122 hg w23 hbox hb; have n0_ := Aside0.mk (blk_below (g := gb121) (o := .cells #[.int .i64 a0_0, .int .i64 a0_1, .int .i64 a0_2, .int .i64 a0_3, .string a0_4, .float .f64 bv0_5] 30 (0, 0)) (by (with_reducible repeat (first | refine blk_drewN ?_ _ | refine blk_drew ?_ | refine blk_alloc ?_ _)); exact BK121.out) hb); have n1_ := Aside0.mk (below_step (by repeat (first | (with_reducible first | exact HB.out | apply below_alloc | apply pw_below_drewN | apply below_drew1 | refine below_set ?_ GE121.out) | exact HB.out)) hb); have n2_ := Aside0.mk (hbox); have n3_ := Aside0.mk ((by rw [hg]; exact (below_size (by repeat (first | (with_reducible first | exact HB.out | apply below_alloc | apply pw_below_drewN | apply below_drew1 | refine below_set ?_ GE121.out) | exact HB.out))) : w.heap.size ≤ gb122)); have n4_ := Aside0.mk ((by rw [hg]; exact (below_size (by repeat (first | (with_reducible first | exact HB.out | apply below_alloc | apply pw_below_drewN | apply below_drew1 | refine below_set ?_ GE121.out) | exact HB.out))) : w.heap.size ≤ gb122)); have n5_ := Aside0.mk ((by rw [hg]; exact Nat.ne_of_lt (blk_lt (g := gb121) (o := .cells #[.int .i64 a0_0, .int .i64 a0_1, .int .i64 a0_2, .int .i64 a0_3, .string a0_4, .float .f64 bv0_5] 30 (0, 0)) (by (with_reducible repeat (first | refine blk_drewN ?_ _ | refine blk_drew ?_ | refine blk_alloc ?_ _)); exact BK121.out)) : gb121 ≠ gb122)); have n6_ := Aside0.mk ((by rw [hg]; exact Nat.ne_of_gt (blk_lt (g := gb121) (o := .cells #[.int .i64 a0_0, .int .i64 a0_1, .int .i64 a0_2, .int .i64 a0_3, .string a0_4, .float .f64 bv0_5] 30 (0, 0)) (by (with_reducible repeat (first | refine blk_drewN ?_ _ | refine blk_drew ?_ | refine blk_alloc ?_ _)); exact BK121.out)) : gb122 ≠ gb121)); clear BK121; clear HB; have BK121 := n0_; have HB := n1_; have BK122 := n2_; have GW122 := n3_; have GE122 := n4_; have NB121_122 := n5_; have NB122_121 := n6_; clear n0_ n1_ n2_ n3_ n4_ n5_ n6_; clear hb hbox hg; have hnb24 := NB122_121.out; have hnc24 := NB121_122.out; have hcz25_0 : w23.cell? ⟨gb122, 0, none⟩ = some (.int .i64 0) := (blk_cell BK122.out 0).trans rfl; have hcz25_1 : w23.cell? ⟨gb122, 1, none⟩ = some (.int .i64 0) := (blk_cell BK122.out 1).trans rfl; have hfz25_0 := blk_frozen BK122.out 0; have hfz25_1 := blk_frozen BK122.out 1))
        go_ret
        exact ⟨by first | rfl | (simp [errW_none, errW_some] <;> rfl) | (simp [*, errW_none, errW_some] <;> rfl), by repeat (first | (with_reducible first | exact HB.out | apply below_alloc | apply pw_below_drewN | apply below_drew1 | refine below_set ?_ GE121.out | refine below_set ?_ GE122.out) | exact HB.out)⟩
    · rw [if_neg c3] at H
      have c3b0 : decide (a0_0 ≤ 4611686018427387903) = false := decide_eq_false c3
      clear c3
      obtain rfl := Option.some.inj H
      go_enter Try.func54, Try.ntmps54
      go_wp2_with (first | ((with_reducible refine gate_dst (N := 1) rfl ?_); refine box_event ?hg (N := 1) ?hd (cs := #[.int .i64 a0_0, .int .i64 a0_1, .int .i64 a0_2, .int .i64 a0_3, .string a0_4, .float .f64 bv0_5]) (t := 30) ?hr ?_; (case hd => rfl); (case hg => rfl); (case hr => first | (go_simp; done) | (go_simp; rfl)); intro gb121 hg w26 hbox hb; have n0_ := Aside0.mk (below_step (by repeat (first | (with_reducible first | exact HB.out | apply below_alloc | apply pw_below_drewN | apply below_drew1) | exact HB.out)) hb); have n1_ := Aside0.mk (hbox); have n2_ := Aside0.mk ((by rw [hg]; exact (below_size (by repeat (first | (with_reducible first | exact HB.out | apply below_alloc | apply pw_below_drewN | apply below_drew1) | exact HB.out))) : w.heap.size ≤ gb121)); have n3_ := Aside0.mk ((by rw [hg]; exact (below_size (by repeat (first | (with_reducible first | exact HB.out | apply below_alloc | apply pw_below_drewN | apply below_drew1) | exact HB.out))) : w.heap.size ≤ gb121)); clear HB; have HB := n0_; have BK121 := n1_; have GW121 := n2_; have GE121 := n3_; clear n0_ n1_ n2_ n3_; clear hb hbox hg; have hcz27_0 : w26.cell? ⟨gb121, 0, none⟩ = some (.int .i64 a0_0) := (blk_cell BK121.out 0).trans rfl; have hcz27_1 : w26.cell? ⟨gb121, 1, none⟩ = some (.int .i64 a0_1) := (blk_cell BK121.out 1).trans rfl; have hcz27_2 : w26.cell? ⟨gb121, 2, none⟩ = some (.int .i64 a0_2) := (blk_cell BK121.out 2).trans rfl; have hcz27_3 : w26.cell? ⟨gb121, 3, none⟩ = some (.int .i64 a0_3) := (blk_cell BK121.out 3).trans rfl; have hcz27_4 : w26.cell? ⟨gb121, 4, none⟩ = some (.string a0_4) := (blk_cell BK121.out 4).trans rfl; have hcz27_5 : w26.cell? ⟨gb121, 5, none⟩ = some (.float .f64 bv0_5) := (blk_cell BK121.out 5).trans rfl; have hfz27_0 := blk_frozen BK121.out 0; have hfz27_1 := blk_frozen BK121.out 1; have hfz27_2 := blk_frozen BK121.out 2; have hfz27_3 := blk_frozen BK121.out 3; have hfz27_4 := blk_frozen BK121.out 4; have hfz27_5 := blk_frozen BK121.out 5) | ((with_reducible refine gate_dst (N := 3) rfl ?_); refine box_event ?hg (N := 3) ?hd (cs := #[.int .i64 0, .int .i64 0]) (t := 27) ?hr ?_; (case hd => rfl); (case hg => rfl); (case hr => first | (go_simp; done) | (go_simp; rfl)); intro gb122 hg w28 hbox hb; have n0_ := Aside0.mk (blk_below (g := gb121) (o := .cells #[.int .i64 a0_0, .int .i64 a0_1, .int .i64 a0_2, .int .i64 a0_3, .string a0_4, .float .f64 bv0_5] 30 (0, 0)) (by (with_reducible repeat (first | refine blk_drewN ?_ _ | refine blk_drew ?_ | refine blk_alloc ?_ _)); exact BK121.out) hb); have n1_ := Aside0.mk (below_step (by repeat (first | (with_reducible first | exact HB.out | apply below_alloc | apply pw_below_drewN | apply below_drew1 | refine below_set ?_ GE121.out) | exact HB.out)) hb); have n2_ := Aside0.mk (hbox); have n3_ := Aside0.mk ((by rw [hg]; exact (below_size (by repeat (first | (with_reducible first | exact HB.out | apply below_alloc | apply pw_below_drewN | apply below_drew1 | refine below_set ?_ GE121.out) | exact HB.out))) : w.heap.size ≤ gb122)); have n4_ := Aside0.mk ((by rw [hg]; exact (below_size (by repeat (first | (with_reducible first | exact HB.out | apply below_alloc | apply pw_below_drewN | apply below_drew1 | refine below_set ?_ GE121.out) | exact HB.out))) : w.heap.size ≤ gb122)); have n5_ := Aside0.mk ((by rw [hg]; exact Nat.ne_of_lt (blk_lt (g := gb121) (o := .cells #[.int .i64 a0_0, .int .i64 a0_1, .int .i64 a0_2, .int .i64 a0_3, .string a0_4, .float .f64 bv0_5] 30 (0, 0)) (by (with_reducible repeat (first | refine blk_drewN ?_ _ | refine blk_drew ?_ | refine blk_alloc ?_ _)); exact BK121.out)) : gb121 ≠ gb122)); have n6_ := Aside0.mk ((by rw [hg]; exact Nat.ne_of_gt (blk_lt (g := gb121) (o := .cells #[.int .i64 a0_0, .int .i64 a0_1, .int .i64 a0_2, .int .i64 a0_3, .string a0_4, .float .f64 bv0_5] 30 (0, 0)) (by (with_reducible repeat (first | refine blk_drewN ?_ _ | refine blk_drew ?_ | refine blk_alloc ?_ _)); exact BK121.out)) : gb122 ≠ gb121)); clear BK121; clear HB; have BK121 := n0_; have HB := n1_; have BK122 := n2_; have GW122 := n3_; have GE122 := n4_; have NB121_122 := n5_; have NB122_121 := n6_; clear n0_ n1_ n2_ n3_ n4_ n5_ n6_; clear hb hbox hg; have hnb29 := NB122_121.out; have hnc29 := NB121_122.out; have hcz30_0 : w28.cell? ⟨gb122, 0, none⟩ = some (.int .i64 0) := (blk_cell BK122.out 0).trans rfl; have hcz30_1 : w28.cell? ⟨gb122, 1, none⟩ = some (.int .i64 0) := (blk_cell BK122.out 1).trans rfl; have hfz30_0 := blk_frozen BK122.out 0; have hfz30_1 := blk_frozen BK122.out 1))
      go_ret
      exact ⟨by first | rfl | (simp [errW_none, errW_some] <;> rfl) | (simp [*, errW_none, errW_some] <;> rfl), by repeat (first | (with_reducible first | exact HB.out | apply below_alloc | apply pw_below_drewN | apply below_drew1 | refine below_set ?_ GE121.out | refine below_set ?_ GE122.out) | exact HB.out)⟩
  · rw [if_neg c2] at H
    have c2b0 : decide (1 ≤ a0_0) = false := decide_eq_false c2
    clear c2
    obtain rfl := Option.some.inj H
    go_enter Try.func54, Try.ntmps54
    go_wp2_with (first | ((with_reducible refine gate_dst (N := 1) rfl ?_); refine box_event ?hg (N := 1) ?hd (cs := #[.int .i64 a0_0, .int .i64 a0_1, .int .i64 a0_2, .int .i64 a0_3, .string a0_4, .float .f64 bv0_5]) (t := 30) ?hr ?_; (case hd => rfl); (case hg => rfl); (case hr => first | (go_simp; done) | (go_simp; rfl)); intro gb121 hg w31 hbox hb; have n0_ := Aside0.mk (below_step (by repeat (first | (with_reducible first | exact HB.out | apply below_alloc | apply pw_below_drewN | apply below_drew1) | exact HB.out)) hb); have n1_ := Aside0.mk (hbox); have n2_ := Aside0.mk ((by rw [hg]; exact (below_size (by repeat (first | (with_reducible first | exact HB.out | apply below_alloc | apply pw_below_drewN | apply below_drew1) | exact HB.out))) : w.heap.size ≤ gb121)); have n3_ := Aside0.mk ((by rw [hg]; exact (below_size (by repeat (first | (with_reducible first | exact HB.out | apply below_alloc | apply pw_below_drewN | apply below_drew1) | exact HB.out))) : w.heap.size ≤ gb121)); clear HB; have HB := n0_; have BK121 := n1_; have GW121 := n2_; have GE121 := n3_; clear n0_ n1_ n2_ n3_; clear hb hbox hg; have hcz32_0 : w31.cell? ⟨gb121, 0, none⟩ = some (.int .i64 a0_0) := (blk_cell BK121.out 0).trans rfl; have hcz32_1 : w31.cell? ⟨gb121, 1, none⟩ = some (.int .i64 a0_1) := (blk_cell BK121.out 1).trans rfl; have hcz32_2 : w31.cell? ⟨gb121, 2, none⟩ = some (.int .i64 a0_2) := (blk_cell BK121.out 2).trans rfl; have hcz32_3 : w31.cell? ⟨gb121, 3, none⟩ = some (.int .i64 a0_3) := (blk_cell BK121.out 3).trans rfl; have hcz32_4 : w31.cell? ⟨gb121, 4, none⟩ = some (.string a0_4) := (blk_cell BK121.out 4).trans rfl; have hcz32_5 : w31.cell? ⟨gb121, 5, none⟩ = some (.float .f64 bv0_5) := (blk_cell BK121.out 5).trans rfl; have hfz32_0 := blk_frozen BK121.out 0; have hfz32_1 := blk_frozen BK121.out 1; have hfz32_2 := blk_frozen BK121.out 2; have hfz32_3 := blk_frozen BK121.out 3; have hfz32_4 := blk_frozen BK121.out 4; have hfz32_5 := blk_frozen BK121.out 5) | ((with_reducible refine gate_dst (N := 3) rfl ?_); refine box_event ?hg (N := 3) ?hd (cs := #[.int .i64 0, .int .i64 0]) (t := 27) ?hr ?_; (case hd => rfl); (case hg => rfl); (case hr => first | (go_simp; done) | (go_simp; rfl)); intro gb122 hg w33 hbox hb; have n0_ := Aside0.mk (blk_below (g := gb121) (o := .cells #[.int .i64 a0_0, .int .i64 a0_1, .int .i64 a0_2, .int .i64 a0_3, .string a0_4, .float .f64 bv0_5] 30 (0, 0)) (by (with_reducible repeat (first | refine blk_drewN ?_ _ | refine blk_drew ?_ | refine blk_alloc ?_ _)); exact BK121.out) hb); have n1_ := Aside0.mk (below_step (by repeat (first | (with_reducible first | exact HB.out | apply below_alloc | apply pw_below_drewN | apply below_drew1 | refine below_set ?_ GE121.out) | exact HB.out)) hb); have n2_ := Aside0.mk (hbox); have n3_ := Aside0.mk ((by rw [hg]; exact (below_size (by repeat (first | (with_reducible first | exact HB.out | apply below_alloc | apply pw_below_drewN | apply below_drew1 | refine below_set ?_ GE121.out) | exact HB.out))) : w.heap.size ≤ gb122)); have n4_ := Aside0.mk ((by rw [hg]; exact (below_size (by repeat (first | (with_reducible first | exact HB.out | apply below_alloc | apply pw_below_drewN | apply below_drew1 | refine below_set ?_ GE121.out) | exact HB.out))) : w.heap.size ≤ gb122)); have n5_ := Aside0.mk ((by rw [hg]; exact Nat.ne_of_lt (blk_lt (g := gb121) (o := .cells #[.int .i64 a0_0, .int .i64 a0_1, .int .i64 a0_2, .int .i64 a0_3, .string a0_4, .float .f64 bv0_5] 30 (0, 0)) (by (with_reducible repeat (first | refine blk_drewN ?_ _ | refine blk_drew ?_ | refine blk_alloc ?_ _)); exact BK121.out)) : gb121 ≠ gb122)); have n6_ := Aside0.mk ((by rw [hg]; exact Nat.ne_of_gt (blk_lt (g := gb121) (o := .cells #[.int .i64 a0_0, .int .i64 a0_1, .int .i64 a0_2, .int .i64 a0_3, .string a0_4, .float .f64 bv0_5] 30 (0, 0)) (by (with_reducible repeat (first | refine blk_drewN ?_ _ | refine blk_drew ?_ | refine blk_alloc ?_ _)); exact BK121.out)) : gb122 ≠ gb121)); clear BK121; clear HB; have BK121 := n0_; have HB := n1_; have BK122 := n2_; have GW122 := n3_; have GE122 := n4_; have NB121_122 := n5_; have NB122_121 := n6_; clear n0_ n1_ n2_ n3_ n4_ n5_ n6_; clear hb hbox hg; have hnb34 := NB122_121.out; have hnc34 := NB121_122.out; have hcz35_0 : w33.cell? ⟨gb122, 0, none⟩ = some (.int .i64 0) := (blk_cell BK122.out 0).trans rfl; have hcz35_1 : w33.cell? ⟨gb122, 1, none⟩ = some (.int .i64 0) := (blk_cell BK122.out 1).trans rfl; have hfz35_0 := blk_frozen BK122.out 0; have hfz35_1 := blk_frozen BK122.out 1))
    go_ret
    exact ⟨by first | rfl | (simp [errW_none, errW_some] <;> rfl) | (simp [*, errW_none, errW_some] <;> rfl), by repeat (first | (with_reducible first | exact HB.out | apply below_alloc | apply pw_below_drewN | apply below_drew1 | refine below_set ?_ GE121.out | refine below_set ?_ GE122.out) | exact HB.out)⟩
end Go.Proofs.Ytfgnjndfnijjoaa.Print
end
