/- Part 1 of what DictBack stands on: merged by a program of this session out of its texts. -/
import Derived.OpenShut
import Derived.ChangeArms
import Derived.ChangeSlices
import Derived.DataElems
import Derived.Shelf.Strings.Builder1
import Derived.Shelf.Strings.BuilderF
import Derived.Shelf.Strings.BuilderK
import Derived.Shelf.Bits.Mul64
import Derived.Test.YtbgjoiccehiglaaProg
import Derived.WalkKit
import Derived.RowKit3
import Derived.Below
import Derived.Deep.Draws
import Derived.Deep.AppendLies
import Derived.Maps.AppendAt
import Derived.OwnWalk
import Derived.Laws.BytesArg
import Derived.Laws.MakeOwn
import Derived.Laws.OwnMore
import Derived.Deep.OwnRows
import Derived.Tactics
import Derived.Lib.ConvBytes
import Derived.Laws.Slices
import Derived.KernelRfl
import Derived.Deep.LoopGhost
import Derived.Deep.QuietTactic
import Derived.BigQuiet
import Derived.WideLaws
import Derived.Deep.DeepCutAuto
import Derived.Deep.CutBlock
import Derived.Deep.RegionHeld3
import Derived.Laws.Rows
import Derived.Lib.AppendStr
import Derived.ArgAppend
import Derived.Laws.IdiomCopy
import Derived.OrdersHeld
import Derived.Laws.BitsLemmas
import Derived.RowKit
import Derived.Defers
import Derived.Recover
import Derived.WalkMore
import Derived.Laws.CopyOwn
import Derived.Deep.RegionLaw
import Derived.Maps.OwnSet
import Derived.Test.YtbgjoiccehiglaaCDictBack0
section
namespace Go.Proofs.Ytbgjoiccehiglaa.LibO
open Go.RowKit Go.Proofs.YtbgjoiccehiglaaW.PrintWords Go.Proofs.YtbgjoiccehiglaaW.PrintLast Go.Proofs.YtbgjoiccehiglaaW.PrintMore Go.ChangeShapes
section
variable {H : Type} {enc : TypeId × Value → H} {P : Program} {W : World} {base : Nat} {spare : Nat → Bool} {held : Bool}
def Opens (enc : TypeId × Value → H) (P : Program) (W : World) (base : Nat) (spare : Nat → Bool) (held : Bool) {α : Type} (d : Kd α) (Q : α → Prop) (t : TypeId) : Prop :=
  ∀ fuel cs x, DataW.trod enc P W base spare held fuel t cs = some x → ∃ a, d.K W a cs ∧ Q a
theorem opens_string {t : TypeId} (ht : P.underlying t = some .string) : Opens enc P W base spare held Kd.string (fun s => s.size ≤ maxLen) t := fun fuel cs x h => by
  obtain ⟨s, rfl, _, hs⟩ := DataW.trod_string ht h
  exact ⟨s, rfl, hs⟩
theorem cells_at {a : Addr} {n : Nat} {cs : List Value} (h : W.cells? base a n = some cs) : cs.length = n ∧ ∀ i u, cs[i]? = some u → W.cell? (a.add i) = some u := by
  unfold World.cells? at h
  split at h
  · have hl := mapM_some_length h
    rw [List.length_range] at hl
    refine ⟨hl, fun i u hu => ?_⟩
    have hi : i < cs.length := (List.getElem?_eq_some_iff.mp hu).1
    have := mapM_some_get h i i (by rw [List.getElem?_range (by omega)])
    rw [this, hu]
  · exact absurd h (by simp)
theorem row_of {α : Type} {d : Kd α} {Q : α → Prop} {t e : TypeId} {fuel : Nat} {cs : List Value} {x : DataW H × List MemPlace} (ht : P.underlying t = some (.slice e)) (hc : P.cellsOf e = d.sz) (h : Opens enc P W base spare held d Q e)
    (hx : DataW.trod enc P W base spare held fuel t cs = some x) : ∃ (A : Option Addr) (c : Nat) (l : List α), cs = [.slice A l.length c] ∧ l.length ≤ c ∧ c ≤ maxLen ∧ Kd.C d W A l.length l ∧ ∀ y ∈ l, Q y := by
  rcases DataW.trod_slice ht hx with ⟨rfl, _⟩ | ⟨a, len, cap, elems, rest, n, _, rfl, rfl, hb, hl, hm, hlen, hel, hsp, hns⟩
  · exact ⟨none, 0, [], rfl, Nat.le_refl _, Nat.zero_le _, ⟨rfl, Nat.zero_le _, fun h => absurd h (Nat.lt_irrefl 0)⟩, fun y hy => by simp at hy⟩
  · have key : ∀ m, m ≤ len → ∃ l : List α, l.length = m ∧ (∀ y ∈ l, Q y) ∧ ∀ j p, l[j]? = some p → ∃ c, c.length = d.sz ∧ d.K W p c ∧ ∀ i u, c[i]? = some u → W.cell? (a.add (j * d.sz + i)) = some u := by
      intro m
      induction m with
      | zero => exact fun _ => ⟨[], rfl, fun y hy => by simp at hy, fun j p hj => by simp at hj⟩
      | succ m ih =>
        intro hm1
        obtain ⟨l, h1, h2, h3⟩ := ih (by omega)
        have hme := hel m (by omega)
        rw [List.getElem?_eq_getElem (by omega), Option.bind_eq_some_iff] at hme
        obtain ⟨cs', hcs, hy⟩ := hme
        obtain ⟨p, hk, hq⟩ := h _ _ _ hy
        obtain ⟨hcl, hcell⟩ := cells_at hcs
        refine ⟨l ++ [p], by simp [h1], fun y hy => ?_, fun j q hj => ?_⟩
        · rcases List.mem_append.mp hy with hy | hy
          · exact h2 y hy
          · simp at hy; subst hy; exact hq
        · by_cases hjm : j < l.length
          · rw [List.getElem?_append_left hjm] at hj
            exact h3 j q hj
          · rw [List.getElem?_append_right (by omega)] at hj
            have hj0 : j - l.length = 0 := by
              have := (List.getElem?_eq_some_iff.mp hj).1
              simp at this
              omega
            rw [hj0] at hj
            obtain rfl : p = q := by simpa using hj
            obtain rfl : j = m := by omega
            refine ⟨cs', by rw [hcl, hc], hk, fun i u hu => ?_⟩
            have := hcell i u hu
            rw [hc] at this
            rwa [Addr.add_add] at this
    obtain ⟨l, h1, h2, h3⟩ := key len (Nat.le_refl _)
    have hmx : maxLen ≤ 9223372036854775807 := by decide
    exact ⟨some a, cap, l, by rw [h1], by omega, hm, ⟨rfl, by omega, fun _ => ⟨a, rfl, h3⟩⟩, h2⟩
theorem arg_slice {α : Type} {d : Kd α} {Q : α → Prop} {t e : TypeId} {a : Option Addr} {len cap : Nat} {dd : DataW H} {ps : List MemPlace} (ht : P.underlying t = some (.slice e)) (hc : P.cellsOf e = d.sz) (h : Opens enc P W base spare held d Q e)
    (hx : DataW.Trod enc P W base spare held t (.slice a len cap) dd ps) : ∃ l : List α, len = l.length ∧ l.length ≤ cap ∧ l.length ≤ maxLen ∧ Kd.C d W a l.length l ∧ ∀ y ∈ l, Q y := by
  obtain ⟨fuel, hf⟩ := hx
  obtain ⟨A, c, l, he, h1, h2, h3, h4⟩ := row_of ht hc h hf
  simp [Value.cells] at he
  obtain ⟨rfl, rfl, rfl⟩ := he
  exact ⟨l, rfl, h1, by omega, h3, h4⟩
end
end Go.Proofs.Ytbgjoiccehiglaa.LibO
end
section
namespace Go.Proofs
open Go.Shelf
def Try.lays169_ren : Go.Shelf.Ren := ⟨fun | 169 => 91 | n => n, fun | 70 => 99 | 9 => 9 | 0 => 0 | 72 => 102 | 37 => 100 | 127 => 125 | 3 => 3 | 5 => 5 | n => n, fun | n => n⟩
theorem Try.lays169 : Go.Proofs.Lays.n169 Try.prog Try.lays169_ren := {
  mixed := by kernel_rfl
  f169 := Try.func91.trans (congrArg some (by kernel_rfl))
  t0 := Try.underlying0
  a0 := Try.isAgg0
  z0 := Try.sizeOf0
  v0 := Try.zeroValue0
  t3 := Try.underlying3
  a3 := Try.isAgg3
  z3 := Try.sizeOf3
  v3 := Try.zeroValue3
  t9 := Try.underlying9
  a9 := Try.isAgg9
  z9 := Try.sizeOf9
  v9 := Try.zeroValue9
  t37 := Try.underlying100
  a37 := Try.isAgg100
  z37 := Try.sizeOf100
  v37 := Try.zeroValue100
  t70 := Try.underlying99
  a70 := Try.isAgg99
  z70 := Try.sizeOf99
  v70 := Try.zeroValue99
  t72 := Try.underlying102
  a72 := Try.isAgg102
  z72 := Try.sizeOf102
  v72 := Try.zeroValue102
  t127 := Try.underlying125
  a127 := Try.isAgg125
  z127 := Try.sizeOf125
  v127 := Try.zeroValue125 }
theorem Try.Builder_Extra_169 : Builder.Extra Try.prog Try.lays169_ren := {
  sizeBuilder := by kernel_rfl
  liesBuilder := by kernel_rfl
  t5 := Try.underlying5
  a5 := Try.isAgg5
  z5 := Try.sizeOf5
  v5 := Try.zeroValue5
  infoByte := by kernel_rfl
  cellsByte := by kernel_rfl
  sizeByte := by kernel_rfl
  neB5 := by decide }
open Go.RowKit in
theorem Try.Builder_String_any_k (B b : Nat) (l : List UInt8) (w : World) (h : Lib.IsBuilderF 102 5 B b (Lib.byteCells l) w) (hBw : B ≤ w.heap.size) :
    Calls Try.prog 91 #[.pointer (some ⟨b, 0, none⟩)] w fun e w' => e = .returned (.string ⟨l.toArray⟩) ∧ (Lib.IsBuilderF 102 5 B b (Lib.byteCells l) w' ∧ Below B w w' ∧ Lib.OthersKept 5 (some b) w w') := Any.Builder_String_any_k Try.lays169 Try.Builder_Extra_169 B b l w h hBw
def Try.lays212_ren : Go.Shelf.Ren := ⟨fun | 212 => 102 | 263 => 106 | 264 => 107 | n => n, fun | 46 => 118 | 51 => 127 | 146 => 128 | 53 => 51 | 148 => 130 | n => n, fun | n => n⟩
theorem Try.lays212 : Go.Proofs.Lays.n212 Try.prog Try.lays212_ren := {
  mixed := by kernel_rfl
  f212 := Try.func102.trans (congrArg some (by kernel_rfl))
  f263 := Try.func106.trans (congrArg some (by kernel_rfl))
  f264 := Try.func107.trans (congrArg some (by kernel_rfl))
  t46 := Try.underlying118
  a46 := Try.isAgg118
  z46 := Try.sizeOf118
  v46 := Try.zeroValue118
  t51 := Try.underlying127
  a51 := Try.isAgg127
  z51 := Try.sizeOf127
  v51 := Try.zeroValue127
  t53 := Try.underlying51
  a53 := Try.isAgg51
  z53 := Try.sizeOf51
  v53 := Try.zeroValue51
  t146 := Try.underlying128
  a146 := Try.isAgg128
  z146 := Try.sizeOf128
  v146 := Try.zeroValue128
  t148 := Try.underlying130
  a148 := Try.isAgg130
  z148 := Try.sizeOf130
  v148 := Try.zeroValue130 }
open Go.RowKit Go.Lib in
theorem Try.bits_Mul (x y : Nat) (hx : x < 18446744073709551616) (hy : y < 18446744073709551616) (w : World) :
    Calls Try.prog 102 #[.int .u64 x, .int .u64 y] w fun e w' => e = .returned (.tuple #[.int .u64 ((x * y / 18446744073709551616 : Nat) : Int), .int .u64 ((x * y % 18446744073709551616 : Nat) : Int)]) ∧ w' = w := Any.bits_Mul Try.lays212 x y hx hy w
end Go.Proofs
end
section
namespace Go.Proofs.Ytbgjoiccehiglaa.Build
open Go.RowKit Go.Shelf
theorem size102 : (Try.prog.info? 102).map (·.size) = some 2 := by kernel_rfl
theorem lies102 : liesAt Try.prog Try.prog.depth 102 (2 / Try.prog.cellsOf 102) 0 102 1 = true := by kernel_rfl
theorem infoByte : (Try.prog.info? 5).map (fun i => (i.zero, i.size, i.bytes)) = some (some (.int .u8 0), 1, 1) := by kernel_rfl
set_option maxHeartbeats 1000000 in
set_option maxRecDepth 100000 in
theorem check_used (b : Nat) (w : World) (h0 : w.cell? ⟨b, 0, none⟩ = some (.pointer (some ⟨b, 0, none⟩))) :
    Calls Try.prog 103 #[.pointer (some ⟨b, 0, none⟩)] w fun e w' => e = .returned (.tuple #[]) ∧ w' = w := by
  obtain ⟨j, hj, _⟩ := Option.map_eq_some_iff.1 size102
  go_enter Try.func103, Try.ntmps103
  go_wp2
  rw [Lib.run_neq_ptr_same w _ Try.underlying99 hj]
  go_wp2
  go_end0
  exact ⟨rfl, rfl⟩
set_option maxHeartbeats 1000000 in
set_option maxRecDepth 100000 in
theorem check_fresh (b : Nat) (w : World) (h0 : w.cell? ⟨b, 0, none⟩ = some (.pointer none)) (hsh : w.shape? b = some (102, 2)) (hfz : w.frozen? ⟨b, 0, none⟩ = false) :
    Calls Try.prog 103 #[.pointer (some ⟨b, 0, none⟩)] w fun e w' => e = .returned (.tuple #[]) ∧ w' = w.setCell ⟨b, 0, none⟩ (.pointer (some ⟨b, 0, none⟩)) := by
  obtain ⟨j, hj, hjs⟩ := Option.map_eq_some_iff.1 size102
  go_enter Try.func103, Try.ntmps103
  go_wp2
  rw [Lib.run_to_unsafe w ⟨b, 0, none⟩ Try.underlying99 Try.underlying132 hj (by rw [hjs]; decide) hsh (Nat.zero_lt_succ 1)]
  simp only [Result.andThen]
  rw [Oper.upon_value]
  go_wp2
  rw [run_callFunc_extern Try.func108 (by kernel_rfl) (by kernel_rfl) (by kernel_rfl) (e := Extern.AbiNoEscape.same) (by kernel_rfl)]
  rw [Lib.run_noEscape]
  simp only [Result.andThen]
  rw [Oper.upon_value]
  go_wp2
  rw [Lib.run_from_unsafe w ⟨b, 0, none⟩ Try.underlying132 Try.underlying99 hj hsh lies102]
  simp only [Result.andThen]
  rw [Oper.upon_value]
  go_wp2
  go_end0
  exact ⟨rfl, rfl⟩
def Bld (B b : Nat) (s : ByteArray) (w : World) : Prop := Lib.IsBuilderF 102 5 B b (Lib.strCells s) w
theorem Bld.fresh (w : World) : Bld w.heap.size w.heap.size ByteArray.empty (w.alloc (.cells #[.pointer none, .slice none 0 0] 102)) := Lib.IsBuilderF.of (Lib.fresh_isBuilder 102 5 w)
theorem Bld.alloc {B b : Nat} {s : ByteArray} {w : World} (h : Bld B b s w) (o : Obj) : Bld B b s (w.alloc o) := Lib.IsBuilderF.alloc h o
theorem Bld.drewN {B b : Nat} {s : ByteArray} {w : World} (h : Bld B b s w) (n : Nat) : Bld B b s (w.drewN n) := h
theorem cells_app (s t : ByteArray) : Lib.strCells s ++ Lib.strCells t = Lib.strCells (s ++ t) := by simp [Lib.strCells]
theorem check (B b : Nat) (s : ByteArray) (w : World) (h : Bld B b s w) :
    Calls Try.prog 103 #[.pointer (some ⟨b, 0, none⟩)] w fun e w' => e = .returned (.tuple #[]) ∧ (Lib.BuilderAtF 102 5 B b (.pointer (some ⟨b, 0, none⟩)) (Lib.strCells s) w' ∧ Below B w w' ∧ Lib.OthersKept 5 (some b) w w') := by
  rcases h with h | h
  · refine (check_fresh b w h.cell0 h.shape h.frozen0).mono ?_
    rintro e w' ⟨rfl, rfl⟩
    exact ⟨rfl, h.used _, (Below.refl B w).setCell (p := ⟨b, 0, none⟩) h.1 _, (Lib.OthersKept.refl _ _ w).setCell ⟨b, 0, none⟩ rfl _⟩
  · refine (check_used b w h.cell0).mono ?_
    rintro e w' ⟨rfl, rfl⟩
    exact ⟨rfl, h, Below.refl B _, Lib.OthersKept.refl _ _ _⟩
set_option maxHeartbeats 2000000 in
set_option maxRecDepth 100000 in
theorem write (B b : Nat) (s t : ByteArray) (w : World) (h : Bld B b s w) (hlen : s.size + t.size ≤ 140737488355328) (hBw : B ≤ w.heap.size) :
    Calls Try.prog 90 #[.pointer (some ⟨b, 0, none⟩), .string t] w fun e w' => e = .returned (.tuple #[.int .i64 t.size, .nilIface]) ∧ Bld B b (s ++ t) w' ∧ Below B w w' ∧ Lib.OthersKept 5 (some b) w w' := by
  obtain ⟨i0, hi, hz0, hz1, hz2⟩ := info_parts infoByte
  have hsl := Lib.strCells_length s
  go_enter Try.func90, Try.ntmps90
  go_wp2_with (go_at_call 103; refine (check B b s _ h).mono ?_)
  rintro e w1 ⟨rfl, h1, hb1, hk1⟩
  obtain ⟨hB, v, hbk, hown, hne⟩ := h1
  have c0 : w1.cell? ⟨b, 0, none⟩ = some (.pointer (some ⟨b, 0, none⟩)) := by rw [Lib.cell_of_heap hbk]; rfl
  have c1 : w1.cell? ⟨b, 1, none⟩ = some v := by rw [Lib.cell_of_heap hbk]; rfl
  go_wp2_with (at_builtin; refine Lib.wpList_append_own_stringF _ rfl _ _ 100 9 rfl B 5 i0 Try.underlying100 Try.underlying9 hi hz0 hz1 hz2 _ _ _ rfl hown t rfl ?c3 ?c4 ?c5 ?_)
  case c3 => unfold maxLen; omega
  case c4 => omega
  case c5 => have := hb1.size; omega
  intro v' w2 hown' hgrow _
  have hlt : b < w1.heap.size := by
    rcases Nat.lt_or_ge b w1.heap.size with h' | h'
    · exact h'
    · simp [Array.getElem?_eq_none h'] at hbk
  have hb2 : w2.heap[b]? = some (.cells #[.pointer (some ⟨b, 0, none⟩), v] 102 (0, 0)) := by
    rw [hgrow.block b hlt (fun e => hne e.symm)]
    exact hbk
  have d0 : w2.cell? ⟨b, 0, none⟩ = some (.pointer (some ⟨b, 0, none⟩)) := by rw [Lib.cell_of_heap hb2]; rfl
  have d1 : w2.cell? ⟨b, 1, none⟩ = some v := by rw [Lib.cell_of_heap hb2]; rfl
  have f1 : w2.frozen? ⟨b, 1, none⟩ = false := Lib.frozen_of_heap hb2 1
  obtain ⟨ao, n', cap, rfl⟩ : ∃ ao n' cap, v' = .slice ao n' cap := by
    rcases hown'.2 with ⟨hv, _⟩ | ⟨g, cap, cur, fz, hv, _⟩
    · exact ⟨_, _, _, hv⟩
    · exact ⟨_, _, _, hv⟩
  go_wp2
  go_ret2
  refine ⟨rfl, .inr ?_, ?_, (hk1.grown hgrow (Lib.ownsRowF_kind hown)).setCell ⟨b, 1, none⟩ rfl _⟩
  · refine Lib.BuilderAtF.put (T := 102) (e := 5) hB hb2 (bs' := Lib.strCells (s ++ t)) ?_ (by decide)
    rw [← cells_app]
    simpa [Lib.strCells_length] using hown'
  · exact (hb1.grown hgrow (by have := hb1.size; omega) (fun k hk => (hown.lt k hk).1)).setCell (p := ⟨b, 1, none⟩) hB _
theorem string (B b : Nat) (s : ByteArray) (w : World) (h : Bld B b s w) (hBw : B ≤ w.heap.size) :
    Calls Try.prog 91 #[.pointer (some ⟨b, 0, none⟩)] w fun e w' => e = .returned (.string s) ∧ Below B w w' ∧ Lib.OthersKept 5 (some b) w w' :=
  (Try.Builder_String_any_k B b s.data.toList w h hBw).mono fun _ _ ⟨he, _, hb, hk⟩ => ⟨he, hb, hk⟩
theorem Bld.block {B b : Nat} {s : ByteArray} {w : World} (h : Bld B b s w) : ∃ cs, w.heap[b]? = some (.cells cs 102 (0, 0)) := by
  rcases h with ⟨_, v, hb, _⟩ | ⟨_, v, hb, _⟩ <;> exact ⟨_, hb⟩
theorem grown_of_below {w w' : World} (h : Below w.heap.size w w') : w.grownBy w' none := ⟨h.os, h.tape, h.output, h.size, fun k hk _ => h.block k hk⟩
theorem Bld.below {B b : Nat} {s : ByteArray} {w w' : World} (h : Bld B b s w) (hb : Below w.heap.size w w') : Bld B b s w' := by
  have go : ∀ {p : Value}, Lib.BuilderAtF 102 5 B b p (Lib.strCells s) w → Lib.BuilderAtF 102 5 B b p (Lib.strCells s) w' := fun {p} hh => by
    have hlt := hh.lt
    obtain ⟨hB, v, hv, hown, hne⟩ := hh
    exact ⟨hB, v, (hb.block b hlt).trans hv, hown.kept (grown_of_below hb) (by cases hv : v.ownBlock <;> simp), hne⟩
  exact h.elim (fun x => .inl (go x)) (fun x => .inr (go x))
theorem Bld.lt {B b : Nat} {s : ByteArray} {w : World} (h : Bld B b s w) : b < w.heap.size := h.elim (fun x => x.lt) (fun x => x.lt)
theorem block_kept {w w' : World} {b k : Nat} {cs c : Array Value} {t : TypeId} {fz f : Nat × Nat} (hk : Lib.OthersKept 5 (some b) w w') (hb : w.heap[b]? = some (.cells c 102 f)) (h : w.heap[k]? = some (.cells cs t fz)) (ht : t ≠ 5 ∧ t ≠ 102) : w'.heap[k]? = some (.cells cs t fz) := by
  refine hk k _ h (fun hh => ?_) (fun c' fz' hh => ?_)
  · obtain rfl := Option.some.inj hh
    rw [h] at hb
    simp only [Option.some.injEq, Obj.cells.injEq] at hb
    exact ht.2 hb.2.1
  · simp only [Obj.cells.injEq] at hh
    exact ht.1 hh.2.1
theorem R_kept {α : Type} {d : YtbgjoiccehiglaaW.PrintWords.Kd α} {e : Nat} {w w' : World} {base b : Nat} {ok : Nat → Prop} {v : Value} {xs : List α} (h : d.R e w base ok v xs) (hk : Lib.OthersKept 5 (some b) w w') (hb : ∃ cs, w.heap[b]? = some (.cells cs 102 (0, 0)))
    (hE : ∀ q ∈ e :: d.E, q ≠ 5 ∧ q ≠ 102) : d.R e w' base ok v xs := by
  refine YtbgjoiccehiglaaW.PrintWords.Kd.R_mono (YtbgjoiccehiglaaW.PrintWords.Kd.R_move (YtbgjoiccehiglaaW.PrintWords.Kd.R_bound h) (w1 := w') ?_) (fun k hk => hk.1)
  rintro k ⟨_, _, _, q, hq, cells, hc⟩
  have hn := hE q hq
  rw [hc]
  refine hk k _ hc (fun hh => ?_) (fun c fz hh => ?_)
  · obtain ⟨cs, hb⟩ := hb
    obtain rfl := Option.some.inj hh
    rw [hc] at hb
    simp only [Option.some.injEq, Obj.cells.injEq] at hb
    exact hn.2 hb.2.1
  · simp only [Obj.cells.injEq] at hh
    exact hn.1 hh.2.1
theorem make_event {P : Program} {ops : Array Oper} {rest : List Oper} {o : Oper} {a : Act} {Q : Exit → Act → World → Prop} {W : World} (hgd : o.guard = none) {D : Tmp} (_hd : o.dst = some D) {cs : Array Value} {t : TypeId} (n c : Nat)
    (hrun : (execOp a.eval o).run P W = .ok (.value (.slice (some ⟨W.heap.size, 0, none⟩) n c)) (W.alloc (.cells cs t (0, 0))))
    (h : ∀ g, g = W.heap.size → ∀ w1, w1.heap[g]? = some (.cells cs t (0, 0)) → Below W.heap.size W w1 → wpList P ops Q rest (a.put o.dst (.slice (some ⟨g, 0, none⟩) n c)) w1) : wpList P ops Q (o :: rest) a W :=
  YtbgjoiccehiglaaW.PrintWords.Kd.event_run hgd hrun (h _ rfl _ (YtbgjoiccehiglaaW.PrintWords.blk_new W _) (YtbgjoiccehiglaaW.PrintWords.below_alloc (Below.refl _ _) _))
end Go.Proofs.Ytbgjoiccehiglaa.Build
end
section
namespace Go.Proofs.Ytbgjoiccehiglaa.Print
open Go.RowKit Go.Proofs.YtbgjoiccehiglaaW.PrintWords Go.Proofs.YtbgjoiccehiglaaW.PrintLast Go.Proofs.YtbgjoiccehiglaaW.PrintMore
attribute [local go_sem] max2_int min2_int max_two min_two max_three min_three max_four min_four
set_option linter.unusedVariables false
set_option linter.unusedSimpArgs false
def errW : Option Int → Value
  | none => .nilIface
  | some c => .iface 0 (.int .i64 c)
theorem errW_none : errW none = .nilIface := rfl
theorem errW_some (c : Int) : errW (some c) = .iface 0 (.int .i64 c) := rfl
theorem info5 : (Try.prog.info? 5).map (fun i => (i.zero, i.size, i.bytes)) = some (some (.int .u8 0), 1, 1) := by kernel_rfl
theorem info9 : (Try.prog.info? 9).map (fun i => (i.zero, i.size, i.bytes)) = some (some (.string ⟨#[]⟩), 1, 16) := by kernel_rfl
theorem info51 : (Try.prog.info? 51).map (fun i => (i.zero, i.size, i.bytes)) = some (some (.int .u64 0), 1, 8) := by kernel_rfl
theorem info53 : (Try.prog.info? 53).map (fun i => (i.zero, i.size, i.bytes)) = some (some (.agg #[(.int .u64 0), (.int .i64 0)]), 2, 16) := by kernel_rfl
theorem info98 : (Try.prog.info? 98).map (fun i => (i.zero, i.size, i.bytes)) = some (some (.agg #[(.int .u64 0), (.int .i64 0)]), 2, 16) := by kernel_rfl
structure S53 where
  f0 : Int
  f1 : Int
def z53 : S53 := ⟨(0 : Int), (0 : Int)⟩
def k53 : Kd S53 := Kd.iso (Kd.pair (Kd.int .u64) (Kd.int .i64)) (fun x : S53 => (x.f0, x.f1))
theorem k53_open {w : World} {x : S53} {cs : List Value} (h : k53.K w x cs) : cs = [.int .u64 x.f0, .int .i64 x.f1] := by
  obtain ⟨_, _, rfl, rfl, rfl⟩ := h
  exact rfl
theorem k53_mkM (w : World) (base : Nat) (ok : Nat → Prop) (x : S53)  : k53.M w base ok x [.int .u64 x.f0, .int .i64 x.f1] := ⟨[.int .u64 x.f0], [.int .i64 x.f1], rfl, rfl, rfl⟩
def rd_T53 (xs : List S53) (i : Int) : S53 := xs.getD i.toNat z53
theorem at_T53 {w : World} {A : Option Addr} {n : Nat} {xs : List S53} (h : Kd.C k53 w A n xs) (i : Int) (h0 : 0 ≤ i) (h1 : i < n) : ∃ ad , A = some ad ∧ w.cell? (ad.add (i.toNat * 2)) = some (.int .u64 (rd_T53 xs i).f0) ∧ w.cell? ⟨(ad.add (i.toNat * 2)).block, (ad.add (i.toNat * 2)).off + 1, none⟩ = some (.int .i64 (rd_T53 xs i).f1) := by
  obtain ⟨ad, c, e, _, hK, hc0⟩ := Kd.C_get h z53 i h0 h1
  have hc : ∀ j u, c[j]? = some u → w.cell? (ad.add (i.toNat * 2 + j)) = some u := hc0
  obtain rfl := k53_open hK
  exact ⟨ad, e, hc 0 _ rfl, by rw [← add_field _ _ 1 (by omega)]; exact hc 1 _ rfl⟩
structure S98 where
  f0 : Int
  f1 : Int
def z98 : S98 := ⟨(0 : Int), (0 : Int)⟩
def k98 : Kd S98 := Kd.iso (Kd.pair (Kd.int .u64) (Kd.int .i64)) (fun x : S98 => (x.f0, x.f1))
theorem k98_open {w : World} {x : S98} {cs : List Value} (h : k98.K w x cs) : cs = [.int .u64 x.f0, .int .i64 x.f1] := by
  obtain ⟨_, _, rfl, rfl, rfl⟩ := h
  exact rfl
theorem k98_openM {w : World} {base : Nat} {ok : Nat → Prop} {x : S98} {cs : List Value} (h : k98.M w base ok x cs) : cs = [.int .u64 x.f0, .int .i64 x.f1] := by
  obtain ⟨_, _, rfl, rfl, rfl⟩ := h
  exact rfl
theorem k98_mkM (w : World) (base : Nat) (ok : Nat → Prop) (x : S98)  : k98.M w base ok x [.int .u64 x.f0, .int .i64 x.f1] := ⟨[.int .u64 x.f0], [.int .i64 x.f1], rfl, rfl, rfl⟩
def rd_T98 (xs : List S98) (i : Int) : S98 := xs.getD i.toNat z98
theorem at_T98 {w : World} {A : Option Addr} {n : Nat} {xs : List S98} (h : Kd.C k98 w A n xs) (i : Int) (h0 : 0 ≤ i) (h1 : i < n) : ∃ ad , A = some ad ∧ w.cell? (ad.add (i.toNat * 2)) = some (.int .u64 (rd_T98 xs i).f0) ∧ w.cell? ⟨(ad.add (i.toNat * 2)).block, (ad.add (i.toNat * 2)).off + 1, none⟩ = some (.int .i64 (rd_T98 xs i).f1) := by
  obtain ⟨ad, c, e, _, hK, hc0⟩ := Kd.C_get h z98 i h0 h1
  have hc : ∀ j u, c[j]? = some u → w.cell? (ad.add (i.toNat * 2 + j)) = some u := hc0
  obtain rfl := k98_open hK
  exact ⟨ad, e, hc 0 _ rfl, by rw [← add_field _ _ 1 (by omega)]; exact hc 1 _ rfl⟩
end Go.Proofs.Ytbgjoiccehiglaa.Print
end
section
namespace Go.Proofs.Ytbgjoiccehiglaa.LibU
open Go.RowKit Go.Proofs.Ytbgjoiccehiglaa.Print Go.Proofs.YtbgjoiccehiglaaW.PrintWords Go.Proofs.YtbgjoiccehiglaaW.PrintLast Go.Proofs.YtbgjoiccehiglaaW.PrintMore
def addR (acc : List S53) (x : Int) : List S53 :=
  match acc.getLast? with
  | some r => if r.f0 = x then acc.dropLast ++ [(⟨r.f0, r.f1 + 1⟩ : S53)] else acc ++ [(⟨x, 1⟩ : S53)]
  | none => [(⟨x, 1⟩ : S53)]
theorem addR_snoc (a : List S53) (r : S53) (x : Int) : addR (a ++ [r]) x = if r.f0 = x then a ++ [(⟨r.f0, r.f1 + 1⟩ : S53)] else a ++ [r] ++ [(⟨x, 1⟩ : S53)] := by
  unfold addR
  simp
def runs (l : List Int) : List S53 := l.foldl addR []
theorem runs_snoc (l : List Int) (x : Int) : runs (l ++ [x]) = addR (runs l) x := by simp [runs]
def spread (rs : List S53) : List Int := rs.flatMap fun r => List.replicate r.f1.toNat r.f0
theorem spread_snoc (a : List S53) (r : S53) : spread (a ++ [r]) = spread a ++ List.replicate r.f1.toNat r.f0 := by simp [spread]
inductive MayR : List S53 → Prop
  | nil : MayR []
  | one (r : S53) (h : 1 ≤ r.f1) : MayR [r]
  | snoc (a : List S53) (q r : S53) (h : MayR (a ++ [q])) (h1 : 1 ≤ r.f1) (hne : q.f0 ≠ r.f0) : MayR (a ++ [q] ++ [r])
theorem snoc_cases {α : Type} (l : List α) : l = [] ∨ ∃ a x, l = a ++ [x] := by
  rcases List.eq_nil_or_concat l with h | ⟨a, x, h⟩
  · exact .inl h
  · exact .inr ⟨a, x, by simpa using h⟩
theorem snoc_inj {α : Type} {a b : List α} {x y : α} (h : a ++ [x] = b ++ [y]) : a = b ∧ x = y := by
  have := List.append_inj' h rfl
  simpa using this
theorem MayR.last {a : List S53} {r : S53} (h : MayR (a ++ [r])) : 1 ≤ r.f1 := by
  generalize hl : a ++ [r] = l at h
  cases h with
  | nil => simp at hl
  | one q hq => obtain ⟨_, rfl⟩ := snoc_inj (b := []) hl; exact hq
  | snoc b q s h h1 hne => obtain ⟨_, rfl⟩ := snoc_inj hl; exact h1
theorem MayR.init {a : List S53} {r : S53} (h : MayR (a ++ [r])) : MayR a := by
  generalize hl : a ++ [r] = l at h
  cases h with
  | nil => simp at hl
  | one q hq => obtain ⟨rfl, _⟩ := snoc_inj (b := []) hl; exact .nil
  | snoc b q s h h1 hne => obtain ⟨rfl, _⟩ := snoc_inj hl; exact h
theorem MayR.ne {a : List S53} {q r : S53} (h : MayR (a ++ [q] ++ [r])) : q.f0 ≠ r.f0 := by
  generalize hl : a ++ [q] ++ [r] = l at h
  cases h with
  | nil => simp at hl
  | one s hs => have := congrArg List.length hl; simp at this
  | snoc b q' s h h1 hne =>
    obtain ⟨e1, rfl⟩ := snoc_inj hl
    obtain ⟨_, rfl⟩ := snoc_inj e1
    exact hne
theorem MayR.grow {a : List S53} {r : S53} (h : MayR (a ++ [r])) (n : Int) (hn : 1 ≤ n) : MayR (a ++ [(⟨r.f0, n⟩ : S53)]) := by
  rcases snoc_cases a with rfl | ⟨b, q, rfl⟩
  · exact .one _ hn
  · exact .snoc _ _ _ h.init hn h.ne
theorem MayR.add {acc : List S53} (h : MayR acc) (x : Int) : MayR (addR acc x) := by
  rcases snoc_cases acc with rfl | ⟨a, r, rfl⟩
  · exact .one _ (Int.le_refl 1)
  · rw [addR_snoc]
    split
    · exact h.grow _ (by have := h.last; omega)
    · exact .snoc _ _ _ h (Int.le_refl 1) (by assumption)
theorem may_foldl (l : List Int) : ∀ acc, MayR acc → MayR (l.foldl addR acc) := by
  induction l with
  | nil => intro acc h; exact h
  | cons x xs ih => intro acc h; exact ih _ (h.add x)
theorem may_runs (l : List Int) : MayR (runs l) := may_foldl l [] .nil
theorem spread_add {acc : List S53} (h : MayR acc) (x : Int) : spread (addR acc x) = spread acc ++ [x] := by
  rcases snoc_cases acc with rfl | ⟨a, r, rfl⟩
  · rfl
  · rw [addR_snoc]
    split
    · rename_i he
      have := h.last
      rw [spread_snoc, spread_snoc, show (r.f1 + 1).toNat = r.f1.toNat + 1 by omega, List.replicate_succ', ← List.append_assoc, he]
    · rw [spread_snoc]; rfl
theorem spread_foldl (l : List Int) : ∀ acc, MayR acc → spread (l.foldl addR acc) = spread acc ++ l := by
  induction l with
  | nil => intro acc h; simp
  | cons x xs ih => intro acc h; rw [List.foldl_cons, ih _ (h.add x), spread_add h, List.append_assoc]; rfl
theorem spread_runs (l : List Int) : spread (runs l) = l := by unfold runs; rw [spread_foldl l [] .nil]; rfl
theorem runs_rep (a : List S53) (x : Int) (h : a = [] ∨ ∃ b q, a = b ++ [q] ∧ q.f0 ≠ x) : ∀ n : Nat, (List.replicate (n + 1) x).foldl addR a = a ++ [(⟨x, (n : Int) + 1⟩ : S53)]
  | 0 => by
    rcases h with rfl | ⟨b, q, rfl, hq⟩
    · rfl
    · show addR (b ++ [q]) x = _
      rw [addR_snoc, if_neg hq]; rfl
  | n + 1 => by
    rw [List.replicate_succ', List.foldl_append, runs_rep a x h n]
    show addR _ x = _
    rw [addR_snoc, if_pos rfl]
    simp
theorem runs_spread {rs : List S53} (h : MayR rs) : runs (spread rs) = rs := by
  induction h with
  | nil => rfl
  | one r h =>
    have := runs_rep [] r.f0 (.inl rfl) (r.f1.toNat - 1)
    rw [show r.f1.toNat - 1 + 1 = r.f1.toNat by omega, show (((r.f1.toNat - 1 : Nat) : Int) + 1) = r.f1 by omega] at this
    simpa [runs, spread] using this
  | snoc a q r h h1 hne ih =>
    have := runs_rep (a ++ [q]) r.f0 (.inr ⟨a, q, rfl, hne⟩) (r.f1.toNat - 1)
    rw [show r.f1.toNat - 1 + 1 = r.f1.toNat by omega, show (((r.f1.toNat - 1 : Nat) : Int) + 1) = r.f1 by omega] at this
    rw [spread_snoc]
    unfold runs at ih ⊢
    rw [List.foldl_append, ih, this]
theorem len_spread {rs : List S53} (h : MayR rs) : rs.length ≤ (spread rs).length := by
  induction h with
  | nil => simp
  | one r h => simp [spread]; omega
  | snoc a q r h h1 hne ih => rw [spread_snoc, List.length_append, List.length_append (bs := List.replicate _ _), List.length_replicate]; simp only [List.length_cons, List.length_nil]; omega
end Go.Proofs.Ytbgjoiccehiglaa.LibU
end
section
namespace Go.Proofs.Ytbgjoiccehiglaa.Print
open Go.RowKit Go.Proofs.YtbgjoiccehiglaaW.PrintWords Go.Proofs.YtbgjoiccehiglaaW.PrintLast Go.Proofs.YtbgjoiccehiglaaW.PrintMore
attribute [local go_sem] max2_int min2_int max_two min_two max_three min_three max_four min_four
set_option linter.unusedVariables false
set_option linter.unusedSimpArgs false
theorem eqA53 (d : Nat) (w : World) (x0 y0 : Int) (x1 y1 : Int) :
    (Op.equalIn (d + 2) 53 (.agg #[.int .u64 x0, .int .i64 x1]) (.agg #[.int .u64 y0, .int .i64 y1])).run Try.prog w = .ok (x0 == y0 && (x1 == y1)) w := by
  refine eqA_of Try.underlying53 (by kernel_rfl) ?_
  refine eqf_cons (by rfl) (by go_simp; rfl) (by go_simp; rfl) (by go_simp) ?_
  exact eqf_last (by rfl) (by go_simp; rfl) (by go_simp; rfl) (by go_simp)
end Go.Proofs.Ytbgjoiccehiglaa.Print
end
section
namespace Go.Proofs.Ytbgjoiccehiglaa.Print
open Go.RowKit Go.Proofs.YtbgjoiccehiglaaW.PrintWords Go.Proofs.YtbgjoiccehiglaaW.PrintLast Go.Proofs.YtbgjoiccehiglaaW.PrintMore
attribute [local go_sem] max2_int min2_int max_two min_two max_three min_three max_four min_four
set_option linter.unusedVariables false
set_option linter.unusedSimpArgs false
def word_head.f (a0 : Int) : Option (Int × Int × Int × Bool) := if a0 < 128 then (some (0, 128, 191, true)) else (if a0 < 194 then (some (0, 128, 191, false)) else (if a0 < 224 then (some (1, 128, 191, true)) else (if a0 < 240 then (if a0 = 224 then (some (2, 160, 191, true)) else (if a0 = 237 then (some (2, 128, 159, true)) else (some (2, 128, 191, true)))) else (if a0 < 245 then (if a0 = 240 then (some (3, 144, 191, true)) else (if a0 = 244 then (some (3, 128, 143, true)) else (some (3, 128, 191, true)))) else (some (0, 128, 191, false))))))
set_option maxHeartbeats 8000000 in
set_option maxRecDepth 100000 in
theorem word_head.calls (a0 : Int) (r1 : Int) (r2 : Int) (r3 : Int) (r4 : Bool) (w : World) (h : word_head.f a0 = some (r1, r2, r3, r4)) :
    Calls Try.prog 96 #[.int .u8 a0] w fun e w' => e = .returned (.tuple #[.int .i64 r1, .int .u8 r2, .int .u8 r3, .bool r4]) ∧ Drawn0 w w' := by
  have H : (if a0 < 128 then (some (0, 128, 191, true)) else (if a0 < 194 then (some (0, 128, 191, false)) else (if a0 < 224 then (some (1, 128, 191, true)) else (if a0 < 240 then (if a0 = 224 then (some (2, 160, 191, true)) else (if a0 = 237 then (some (2, 128, 159, true)) else (some (2, 128, 191, true)))) else (if a0 < 245 then (if a0 = 240 then (some (3, 144, 191, true)) else (if a0 = 244 then (some (3, 128, 143, true)) else (some (3, 128, 191, true)))) else (some (0, 128, 191, false))))))) = some (r1, r2, r3, r4) := h
  clear h
  by_cases c2 : a0 < 128
  · rw [if_pos c2] at H
    have c2b0 : decide (a0 < 128) = true := decide_eq_true c2
    clear c2
    simp only [Option.some.injEq, Prod.mk.injEq] at H
    obtain ⟨rfl, rfl, rfl, rfl⟩ := H
    go_enter Try.func96, Try.ntmps96
    go_wp2
    refine bodyPost_ret (results_list (rs := [.tmp 2, .tmp 3, .tmp 4, .tmp 5]) rfl (by simp) (.tmp (.tmp (.tmp (.tmp .nil))))) rfl ?_
    exact ⟨by first | rfl | (simp; done) | (simp [*]; done), by repeat (first | exact Drawn0.refl _ | apply Drawn0.step)⟩
  · rw [if_neg c2] at H
    have c2b0 : decide (a0 < 128) = false := decide_eq_false c2
    clear c2
    by_cases c3 : a0 < 194
    · rw [if_pos c3] at H
      have c3b0 : decide (a0 < 194) = true := decide_eq_true c3
      clear c3
      simp only [Option.some.injEq, Prod.mk.injEq] at H
      obtain ⟨rfl, rfl, rfl, rfl⟩ := H
      go_enter Try.func96, Try.ntmps96
      go_wp2
      refine bodyPost_ret (results_list (rs := [.tmp 2, .tmp 3, .tmp 4, .tmp 5]) rfl (by simp) (.tmp (.tmp (.tmp (.tmp .nil))))) rfl ?_
      exact ⟨by first | rfl | (simp; done) | (simp [*]; done), by repeat (first | exact Drawn0.refl _ | apply Drawn0.step)⟩
    · rw [if_neg c3] at H
      have c3b0 : decide (a0 < 194) = false := decide_eq_false c3
      clear c3
      by_cases c4 : a0 < 224
      · rw [if_pos c4] at H
        have c4b0 : decide (a0 < 224) = true := decide_eq_true c4
        clear c4
        simp only [Option.some.injEq, Prod.mk.injEq] at H
        obtain ⟨rfl, rfl, rfl, rfl⟩ := H
        go_enter Try.func96, Try.ntmps96
        go_wp2
        refine bodyPost_ret (results_list (rs := [.tmp 2, .tmp 3, .tmp 4, .tmp 5]) rfl (by simp) (.tmp (.tmp (.tmp (.tmp .nil))))) rfl ?_
        exact ⟨by first | rfl | (simp; done) | (simp [*]; done), by repeat (first | exact Drawn0.refl _ | apply Drawn0.step)⟩
      · rw [if_neg c4] at H
        have c4b0 : decide (a0 < 224) = false := decide_eq_false c4
        clear c4
        by_cases c5 : a0 < 240
        · rw [if_pos c5] at H
          have c5b0 : decide (a0 < 240) = true := decide_eq_true c5
          clear c5
          by_cases c6 : a0 = 224
          · rw [if_pos c6] at H
            have c6b0 : (a0 == 224) = true := beq_iff_eq.mpr c6
            have c6b1 : (a0 != 224) = false := bne_eq_false_iff_eq.mpr c6
            clear c6
            simp only [Option.some.injEq, Prod.mk.injEq] at H
            obtain ⟨rfl, rfl, rfl, rfl⟩ := H
            go_enter Try.func96, Try.ntmps96
            go_wp2
            refine bodyPost_ret (results_list (rs := [.tmp 2, .tmp 3, .tmp 4, .tmp 5]) rfl (by simp) (.tmp (.tmp (.tmp (.tmp .nil))))) rfl ?_
            exact ⟨by first | rfl | (simp; done) | (simp [*]; done), by repeat (first | exact Drawn0.refl _ | apply Drawn0.step)⟩
          · rw [if_neg c6] at H
            have c6b0 : (a0 == 224) = false := beq_eq_false_iff_ne.mpr c6
            have c6b1 : (a0 != 224) = true := bne_iff_ne.mpr c6
            by_cases c7 : a0 = 237
            · rw [if_pos c7] at H
              have c7b0 : (a0 == 237) = true := beq_iff_eq.mpr c7
              have c7b1 : (a0 != 237) = false := bne_eq_false_iff_eq.mpr c7
              clear c7
              simp only [Option.some.injEq, Prod.mk.injEq] at H
              obtain ⟨rfl, rfl, rfl, rfl⟩ := H
              go_enter Try.func96, Try.ntmps96
              go_wp2
              refine bodyPost_ret (results_list (rs := [.tmp 2, .tmp 3, .tmp 4, .tmp 5]) rfl (by simp) (.tmp (.tmp (.tmp (.tmp .nil))))) rfl ?_
              exact ⟨by first | rfl | (simp; done) | (simp [*]; done), by repeat (first | exact Drawn0.refl _ | apply Drawn0.step)⟩
            · rw [if_neg c7] at H
              have c7b0 : (a0 == 237) = false := beq_eq_false_iff_ne.mpr c7
              have c7b1 : (a0 != 237) = true := bne_iff_ne.mpr c7
              simp only [Option.some.injEq, Prod.mk.injEq] at H
              obtain ⟨rfl, rfl, rfl, rfl⟩ := H
              go_enter Try.func96, Try.ntmps96
              go_wp2
              refine bodyPost_ret (results_list (rs := [.tmp 2, .tmp 3, .tmp 4, .tmp 5]) rfl (by simp) (.tmp (.tmp (.tmp (.tmp .nil))))) rfl ?_
              exact ⟨by first | rfl | (simp; done) | (simp [*]; done), by repeat (first | exact Drawn0.refl _ | apply Drawn0.step)⟩
        · rw [if_neg c5] at H
          have c5b0 : decide (a0 < 240) = false := decide_eq_false c5
          clear c5
          by_cases c8 : a0 < 245
          · rw [if_pos c8] at H
            have c8b0 : decide (a0 < 245) = true := decide_eq_true c8
            clear c8
            by_cases c9 : a0 = 240
            · rw [if_pos c9] at H
              have c9b0 : (a0 == 240) = true := beq_iff_eq.mpr c9
              have c9b1 : (a0 != 240) = false := bne_eq_false_iff_eq.mpr c9
              clear c9
              simp only [Option.some.injEq, Prod.mk.injEq] at H
              obtain ⟨rfl, rfl, rfl, rfl⟩ := H
              go_enter Try.func96, Try.ntmps96
              go_wp2
              refine bodyPost_ret (results_list (rs := [.tmp 2, .tmp 3, .tmp 4, .tmp 5]) rfl (by simp) (.tmp (.tmp (.tmp (.tmp .nil))))) rfl ?_
              exact ⟨by first | rfl | (simp; done) | (simp [*]; done), by repeat (first | exact Drawn0.refl _ | apply Drawn0.step)⟩
            · rw [if_neg c9] at H
              have c9b0 : (a0 == 240) = false := beq_eq_false_iff_ne.mpr c9
              have c9b1 : (a0 != 240) = true := bne_iff_ne.mpr c9
              by_cases c10 : a0 = 244
              · rw [if_pos c10] at H
                have c10b0 : (a0 == 244) = true := beq_iff_eq.mpr c10
                have c10b1 : (a0 != 244) = false := bne_eq_false_iff_eq.mpr c10
                clear c10
                simp only [Option.some.injEq, Prod.mk.injEq] at H
                obtain ⟨rfl, rfl, rfl, rfl⟩ := H
                go_enter Try.func96, Try.ntmps96
                go_wp2
                refine bodyPost_ret (results_list (rs := [.tmp 2, .tmp 3, .tmp 4, .tmp 5]) rfl (by simp) (.tmp (.tmp (.tmp (.tmp .nil))))) rfl ?_
                exact ⟨by first | rfl | (simp; done) | (simp [*]; done), by repeat (first | exact Drawn0.refl _ | apply Drawn0.step)⟩
              · rw [if_neg c10] at H
                have c10b0 : (a0 == 244) = false := beq_eq_false_iff_ne.mpr c10
                have c10b1 : (a0 != 244) = true := bne_iff_ne.mpr c10
                simp only [Option.some.injEq, Prod.mk.injEq] at H
                obtain ⟨rfl, rfl, rfl, rfl⟩ := H
                go_enter Try.func96, Try.ntmps96
                go_wp2
                refine bodyPost_ret (results_list (rs := [.tmp 2, .tmp 3, .tmp 4, .tmp 5]) rfl (by simp) (.tmp (.tmp (.tmp (.tmp .nil))))) rfl ?_
                exact ⟨by first | rfl | (simp; done) | (simp [*]; done), by repeat (first | exact Drawn0.refl _ | apply Drawn0.step)⟩
          · rw [if_neg c8] at H
            have c8b0 : decide (a0 < 245) = false := decide_eq_false c8
            clear c8
            simp only [Option.some.injEq, Prod.mk.injEq] at H
            obtain ⟨rfl, rfl, rfl, rfl⟩ := H
            go_enter Try.func96, Try.ntmps96
            go_wp2
            refine bodyPost_ret (results_list (rs := [.tmp 2, .tmp 3, .tmp 4, .tmp 5]) rfl (by simp) (.tmp (.tmp (.tmp (.tmp .nil))))) rfl ?_
            exact ⟨by first | rfl | (simp; done) | (simp [*]; done), by repeat (first | exact Drawn0.refl _ | apply Drawn0.step)⟩
def sgR (s : ByteArray) : Nat → Int → Int → Int → Bool
  | 0, _, _, _ => true
  | m + 1, i, lo, hi => if bt s i < lo then false else if bt s i > hi then false else sgR s m (i + 1) 128 191
def sgH (c : Int) : Int × Int × Int × Bool := if c < 128 then (0, 128, 191, true) else (if c < 194 then (0, 128, 191, false) else (if c < 224 then (1, 128, 191, true) else (if c < 240 then (if c = 224 then (2, 160, 191, true) else (if c = 237 then (2, 128, 159, true) else (2, 128, 191, true))) else (if c < 245 then (if c = 240 then (3, 144, 191, true) else (if c = 244 then (3, 128, 143, true) else (3, 128, 191, true))) else (0, 128, 191, false)))))
theorem sgH_f (c : Int) : word_head.f c = some (sgH c) := by
  unfold word_head.f sgH
  repeat' split
  all_goals rfl
theorem sgH_rest (c : Int) : 0 ≤ (sgH c).1 ∧ (sgH c).1 ≤ 3 := by
  unfold sgH
  repeat' split
  all_goals simp
def sgStep (s : ByteArray) (i : Int) : Option Int :=
  if (sgH (bt s i)).2.2.2 = false then none else if (s.size : Int) - i ≤ (sgH (bt s i)).1 then none
  else if sgR s (sgH (bt s i)).1.toNat (i + 1) (sgH (bt s i)).2.1 (sgH (bt s i)).2.2.1 = true then some (1 + (sgH (bt s i)).1) else none
theorem bt_extract (s : ByteArray) (a b j : Nat) (hb : b ≤ s.size) (hj : a + j < b) : (((s.extract a b).data.toList.getD j 0).toNat : Int) = bt s ((a + j : Nat) : Int) := by
  unfold bt
  rw [dif_pos (by rw [Int.toNat_natCast]; omega)]
  have h1 : j < (s.extract a b).data.toList.length := by rw [data_length, ByteArray.size_extract]; omega
  rw [List.getD_eq_getElem?_getD, List.getElem?_eq_getElem h1]
  simp [ByteArray.data_extract, Array.getElem_extract]
  rfl
def sgL (s : ByteArray) : Nat → Int → Int → Int × Int
  | 0, n, i => (n, i)
  | k + 1, n, i => if i < s.size then match sgStep s i with | some m => sgL s k (n + 1) (i + m) | none => (n, i) else (n, i)
def word_signs.f (a0 : ByteArray) : Option (Int × Int) := if a0.size ≤ 9223372036854775000 then some (sgL a0 (a0.size + 1) 0 0) else none
set_option maxHeartbeats 400000 in
set_option maxRecDepth 100000 in
theorem word_signs.calls (a0 : ByteArray) (r1 r2 : Int) (w : World) (h : word_signs.f a0 = some (r1, r2)) :
    Calls Try.prog 76 #[.string a0] w fun e w' => e = .returned (.tuple #[.int .i64 r1, .int .i64 r2]) ∧ Below w.heap.size w w' := by
  obtain ⟨hsz, h⟩ : a0.size ≤ 9223372036854775000 ∧ sgL a0 (a0.size + 1) 0 0 = (r1, r2) := by
    unfold word_signs.f at h
    split at h
    · exact ⟨‹_›, Option.some.inj h⟩
    · cases h
  have HR := Aside0.mk h
  clear h
  have kb := fun s (W : World) => print_bytes (P := Try.prog) 9 100 5 Try.underlying9 Try.underlying100 Try.underlying5 s W
  go_enter Try.func76, Try.ntmps76
  go_wp2
  go_step3
  go_wp2
  go_step3
  go_wp2
  go_loopg [4, 5] (a0.size + 1) (fun gk v4 v5 w' => ∃ n i : Int, v4 = .int .i64 n ∧ v5 = .int .i64 i ∧ 0 ≤ n ∧ n ≤ i ∧ i ≤ a0.size ∧ a0.size - i < gk ∧ Aside0 (sgL a0 gk n i = (r1, r2)) ∧ Aside0 (Below w.heap.size w w'))
  case atStart => exact ⟨0, 0, rfl, rfl, by omega, by omega, by omega, by omega, HR, ⟨Below.refl _ _⟩⟩
  case round =>
    clear HR
    obtain ⟨n, i, rfl, rfl, hn, hni, hi, hk, HA, HB⟩ := hrel
    cases gk with
    | zero => omega
    | succ k1 =>
    by_cases hlt : i < a0.size
    · have hlt' : decide (i < (a0.size : Int)) = true := decide_eq_true hlt
      have p7 := eq_true (show 0 ≤ i by omega)
      have q7 := eq_true hlt
      have hx := bt_at a0 i
      obtain ⟨⟨rest, lo, hi_, is⟩, hh⟩ : ∃ p, sgH (bt a0 i) = p := ⟨_, rfl⟩
      have hrest := sgH_rest (bt a0 i)
      rw [hh] at hrest
      have hhf := sgH_f (bt a0 i)
      rw [hh] at hhf
      have HF := Aside0.mk hhf
      have HH := Aside0.mk hh
      clear hhf hh
      simp only at hrest
      cases is with
      | false =>
        have HE : Aside0 (r1 = n ∧ r2 = i) := by
          have := HA.out
          simp only [sgL, if_pos hlt, sgStep, HH.out, if_true] at this
          simp at this
          exact ⟨⟨this.1.symm, this.2.symm⟩⟩
        clear HA
        go_wp2_with (go_at_call 96; refine (word_head.calls _ rest lo hi_ false _ HF.out).mono ?_; rintro e w' ⟨rfl, ⟨nd, rfl⟩⟩)
        rw [Exit.noGoto_ret]
        go_ret2
        obtain ⟨rfl, rfl⟩ := HE.out
        exact ⟨rfl, pw_below_drewN HB.out _⟩
      | true =>
        by_cases hle : (a0.size : Int) - i ≤ rest
        · have HE : Aside0 (r1 = n ∧ r2 = i) := by
            have := HA.out
            simp only [sgL, if_pos hlt, sgStep, HH.out, if_pos hle] at this
            simp at this
            exact ⟨⟨this.1.symm, this.2.symm⟩⟩
          clear HA
          have hle' := decide_eq_true hle
          go_wp2_with (go_at_call 96; refine (word_head.calls _ rest lo hi_ true _ HF.out).mono ?_; rintro e w' ⟨rfl, ⟨nd, rfl⟩⟩)
          rw [Exit.noGoto_ret]
          go_ret2
          obtain ⟨rfl, rfl⟩ := HE.out
          exact ⟨rfl, pw_below_drewN HB.out _⟩
        · have hle' := decide_eq_false hle
          have HLE := Aside0.mk hle
          obtain ⟨rst, rfl⟩ : ∃ m : Nat, rest = m := ⟨rest.toNat, by omega⟩
          have s1 := eq_true (show 0 ≤ i + 1 by omega)
          have s2 := eq_true (show i + 1 ≤ i + 1 + (rst : Int) by omega)
          have s3 := eq_true (show i + 1 + (rst : Int) ≤ a0.size by omega)
          have hsl : (a0.extract (i + 1).toNat (i + 1 + rst).toNat).size = rst := by
            rw [ByteArray.size_extract]; omega
          go_wp2_with (go_at_call 96; refine (word_head.calls _ rst lo hi_ true _ HF.out).mono ?_; rintro e w' ⟨rfl, ⟨nd, rfl⟩⟩)
          have hcell : ∀ j : Nat, j < rst → (Lib.bytesWorld (wr.drewN nd) 5 (a0.extract (i + 1).toNat (i + 1 + ↑rst).toNat)).cell? ⟨wr.heap.size, j, none⟩ = some (.int .u8 (bt a0 (i + 1 + j))) := by
            intro j hj
            have := Lib.bytesWorld_cell (wr.drewN nd) 5 (a0.extract (i + 1).toNat (i + 1 + ↑rst).toNat) j (by omega)
            rw [bt_extract _ _ _ _ (by omega) (by omega), show (((i + 1).toNat + j : Nat) : Int) = i + 1 + j by omega] at this
            exact this
          have HBW : Aside0 (Below w.heap.size w (Lib.bytesWorld (wr.drewN nd) 5 (a0.extract (i + 1).toNat (i + 1 + ↑rst).toNat))) := ⟨bytes_below (pw_below_drewN HB.out _) (pw_below_drewN HB.out nd).size _ _⟩
          generalize Lib.bytesWorld (wr.drewN nd) 5 (a0.extract (i + 1).toNat (i + 1 + ↑rst).toNat) = WB at *
          have HC := Aside0.mk hcell
          clear hcell hsl hlt' hle' p7 q7 hx kb s1 s2 s3
          go_loopg [7, 8, 45] rst (fun g2 v7 v8 v45 wx => ∃ (j : Nat) (l h : Int), v7 = .int .u8 l ∧ v8 = .int .u8 h ∧ v45 = .int .i64 j ∧ j + g2 = rst ∧ Aside0 (sgR a0 g2 (i + 1 + j) l h = sgR a0 rst (i + 1) lo hi_) ∧ wx = WB)
          case atStart => exact ⟨0, lo, hi_, rfl, rfl, rfl, by omega, ⟨by simp⟩, rfl⟩
          case round =>
            obtain ⟨j, l, h, rfl, rfl, rfl, hj, HR, rfl⟩ := hrel
            cases gk with
            | zero =>
              have hj' : decide ((j : Int) < (rst : Int)) = false := decide_eq_false (by omega)
              have HE : Aside0 (sgL a0 k1 (n + 1) (i + (1 + (rst : Int))) = (r1, r2)) := by
                have := HA.out
                simp only [sgL, if_pos hlt, sgStep, HH.out, if_neg (show ¬ (a0.size : Int) - i ≤ (rst : Int) by have := HLE.out; omega)] at this
                have hR := HR.out
                simp only [sgR] at hR
                simp [← hR] at this
                exact ⟨this⟩
              clear HA HC HH HF HR
              go_wp2
              go_roundg k1
              case measure => omega
              case rel => exact ⟨n + 1, i + (1 + (rst : Int)), by first | rfl | simp, by first | rfl | simp, by omega, by omega, by omega, by omega, HE, HBW⟩
            | succ g2 =>
              have hc := HC.out j (by omega)
              have hj' : decide ((j : Int) < (rst : Int)) = true := decide_eq_true (by omega)
              have hb := bt_range a0 (i + 1 + j)
              obtain ⟨b, hbb⟩ : ∃ b, bt a0 (i + 1 + j) = b := ⟨_, rfl⟩
              rw [hbb] at hc hb
              have HBB := Aside0.mk hbb
              clear hbb
              have hHE : (b < l ∨ h < b) → Aside0 (r1 = n ∧ r2 = i) := by
                intro hor
                have := HA.out
                simp only [sgL, if_pos hlt, sgStep, HH.out, if_neg (show ¬ (a0.size : Int) - i ≤ (rst : Int) by have := HLE.out; omega)] at this
                have hR := HR.out
                simp only [sgR, HBB.out] at hR
                have hF : sgR a0 rst (i + 1) lo hi_ = false := by
                  rw [← hR]
                  rcases hor with h1 | h1
                  · rw [if_pos h1]
                  · split
                    · rfl
                    · rfl
                simp [hF] at this
                exact ⟨⟨this.1.symm, this.2.symm⟩⟩
              by_cases hl1 : b < l
              · have HE := hHE (.inl hl1)
                have hl1' := decide_eq_true hl1
                clear hHE HA HC HH HF HR
                go_wp2
                (try rw [Exit.noGoto_ret])
                go_ret2
                obtain ⟨rfl, rfl⟩ := HE.out
                exact ⟨rfl, HBW.out⟩
              · by_cases hl2 : h < b
                · have HE := hHE (.inr hl2)
                  have hl1' := decide_eq_false hl1
                  have hl2' := decide_eq_true hl2
                  clear hHE HA HC HH HF HR
                  go_wp2
                  (try rw [Exit.noGoto_ret])
                  go_ret2
                  obtain ⟨rfl, rfl⟩ := HE.out
                  exact ⟨rfl, HBW.out⟩
                · have HN : Aside0 (sgR a0 g2 (i + 1 + ((j + 1 : Nat) : Int)) 128 191 = sgR a0 rst (i + 1) lo hi_) := by
                    have hR := HR.out
                    simp only [sgR, HBB.out, if_neg hl1, if_neg hl2] at hR
                    rw [← hR]
                    exact ⟨by rw [show i + 1 + ((j + 1 : Nat) : Int) = i + 1 + j + 1 by omega]⟩
                  have hl1' := decide_eq_false hl1
                  have hl2' := decide_eq_false hl2
                  clear hHE HA HC HH HF HR
                  go_wp2
                  go_roundg g2
                  case measure => omega
                  case rel => exact ⟨j + 1, 128, 191, rfl, rfl, by go_num, by omega, HN, rfl⟩
    · have HE : Aside0 (r1 = n ∧ r2 = i) := by
        have := HA.out
        simp only [sgL, if_neg hlt] at this
        simp at this
        exact ⟨⟨this.1.symm, this.2.symm⟩⟩
      have hlt' := decide_eq_false hlt
      clear HA
      go_wp2
      go_ret2
      obtain ⟨rfl, rfl⟩ := HE.out
      exact ⟨rfl, HB.out⟩
def word_First.f (a0 : ByteArray) : Option (Int × Bool) := (word_signs.f a0).bind fun bt101 => (if bt101.2 < (a0.size : Int) then (some (bt101.2, true)) else (some (0, false)))
def word_Valid.f (a0 : ByteArray) : Option (Bool) := (word_signs.f a0).bind fun bt105 => (some (bt105.2 == (a0.size : Int)))
set_option maxHeartbeats 8000000 in
set_option maxRecDepth 100000 in
theorem word_Valid.calls (a0 : ByteArray) (r : Bool) (w : World) (h : word_Valid.f a0 = some r) :
    Calls Try.prog 29 #[.string a0] w fun e w' => e = .returned (.bool r) ∧ Below w.heap.size w w' := by
  have HB := Aside0.mk (Below.refl w.heap.size w)
  have H : ((word_signs.f a0).bind fun bt105 => (some (bt105.2 == (a0.size : Int)))) = some r := h
  clear h
  replace H := Option.bind_eq_some_iff.mp H
  obtain ⟨⟨t105, t106⟩, A20, H⟩ := H
  replace H : (some (t106 == (a0.size : Int))) = some r := H
  have A2 := Aside0.mk A20
  clear A20
  obtain rfl := Option.some.inj H
  go_enter Try.func29, Try.ntmps29
  go_wp2_with (first | ((with_reducible refine gate_callee (f := 76) rfl ?_); refine goesL_ (some 7) rfl rfl Try.func76 (by kernel_rfl) rfl #[.string a0] rfl (by (try simp only [List.map_toArray, List.map_cons, List.map_nil]); first | done | rfl | (simp only [List.length_drop, List.length_take]; rfl)) ?_; (with_reducible refine (word_signs.calls a0 t105 t106 _ A2.out).mono ?_); rintro e w3 ⟨rfl, hb⟩; refine ⟨_, rfl, ?_⟩; have n0_ := Aside0.mk (below_step (by repeat (first | (with_reducible first | exact HB.out | apply below_alloc | apply pw_below_drewN | apply below_drew1) | exact HB.out)) hb); clear HB; have HB := n0_; clear n0_; (try clear hb); (try clear hb2); (try clear hk); (try clear hi)))
  go_ret
  exact ⟨by first | rfl | (simp [errW_none, errW_some] <;> rfl) | (simp [*, errW_none, errW_some] <;> rfl), by repeat (first | (with_reducible first | exact HB.out | apply below_alloc | apply pw_below_drewN | apply below_drew1) | exact HB.out)⟩
def pack_Put.l0 : Nat → Int → List Int → Option (ByteArray)
  | 0, _, _ => none
  | k + 1, x0, x3 => if x0 ≥ 128 then (if x3.length < 140737488355328 then (pack_Put.l0 k (x0 / 128) (x3 ++ [Go.bits .or .u8 ((x0) % 256) 128])) else (none)) else (if x3.length < 140737488355328 then (some (strOfNums (x3 ++ [(x0) % 256]))) else (none))
def pack_Put.f (k : Nat) (a0 : Int) : Option (ByteArray) := pack_Put.l0 k a0 ([] : List Int)
theorem pack_Put.mono_l : ∀ k, (∀ y0 y1, LeO (pack_Put.l0 k y0 y1) (pack_Put.l0 (k + 1) y0 y1))
  | 0 => fun _ _ r h => by simp [pack_Put.l0] at h
  | k + 1 => by
    have ih0 := pack_Put.mono_l k
    · intro y0 y1
      unfold pack_Put.l0
      repeat' first
      | (with_reducible exact ih0 _ _)
      | (with_reducible exact LeO.refl _)
      | (with_reducible exact LeO.none _)
      | (with_reducible refine LeO.ite ?_ ?_)
      | (with_reducible refine LeO.bind ?_ (fun _ => ?_))
      | exact ih0 _ _
      | exact LeO.none _
      | refine LeO.ite ?_ ?_
      | refine LeO.bind ?_ (fun _ => ?_)
theorem pack_Put.mono : ∀ a0 k, LeO (pack_Put.f k a0) (pack_Put.f (k + 1) a0) := by
  intro a0 k
  have ih0 := pack_Put.mono_l k
  unfold pack_Put.f
  repeat' first
      | (with_reducible exact ih0 _ _)
      | (with_reducible exact LeO.refl _)
      | (with_reducible exact LeO.none _)
      | (with_reducible refine LeO.ite ?_ ?_)
      | (with_reducible refine LeO.bind ?_ (fun _ => ?_))
      | exact ih0 _ _
      | exact LeO.none _
      | refine LeO.ite ?_ ?_
      | refine LeO.bind ?_ (fun _ => ?_)
set_option maxHeartbeats 8000000 in
set_option maxRecDepth 100000 in
theorem pack_Put.calls (k : Nat) (a0 : Int) (r : ByteArray) (w : World) (h : pack_Put.f k a0 = some r) :
    Calls Try.prog 78 #[.int .u64 a0] w fun e w' => e = .returned (.string r) ∧ Below w.heap.size w w' := by
  have HB := Aside0.mk (Below.refl w.heap.size w)
  have H : (pack_Put.l0 k a0 ([] : List Int)) = some r := h
  clear h
  have H' := Aside0.mk H
  clear H
  go_enter Try.func78, Try.ntmps78
  go_wp2
  go_loopg [0, 3] k (fun kq v0 v3 w' => ∃ (x0_1 : Int) (x3_1 : List Int), v0 = .int .u64 x0_1 ∧ Aside0 (pack_Put.l0 kq x0_1 x3_1 = some r) ∧ Aside0 (kq ≤ k) ∧ Aside0 (Kd.R (Kd.int .u8) 5 w' w.heap.size (fun _ => True) v3 x3_1) ∧ Aside0 (Below w.heap.size w w'))
  case atStart => exact ⟨(a0), (([] : List Int)), (by first | rfl | (simp; done) | (simp [*]; done)), H', ⟨Nat.le_refl _⟩, ⟨by first | exact Kd.R_nil _ _ _ _ _ | exact Kd.N_nil _ _ _ _ _ | exact Kd.V_nil _ _ _ _ _ | exact Kd.Q_nil _ _ _ _ _ | exact Kd.S_nil _ _ _ _ _⟩, ⟨by repeat (first | (with_reducible first | exact HB.out | apply below_alloc | apply pw_below_drewN | apply below_drew1) | exact HB.out)⟩⟩
  case round =>
    clear H'
    obtain ⟨x0_1, x3_1, rfl, HA, HK1, HO_3, HB⟩ := hrel
    cases gk with
    | zero => exact absurd HA.out (by simp [pack_Put.l0])
    | succ k1 =>
      have H := HA.out
      clear HA
      simp only [pack_Put.l0] at H
      by_cases c2 : x0_1 ≥ 128
      · rw [if_pos c2] at H
        have c2b0 : decide (128 ≤ x0_1) = true := decide_eq_true c2
        clear c2
        by_cases c3 : x3_1.length < 140737488355328
        · rw [if_pos c3] at H
          have LMc3 := Aside0.mk c3
          clear c3
          obtain ⟨y107, hy107⟩ : ∃ y_ : List Int, y_ = (x3_1 ++ [Go.bits .or .u8 ((x0_1) % 256) 128]) := ⟨_, rfl⟩
          replace H : (pack_Put.l0 k1 (x0_1 / 128) y107) = some r := by first | (rw [hy107]; with_reducible exact H) | (have H2_ := (Option.bind_some _ _).symm.trans H; rw [hy107]; with_reducible exact H2_) | (have H2_ := (Option.bind_some _ _).symm.trans H; with_reducible exact H2_) | with_reducible exact H | (rw [hy107]; exact H) | exact H
          have Ny107 := Aside0.mk hy107
          clear hy107
          have H' := Aside0.mk H
          clear H
          go_wp2_with (first | ((with_reducible refine gate_builtin (b := .append) (xs := #[.tmp 6, .tmp 10]) rfl ?_); at_builtin; refine Kd.R_append (Kd.int .u8) (w0 := w) w.heap.size rfl (.tmp 6) (.tmp 10) 100 5 (.int .u8 0) 1 rfl Try.underlying100 info5 rfl (by decide) (by omega) u3 x3_1 (Go.bits .or .u8 ((x0_1) % 256) 128) [.int .u8 (Go.bits .or .u8 ((x0_1) % 256) 128)] (fun _ => True) (fun _ => False) rfl rfl ?aP (fun _ hk => hk.elim) ?aF ?aO ?aB ?aS ?aL ?_; (case aP => exact rfl); (case aB => exact (by repeat (first | (with_reducible first | exact HB.out | apply below_alloc | apply pw_below_drewN | apply below_drew1) | exact HB.out))); (case aF => exact (fun _ _ => trivial)); (case aO => exact (by (with_reducible repeat (first | apply Kd.R_alloc | apply Kd.R_drewN | apply Kd.R_drew)); exact HO_3.out)); (case aS => exact (below_size (by repeat (first | (with_reducible first | exact HB.out | apply below_alloc | apply pw_below_drewN | apply below_drew1) | exact HB.out)))); (case aL => have := LMc3.out; omega); intro v108 w4 ho hb hg hat; rw [← Ny107.out] at ho; have n0_ := Aside0.mk (hb); have n1_ := Aside0.mk (ho); clear HB; clear HO_3; have HB := n0_; have HO109 := n1_; clear n0_ n1_; clear ho hb hg hat))
          go_roundg k1
          case measure => have := HK1.out; omega
          case rel => exact ⟨(x0_1 / 128), (y107), (by first | rfl | (simp; done) | (simp [*]; done)), H', ⟨by have := HK1.out; omega⟩, ⟨by (with_reducible repeat (first | apply Kd.R_alloc | apply Kd.R_drewN | apply Kd.R_drew)); exact HO109.out⟩, ⟨by repeat (first | (with_reducible first | exact HB.out | apply below_alloc | apply pw_below_drewN | apply below_drew1) | exact HB.out)⟩⟩
        · rw [if_neg c3] at H
          exact absurd H (by simp)
      · rw [if_neg c2] at H
        have c2b0 : decide (128 ≤ x0_1) = false := decide_eq_false c2
        clear c2
        by_cases c5 : x3_1.length < 140737488355328
        · rw [if_pos c5] at H
          have LMc5 := Aside0.mk c5
          clear c5
          obtain ⟨y110, hy110⟩ : ∃ y_ : List Int, y_ = (x3_1 ++ [(x0_1) % 256]) := ⟨_, rfl⟩
          replace H : (some (strOfNums y110)) = some r := by first | (rw [hy110]; with_reducible exact H) | (have H2_ := (Option.bind_some _ _).symm.trans H; rw [hy110]; with_reducible exact H2_) | (have H2_ := (Option.bind_some _ _).symm.trans H; with_reducible exact H2_) | with_reducible exact H | (rw [hy110]; exact H) | exact H
          have Ny110 := Aside0.mk hy110
          clear hy110
          obtain rfl := Option.some.inj H
          go_wp2_with (first | ((with_reducible refine gate_builtin (b := .append) (xs := #[.tmp 14, .tmp 17]) rfl ?_); at_builtin; refine Kd.R_append (Kd.int .u8) (w0 := w) w.heap.size rfl (.tmp 14) (.tmp 17) 100 5 (.int .u8 0) 1 rfl Try.underlying100 info5 rfl (by decide) (by omega) u3 x3_1 ((x0_1) % 256) [.int .u8 ((x0_1) % 256)] (fun _ => True) (fun _ => False) rfl rfl ?aP (fun _ hk => hk.elim) ?aF ?aO ?aB ?aS ?aL ?_; (case aP => exact rfl); (case aB => exact (by repeat (first | (with_reducible first | exact HB.out | apply below_alloc | apply pw_below_drewN | apply below_drew1) | exact HB.out))); (case aF => exact (fun _ _ => trivial)); (case aO => exact (by (with_reducible repeat (first | apply Kd.R_alloc | apply Kd.R_drewN | apply Kd.R_drew)); exact HO_3.out)); (case aS => exact (below_size (by repeat (first | (with_reducible first | exact HB.out | apply below_alloc | apply pw_below_drewN | apply below_drew1) | exact HB.out)))); (case aL => have := LMc5.out; omega); intro v111 w6 ho hb hg hat; rw [← Ny110.out] at ho; have n0_ := Aside0.mk (hb); have n1_ := Aside0.mk (ho); clear HB; clear HO_3; have HB := n0_; have HO112 := n1_; clear n0_ n1_; clear ho hb hg hat; have hcv7 := own_string (P := Try.prog) Try.underlying100 Try.underlying5 Try.underlying9 (Kd.own_of_R HO112.out)))
          go_ret
          exact ⟨by first | rfl | (simp [errW_none, errW_some] <;> rfl) | (simp [*, errW_none, errW_some] <;> rfl), by repeat (first | (with_reducible first | exact HB.out | apply below_alloc | apply pw_below_drewN | apply below_drew1) | exact HB.out)⟩
        · rw [if_neg c5] at H
          exact absurd H (by simp)
def word_Put.f (k : Nat) (a0 : ByteArray) : Option (ByteArray) := (pack_Put.f k (IntKind.u64.wrap ((a0.size : Int)))).bind fun t113 => (if t113.size + a0.size ≤ 9223372036854775807 then (some (t113 ++ a0)) else (none))
theorem word_Put.mono : ∀ a0 k, LeO (word_Put.f k a0) (word_Put.f (k + 1) a0) := by
  intro a0 k
  unfold word_Put.f
  repeat' first
      | (with_reducible exact pack_Put.mono _ _)
      | (with_reducible exact LeO.refl _)
      | (with_reducible exact LeO.none _)
      | (with_reducible refine LeO.ite ?_ ?_)
      | (with_reducible refine LeO.bind ?_ (fun _ => ?_))
      | exact pack_Put.mono _ _
      | exact LeO.none _
      | refine LeO.ite ?_ ?_
      | refine LeO.bind ?_ (fun _ => ?_)
set_option maxHeartbeats 8000000 in
set_option maxRecDepth 100000 in
theorem word_Put.calls (k : Nat) (a0 : ByteArray) (r : ByteArray) (w : World) (h : word_Put.f k a0 = some r) :
    Calls Try.prog 33 #[.string a0] w fun e w' => e = .returned (.string r) ∧ Below w.heap.size w w' := by
  have HB := Aside0.mk (Below.refl w.heap.size w)
  have H : ((pack_Put.f k (IntKind.u64.wrap ((a0.size : Int)))).bind fun t113 => (if t113.size + a0.size ≤ 9223372036854775807 then (some (t113 ++ a0)) else (none))) = some r := h
  clear h
  replace H := Option.bind_eq_some_iff.mp H
  obtain ⟨t113, A20, H⟩ := H
  replace H : (if t113.size + a0.size ≤ 9223372036854775807 then (some (t113 ++ a0)) else (none)) = some r := H
  have A2 := Aside0.mk A20
  clear A20
  by_cases c3 : t113.size + a0.size ≤ 9223372036854775807
  · rw [if_pos c3] at H
    have c3b0 := eq_true c3
    have c3b1 : decide (t113.size + a0.size ≤ 9223372036854775807) = true := decide_eq_true c3
    try have c3b2 : (9223372036854775807 < t113.size + a0.size) = False := eq_false (Nat.not_lt.2 c3)
    try (have c3b3 := c3b2; simp only [ByteArray.size_append] at c3b3)
    clear c3
    obtain rfl := Option.some.inj H
    go_enter Try.func33, Try.ntmps33
    go_wp2_with (first | ((with_reducible refine gate_callee (f := 78) rfl ?_); refine goesL_ (some 6) rfl rfl Try.func78 (by kernel_rfl) rfl #[.int .u64 (IntKind.u64.wrap ((a0.size : Int)))] rfl (by (try simp only [List.map_toArray, List.map_cons, List.map_nil]); first | done | rfl | (simp only [List.length_drop, List.length_take]; rfl)) ?_; (with_reducible refine (pack_Put.calls k (IntKind.u64.wrap ((a0.size : Int))) t113 _ A2.out).mono ?_); rintro e w4 ⟨rfl, hb⟩; refine ⟨_, rfl, ?_⟩; have n0_ := Aside0.mk (below_step (by repeat (first | (with_reducible first | exact HB.out | apply below_alloc | apply pw_below_drewN | apply below_drew1) | exact HB.out)) hb); clear HB; have HB := n0_; clear n0_; (try clear hb); (try clear hb2); (try clear hk); (try clear hi)))
    go_ret
    exact ⟨by first | rfl | (simp [errW_none, errW_some] <;> rfl) | (simp [*, errW_none, errW_some] <;> rfl), by repeat (first | (with_reducible first | exact HB.out | apply below_alloc | apply pw_below_drewN | apply below_drew1) | exact HB.out)⟩
  · rw [if_neg c3] at H
    exact absurd H (by simp)
def IsS120 (w0 W : World) (g : Nat) (f0 : ByteArray) (f1 : Int) : Prop := W.heap[g]? = some (.cells #[.string f0, .int .i64 f1] 120 (0, 0)) ∧ w0.heap.size ≤ g
theorem IsS120.grown {w0 W : World} {g : Nat} {f0 : ByteArray} {f1 : Int} {W1 : World} {row : Option Nat} (h : IsS120 w0 W g f0 f1) (hw : W.grownBy W1 row) (hne : some g ≠ row) : IsS120 w0 W1 g f0 f1 := by
  obtain ⟨hb, hg⟩ := h
  exact ⟨blk_grown hb hw hne, hg⟩
theorem IsS120.fresh {w0 W : World} {g : Nat} {f0 : ByteArray} {f1 : Int} (h : IsS120 w0 W g f0 f1) : ∀ k, W.heap.size ≤ k → k ≠ g := by
  obtain ⟨hb, hg⟩ := h
  exact Kd.freshB hb
theorem IsS120.kept {w0 W : World} {g : Nat} {f0 : ByteArray} {f1 : Int} {W1 : World} {S : Nat → Prop} (h : IsS120 w0 W g f0 f1) (hk : Kept W W1 S) (hne : ¬ S g) : IsS120 w0 W1 g f0 f1 := by
  obtain ⟨hb, hg⟩ := h
  exact ⟨blk_kept hb hk hne, hg⟩
theorem IsS120.below {w0 W : World} {g : Nat} {f0 : ByteArray} {f1 : Int} {W1 : World} (h : IsS120 w0 W g f0 f1) (hw : Below W.heap.size W W1) : IsS120 w0 W1 g f0 f1 := h.grown (grown_of_below hw none) (by simp)
theorem IsS120.alloc {w0 W : World} {g : Nat} {f0 : ByteArray} {f1 : Int} (h : IsS120 w0 W g f0 f1) (o : Obj) : IsS120 w0 (W.alloc o) g f0 f1 := h.below (below_alloc (Below.refl _ _) o)
theorem IsS120.drewN {w0 W : World} {g : Nat} {f0 : ByteArray} {f1 : Int} (h : IsS120 w0 W g f0 f1) (m : Nat) : IsS120 w0 (W.drewN m) g f0 f1 := h
theorem IsS120.drew {w0 W : World} {g : Nat} {f0 : ByteArray} {f1 : Int} (h : IsS120 w0 W g f0 f1) : IsS120 w0 W.drew g f0 f1 := h
theorem IsS120.at_ {w0 W : World} {g : Nat} {f0 : ByteArray} {f1 : Int} {w' : World} {m : Nat} (hq : W.drewN m = w') (h : IsS120 w0 W g f0 f1) : IsS120 w0 w' g f0 f1 := by subst hq; exact IsS120.drewN h m
theorem IsS120.apart {w0 W : World} {g : Nat} {f0 : ByteArray} {f1 : Int} {α : Type} {d : Kd α} {e : Nat} {base : Nat} {ok : Nat → Prop} {v : Value} {xs : List α} (h : IsS120 w0 W g f0 f1) (ho : d.R e W base ok v xs) (ht : ∀ q, q ∈ e :: d.E → q ≠ 120) : d.R e W base (fun k => ok k ∧ k ≠ g) v xs := by
  obtain ⟨hb, hg⟩ := h
  exact Kd.R_types ho hb ht
theorem IsS120.own_ne {w0 W : World} {g : Nat} {f0 : ByteArray} {f1 : Int} {α : Type} {d : Kd α} {e : Nat} {base : Nat} {ok : Nat → Prop} {v : Value} {xs : List α} (h : IsS120 w0 W g f0 f1) (ho : d.R e W base ok v xs) (ht : e ≠ 120) : some g ≠ v.ownBlock := by
  obtain ⟨hb, hg⟩ := h
  exact Kd.R_ne ho hb ht
theorem IsS120.lt {w0 W : World} {g : Nat} {f0 : ByteArray} {f1 : Int} (h : IsS120 w0 W g f0 f1) : g < W.heap.size := by
  obtain ⟨hb, hg⟩ := h
  exact blk_lt hb
theorem IsS120.ge {w0 W : World} {g : Nat} {f0 : ByteArray} {f1 : Int} (h : IsS120 w0 W g f0 f1) : w0.heap.size ≤ g := by
  obtain ⟨hb, hg⟩ := h
  exact hg
theorem cellS120_0 {W : World} {g : Nat} {f0 : ByteArray} {f1 : Int} (h : W.heap[g]? = some (.cells #[.string f0, .int .i64 f1] 120 (0, 0))) : W.cell? ⟨g, 0, none⟩ = some (.string f0) := (blk_cell h 0).trans rfl
theorem IsS120.set_0 {w0 W : World} {g : Nat} {f0 : ByteArray} {f1 : Int} (h : IsS120 w0 W g f0 f1) (x : ByteArray) : IsS120 w0 (W.setCell ⟨g, 0, none⟩ (.string x)) g x f1 := by
  obtain ⟨hb, hg⟩ := h
  exact ⟨by simpa using blk_set hb 0 (.string x), hg⟩
theorem cellS120_1 {W : World} {g : Nat} {f0 : ByteArray} {f1 : Int} (h : W.heap[g]? = some (.cells #[.string f0, .int .i64 f1] 120 (0, 0))) : W.cell? ⟨g, 1, none⟩ = some (.int .i64 f1) := (blk_cell h 1).trans rfl
theorem IsS120.set_1 {w0 W : World} {g : Nat} {f0 : ByteArray} {f1 : Int} (h : IsS120 w0 W g f0 f1) (x : Int) : IsS120 w0 (W.setCell ⟨g, 1, none⟩ (.int .i64 x)) g f0 x := by
  obtain ⟨hb, hg⟩ := h
  exact ⟨by simpa using blk_set hb 1 (.int .i64 x), hg⟩
def pack_New.f (a0 : ByteArray) : Option (ByteArray × Int) := some (a0, 0)
set_option maxHeartbeats 8000000 in
set_option maxRecDepth 100000 in
theorem pack_New.calls (a0 : ByteArray) (r1 : ByteArray) (r2 : Int) (w0 w : World) (hB : Below w0.heap.size w0 w) (h : pack_New.f a0 = some (r1, r2)) :
    Calls Try.prog 80 #[.string a0] w fun e w' => ∃ g_ : Nat, e = .returned (.pointer (some ⟨g_, 0, none⟩)) ∧ IsS120 w0 w' g_ r1 r2 ∧ Below w0.heap.size w0 w' ∧ Below w.heap.size w w' := by
  have hu120 := Try.underlying120
  have HBW := Aside0.mk (Below.refl w.heap.size w)
  have HW0 := Aside0.mk hB.size
  have HB := Aside0.mk hB
  clear hB
  have H : (some (a0, 0)) = some (r1, r2) := h
  clear h
  simp only [Option.some.injEq, Prod.mk.injEq] at H
  obtain ⟨rfl, rfl⟩ := H
  go_enter Try.func80, Try.ntmps80
  go_wp2_with (first | ((with_reducible refine gate_dst (N := 5) rfl ?_); refine box_event ?hg (N := 5) ?hd (cs := #[.string a0, .int .i64 0]) (t := 120) ?hr ?_; (case hd => rfl); (case hg => rfl); (case hr => first | (go_simp; done) | (go_simp; rfl)); intro gb114 hg w2 hbox hb; have n0_ := Aside0.mk (below_step HBW.out hb); have n1_ := Aside0.mk (below_step (by repeat (first | (with_reducible first | exact HB.out | apply below_alloc | apply pw_below_drewN | apply below_drew1) | exact HB.out)) hb); have n2_ := Aside0.mk (hbox); have n3_ := Aside0.mk ((by rw [hg]; exact (below_size (by repeat (first | (with_reducible first | exact HBW.out | apply below_alloc | apply pw_below_drewN | apply below_drew1) | exact HBW.out))) : w.heap.size ≤ gb114)); have n4_ := Aside0.mk ((Nat.le_trans HW0.out (by rw [hg]; exact (below_size (by repeat (first | (with_reducible first | exact HBW.out | apply below_alloc | apply pw_below_drewN | apply below_drew1) | exact HBW.out))) : w.heap.size ≤ gb114) : w0.heap.size ≤ gb114)); clear HBW; clear HB; have HBW := n0_; have HB := n1_; have BK114 := n2_; have GW114 := n3_; have GE114 := n4_; clear n0_ n1_ n2_ n3_ n4_; clear hb hbox hg))
  go_ret
  exact ⟨_, rfl, (show IsS120 w0 _ gb114 a0 0 from ⟨by (with_reducible repeat (first | refine blk_drewN ?_ _ | refine blk_drew ?_ | refine blk_alloc ?_ _)); exact BK114.out, GE114.out⟩), by repeat (first | (with_reducible first | exact HB.out | apply below_alloc | apply pw_below_drewN | apply below_drew1 | refine below_set ?_ GE114.out) | exact HB.out), by repeat (first | (with_reducible first | exact HBW.out | apply below_alloc | apply pw_below_drewN | apply below_drew1 | refine below_set ?_ GW114.out) | exact HBW.out)⟩
end Go.Proofs.Ytbgjoiccehiglaa.Print
end
section
namespace Go.Proofs.Ytbgjoiccehiglaa.Print
open Go.RowKit Go.Proofs.YtbgjoiccehiglaaW.PrintWords Go.Proofs.YtbgjoiccehiglaaW.PrintLast Go.Proofs.YtbgjoiccehiglaaW.PrintMore
attribute [local go_sem] max2_int min2_int max_two min_two max_three min_three max_four min_four
set_option linter.unusedVariables false
set_option linter.unusedSimpArgs false
theorem must_ok (c : Int) (w : World) : Calls Try.prog 100 #[.bool true, .int .i64 c] w fun e w' => e = .returned (.tuple #[]) ∧ w' = w := by
  go_enter Try.func100, Try.ntmps100
  go_wp2
  go_end0
  exact ⟨rfl, rfl⟩
set_option maxRecDepth 100000 in
theorem must_no (c : Int) (w : World) : Calls Try.prog 100 #[.bool false, .int .i64 c] w fun e w' => e = .panicked [{ v := .iface 126 (.int .i64 c), recovered := false }] ∧ w' = w := by
  go_enter Try.func100, Try.ntmps100
  go_wp2
  exact ⟨rfl, rfl, rfl⟩
theorem catch_idle (p : Addr) (w : World) :
    CallsD Try.prog 105 #[.pointer (some p)] .returning w fun e u' w' => e = .returned (.tuple #[]) ∧ u' = .returning ∧ w' = w := by
  refine callsD_of_wpS Try.func105 rfl fun c₀ cs hu => ?_
  apply wpS_seq
  apply wpS_region
  simp [wpOpsS, go_sem, recoverD, hu, Try.ntmps105, Exit.thenS]
  apply wpS_seq
  apply wpS_region
  simp [wpOpsS, go_sem, Exit.thenS]
  refine wpS_cond (t := false) (by simp [Act.eval, Array.replicate]) ?_
  simp only [Bool.false_eq_true, if_false]
  refine wpS_of_wp (wp_skip ?_)
  cases c₀
  simp_all [bodyPostS, results, Try.results105]
set_option maxRecDepth 100000 in
theorem catch_panics (p : Addr) (g : Nat) (c : Int) (s : ByteArray) (older : List PanicEntry) (w : World) (hp : w.cell? p = some (.pointer (some ⟨g, 0, none⟩)))
    (hI : w.heap[g]? = some (.cells #[.string s, .int .i64 0] 120 (0, 0))) (hne : p.block ≠ g) :
    CallsD Try.prog 105 #[.pointer (some p)] (.panicking ({ v := .iface 126 (.int .i64 c), recovered := false } :: older)) w fun e u' w' => e = .returned (.tuple #[]) ∧ u' = .panicking ({ v := .iface 126 (.int .i64 c), recovered := true } :: older) ∧ ∃ n, w' = (w.drewN n).setCell ⟨g, 1, none⟩ (.int .i64 c) := by
  refine callsD_of_wpS Try.func105 rfl fun c₀ cs hu => ?_
  apply wpS_seq
  apply wpS_region
  simp [wpOpsS, go_sem, recoverD, hu, Try.ntmps105, Exit.thenS]
  apply wpS_seq
  apply wpS_region
  simp [wpOpsS, go_sem, Exit.thenS]
  refine wpS_cond (t := true) (by simp [Act.eval, Array.replicate]) ?_
  simp only [if_true]
  refine wpS_of_wp ?_
  have h1 := cellS120_1 hI
  have h2 := blk_frozen hI 1
  have hta : ∀ (v : Value) (W : World), (Instr.typeAssert (.iface 126 v) 20 126 false).run Try.prog W = .ok v W := fun v W => by rfl
  clear hI
  have hk : ∀ v, ((w.setCell ⟨g, 1, none⟩ v).drew).cell? p = some (.pointer (some ⟨g, 0, none⟩)) := by
    intro v
    have hne' : (⟨g, 1, none⟩ : Addr) ≠ p := by rintro rfl; exact hne rfl
    simp [World.cell?_setCell_other _ _ _ _ hne', hp]
  go_region_held3 (fun W => W.cell? p = some (.pointer (some ⟨g, 0, none⟩))) (first | go_keep | exact hk _) (first | fail)
  cases c₀
  simp_all [bodyPostS, results, Try.results105]
  exact ⟨1, rfl⟩
set_option maxHeartbeats 8000000 in
set_option maxRecDepth 100000 in
theorem read_ret (g : Nat) (s s' : ByteArray) (c : Nat) (caps : Array Value) (w : World) (R : World → Prop)
    (hI : w.heap[g]? = some (.cells #[.string s, .int .i64 0] 120 (0, 0)))
    (hc : ∀ n, Calls Try.prog c (#[.string s] ++ caps) ((w.alloc (.cells #[.pointer (some ⟨g, 0, none⟩)] 85)).drewN n) fun e w' => e = .returned (.string s') ∧ R w')
    (hcf : ∀ W, (callFunc c (#[.string s] ++ caps)).run Try.prog W = .ok (.enter c (#[.string s] ++ caps)) W)
    (hR : ∀ w', R w' → w'.heap[g]? = some (.cells #[.string s, .int .i64 0] 120 (0, 0)) ∧ w'.heap[w.heap.size]? = some (.cells #[.pointer (some ⟨g, 0, none⟩)] 85 (0, 0))) :
    Calls Try.prog 98 #[.pointer (some ⟨g, 0, none⟩), .func (.func c) #[] caps] w fun e w' => e = .returned (.tuple #[]) ∧ ∃ w1, R w1 ∧ w' = w1.setCell ⟨g, 0, none⟩ (.string s') := by
  have hmf : ∀ (fn : Fn) (first cap : Array Value) (w : World), (Instr.makeFunc fn first cap).run Try.prog w = .ok (.func fn first cap) w := fun _ _ _ _ => rfl
  have HI := blk_alloc hI (.cells #[.pointer (some ⟨g, 0, none⟩)] 85)
  have HG := Aside0.mk (blk_lt hI)
  have h0 := cellS120_0 HI
  have h1 := cellS120_1 HI
  have HH := Aside0.mk HI
  clear HI hI
  have HC := Aside0.mk hc
  have HR := Aside0.mk hR
  clear hc hR
  go_enter_defers Try.func98, Try.ntmps98
  go_wp2_with fail
  refine wp_region_noPanic ?_
  refine wp_region_held_drew (S := fun W => W.cell? ⟨w.heap.size, 0, none⟩ = some (.pointer (some ⟨g, 0, none⟩))) (by kernel_rfl) (by go_simp) (fun hHeld => ?_)
  refine wpAnyH_take (i := 0) (v := .pointer (some ⟨g, 0, none⟩)) rfl (by kernel_rfl) (by kernel_rfl) (by kernel_rfl) (fun _ _ _ h => h) (Or.inl ⟨by rfl, fun W hS => by (try dsimp only at hS); go_simp⟩) hHeld ?_
  simp only [Act.put, List.setIfInBounds_toArray, List.set_cons_zero, List.set_cons_succ]
  refine wpAnyH_take (i := 1) (v := .func (.func c) #[] caps) rfl (by kernel_rfl) (by kernel_rfl) (by kernel_rfl) (fun _ _ _ h => h) (Or.inl ⟨by rfl, fun W hS => by go_simp⟩) hHeld ?_
  simp only [Act.put, List.setIfInBounds_toArray, List.set_cons_zero, List.set_cons_succ]
  refine wpAnyH_take (i := 2) (v := .pointer (some ⟨g, 0, none⟩)) rfl (by kernel_rfl) (by kernel_rfl) (by kernel_rfl) (fun _ _ _ h => h) (Or.inl ⟨by rfl, fun W hS => by (try dsimp only at hS); go_simp⟩) hHeld ?_
  simp only [Act.put, List.setIfInBounds_toArray, List.set_cons_zero, List.set_cons_succ]
  refine wpAnyH_take (i := 3) (v := .pointer (some ⟨g, 0, none⟩)) rfl (by kernel_rfl) (by kernel_rfl) (by kernel_rfl) (fun _ _ _ h => h) (Or.inl ⟨by rfl, fun W hS => by go_simp⟩) hHeld ?_
  simp only [Act.put, List.setIfInBounds_toArray, List.set_cons_zero, List.set_cons_succ]
  refine wpAnyH_take (i := 4) (v := .pointer (some ⟨g, 0, none⟩)) rfl (by kernel_rfl) (by kernel_rfl) (by kernel_rfl) (fun _ _ _ h => h) (Or.inl ⟨by rfl, fun W hS => by go_simp⟩) hHeld ?_
  simp only [Act.put, List.setIfInBounds_toArray, List.set_cons_zero, List.set_cons_succ]
  refine wpAnyH_ready (rs := [5]) (by kernel_rfl) (by simp) (AllReadyH.cons rfl (fun K hK => ?_) AllReadyH.nil)
  go_simp
  refine hK.out _ _ hHeld (fun hHeld => ?_)
  clear hK K
  (try simp only [Act.put, List.setIfInBounds_toArray, List.set_cons_zero, List.set_cons_succ])
  refine wpAnyH_ready (rs := [6]) (by kernel_rfl) (by simp) (AllReadyH.cons rfl (fun K hK => ?_) AllReadyH.nil)
  go_simp
  refine Calls.mono (HC.out 1) ?_
  rintro e w' ⟨rfl, hq⟩
  have hz := HR.out _ hq
  have hbox : w'.cell? ⟨w.heap.size, 0, none⟩ = some (.pointer (some ⟨g, 0, none⟩)) := (blk_cell hz.2 0).trans rfl
  have hg0 := cellS120_0 hz.1
  have hgf := blk_frozen hz.1 0
  have hbox2 : ∀ v, (w'.setCell ⟨g, 0, none⟩ v).cell? ⟨w.heap.size, 0, none⟩ = some (.pointer (some ⟨g, 0, none⟩)) := fun v => by
    have hne : (⟨g, 0, none⟩ : Addr) ≠ ⟨w.heap.size, 0, none⟩ := by
      intro h
      injection h with h
      have := HG.out
      omega
    rw [World.cell?_setCell_other _ _ _ _ hne]
    exact hbox
  refine hK.out _ _ hbox (fun hHeld => ?_)
  clear hK K
  (try simp only [Act.put, List.setIfInBounds_toArray, List.set_cons_zero, List.set_cons_succ])
  refine wpAnyH_take (i := 7) (v := .pointer (some ⟨g, 0, none⟩)) rfl (by kernel_rfl) (by kernel_rfl) (by kernel_rfl) (fun _ _ _ h => h) (Or.inl ⟨by rfl, fun W hS => by go_simp⟩) hHeld ?_
  simp only [Act.put, List.setIfInBounds_toArray, List.set_cons_zero, List.set_cons_succ]
  refine wpAnyH_take (i := 8) (v := .pointer (some ⟨g, 0, none⟩)) rfl (by kernel_rfl) (by kernel_rfl) (by kernel_rfl) (fun _ _ _ h => h) (Or.inl ⟨by rfl, fun W hS => by go_simp⟩) hHeld ?_
  simp only [Act.put, List.setIfInBounds_toArray, List.set_cons_zero, List.set_cons_succ]
  refine wpAnyH_ready (rs := [9]) (by kernel_rfl) (by simp) (AllReadyH.cons rfl (fun K hK => ?_) AllReadyH.nil)
  go_simp
  refine hK.out _ _ (hbox2 _) (fun hHeld => ?_)
  clear hK K
  refine wpAnyH_done (by kernel_rfl) ?_ _
  all_goals
    refine NoPanic.normal ?_
    refine leaves_cons (f := 105) (args := #[.pointer (some ⟨w.heap.size, 0, none⟩)]) (by simp) (by simp [go_sem]) ?_
    refine (catch_idle ⟨w.heap.size, 0, none⟩ _).mono ?_
    rintro e u' w'' ⟨rfl, rfl, rfl⟩
    simp [Leaves, settle, results, Try.results98, go_sem]
    exact ⟨w', hq, rfl⟩
def PanicR (D : List Deferred) (R : List PanicEntry → World → Prop) : Exit → Act → World → Prop
  | .panic ch, a, w => a.defers = D ∧ R ch w
  | _, _, _ => False
set_option maxHeartbeats 8000000 in
set_option maxRecDepth 100000 in
theorem read_panics (g : Nat) (s : ByteArray) (c : Nat) (k : Int) (caps : Array Value) (w : World) (R : World → Prop)
    (hI : w.heap[g]? = some (.cells #[.string s, .int .i64 0] 120 (0, 0)))
    (hc : ∀ n, Calls Try.prog c (#[.string s] ++ caps) ((w.alloc (.cells #[.pointer (some ⟨g, 0, none⟩)] 85)).drewN n) fun e w' => e = .panicked [{ v := .iface 126 (.int .i64 k), recovered := false }] ∧ R w')
    (hcf : ∀ W, (callFunc c (#[.string s] ++ caps)).run Try.prog W = .ok (.enter c (#[.string s] ++ caps)) W)
    (hR : ∀ w', R w' → w'.heap[g]? = some (.cells #[.string s, .int .i64 0] 120 (0, 0)) ∧ w'.heap[w.heap.size]? = some (.cells #[.pointer (some ⟨g, 0, none⟩)] 85 (0, 0))) :
    Calls Try.prog 98 #[.pointer (some ⟨g, 0, none⟩), .func (.func c) #[] caps] w fun e w' => e = .returned (.tuple #[]) ∧ ∃ w1 n, R w1 ∧ w' = (World.drewN w1 n).setCell ⟨g, 1, none⟩ (.int .i64 k) := by
  have hmf : ∀ (fn : Fn) (first cap : Array Value) (w : World), (Instr.makeFunc fn first cap).run Try.prog w = .ok (.func fn first cap) w := fun _ _ _ _ => rfl
  have HI := blk_alloc hI (.cells #[.pointer (some ⟨g, 0, none⟩)] 85)
  have HG := Aside0.mk (blk_lt hI)
  have h0 := cellS120_0 HI
  have h1 := cellS120_1 HI
  have HH := Aside0.mk HI
  clear HI hI
  have HC := Aside0.mk hc
  have HR := Aside0.mk hR
  clear hc hR
  go_enter_defers Try.func98, Try.ntmps98
  go_wp2_with fail
  refine Code.wp_mono (Q := PanicR [{ target := .fn (.func 105) #[.pointer (some ⟨w.heap.size, 0, none⟩)], args := #[] }] fun ch w' => ch = [{ v := .iface 126 (.int .i64 k), recovered := false }] ∧ R w') ?_ ?_
  · intro e a w1 hq
    cases e with
    | panic ch =>
      obtain ⟨hd, rfl, hr⟩ := hq
      obtain ⟨tmps, defers⟩ := a
      simp only at hd
      subst hd
      have hz := HR.out _ hr
      refine leaves_cons (f := 105) (args := #[.pointer (some ⟨w.heap.size, 0, none⟩)]) (by simp) (by simp [go_sem]) ?_
      refine (catch_panics ⟨w.heap.size, 0, none⟩ g k s [] _ ((blk_cell hz.2 0).trans rfl) hz.1 (by have := HG.out; simp; omega)).mono ?_
      rintro e u' w'' ⟨rfl, rfl, n, rfl⟩
      simp [Leaves, settle, results, Try.results98, go_sem]
      exact ⟨w1, hr, n, rfl⟩
    | _ => exact hq.elim
  refine wp_region_held_drew (S := fun W => W.cell? ⟨w.heap.size, 0, none⟩ = some (.pointer (some ⟨g, 0, none⟩))) (by kernel_rfl) (by go_simp) (fun hHeld => ?_)
  refine wpAnyH_take (i := 0) (v := .pointer (some ⟨g, 0, none⟩)) rfl (by kernel_rfl) (by kernel_rfl) (by kernel_rfl) (fun _ _ _ h => h) (Or.inl ⟨by rfl, fun W hS => by (try dsimp only at hS); go_simp⟩) hHeld ?_
  simp only [Act.put, List.setIfInBounds_toArray, List.set_cons_zero, List.set_cons_succ]
  refine wpAnyH_take (i := 1) (v := .func (.func c) #[] caps) rfl (by kernel_rfl) (by kernel_rfl) (by kernel_rfl) (fun _ _ _ h => h) (Or.inl ⟨by rfl, fun W hS => by go_simp⟩) hHeld ?_
  simp only [Act.put, List.setIfInBounds_toArray, List.set_cons_zero, List.set_cons_succ]
  refine wpAnyH_take (i := 2) (v := .pointer (some ⟨g, 0, none⟩)) rfl (by kernel_rfl) (by kernel_rfl) (by kernel_rfl) (fun _ _ _ h => h) (Or.inl ⟨by rfl, fun W hS => by (try dsimp only at hS); go_simp⟩) hHeld ?_
  simp only [Act.put, List.setIfInBounds_toArray, List.set_cons_zero, List.set_cons_succ]
  refine wpAnyH_take (i := 3) (v := .pointer (some ⟨g, 0, none⟩)) rfl (by kernel_rfl) (by kernel_rfl) (by kernel_rfl) (fun _ _ _ h => h) (Or.inl ⟨by rfl, fun W hS => by go_simp⟩) hHeld ?_
  simp only [Act.put, List.setIfInBounds_toArray, List.set_cons_zero, List.set_cons_succ]
  refine wpAnyH_take (i := 4) (v := .pointer (some ⟨g, 0, none⟩)) rfl (by kernel_rfl) (by kernel_rfl) (by kernel_rfl) (fun _ _ _ h => h) (Or.inl ⟨by rfl, fun W hS => by go_simp⟩) hHeld ?_
  simp only [Act.put, List.setIfInBounds_toArray, List.set_cons_zero, List.set_cons_succ]
  refine wpAnyH_ready (rs := [5]) (by kernel_rfl) (by simp) (AllReadyH.cons rfl (fun K hK => ?_) AllReadyH.nil)
  go_simp
  refine hK.out _ _ hHeld (fun hHeld => ?_)
  clear hK K
  (try simp only [Act.put, List.setIfInBounds_toArray, List.set_cons_zero, List.set_cons_succ])
  refine wpAnyH_ready (rs := [6]) (by kernel_rfl) (by simp) (AllReadyH.cons rfl (fun K hK => ?_) AllReadyH.nil)
  go_simp
  refine Calls.mono (HC.out 1) ?_
  rintro e w' ⟨rfl, hq⟩
  exact ⟨rfl, rfl, hq⟩
theorem take1_ok (s x : ByteArray) (n : Int) (pn po : Addr) (w : World) (hn : w.cell? pn = some (.int .i64 n)) (ho : w.cell? po = some (.string x)) (hf : w.frozen? po = false) (hne : po ≠ pn) (h0 : 0 ≤ n) (h1 : n ≤ s.size) :
    Calls Try.prog 101 #[.string s, .pointer (some pn), .pointer (some po)] w fun e w' => e = .returned (.string (s.extract n.toNat s.size)) ∧ w' = w.setCell po (.string (s.extract 0 n.toNat)) := by
  have h0b := decide_eq_true h0
  have h1b := decide_eq_true h1
  have h0t := eq_true h0
  have h1t := eq_true h1
  have hk : ∀ v, (w.setCell po v).cell? pn = some (.int .i64 n) := fun v => by rw [World.cell?_setCell_other _ _ _ _ hne]; exact hn
  go_enter Try.func101, Try.ntmps101
  go_wp2_with (go_at_call 100; refine (must_ok _ _).mono ?_; rintro e w' ⟨rfl, rfl⟩)
  go_ret
  exact ⟨rfl, rfl⟩
theorem take1_no (s x : ByteArray) (n : Int) (pn po : Addr) (w : World) (hn : w.cell? pn = some (.int .i64 n)) (h : n < 0 ∨ s.size < n) :
    Calls Try.prog 101 #[.string s, .pointer (some pn), .pointer (some po)] w fun e w' => e = .panicked [{ v := .iface 126 (.int .i64 2), recovered := false }] ∧ w' = w := by
  by_cases h0 : 0 ≤ n
  · have h1 : ¬ n ≤ s.size := by omega
    have h0b := decide_eq_true h0
    have h1b := decide_eq_false h1
    clear h h0 h1
    go_enter Try.func101, Try.ntmps101
    go_wp2_with (go_at_call 100; refine (must_no _ _).mono ?_; rintro e w' ⟨rfl, rfl⟩)
    exact ⟨rfl, rfl, rfl⟩
  · have h0b := decide_eq_false h0
    clear h h0
    go_enter Try.func101, Try.ntmps101
    go_wp2_with (go_at_call 100; refine (must_no _ _).mono ?_; rintro e w' ⟨rfl, rfl⟩)
    exact ⟨rfl, rfl, rfl⟩
def numL (s : ByteArray) : Nat → Int → Int → Int × Int × Int
  | 0, _, _ => (3, 0, 0)
  | k + 1, i, n => if i < s.size then
      (if (i < 9 ∨ bt s i ≤ 1) ∧ (i = 0 ∨ bt s i ≠ 0) then
        (if bt s i < 128 then (0, n + bt s i % 128 * 128 ^ i.toNat, i + 1) else numL s k (i + 1) (n + bt s i % 128 * 128 ^ i.toNat))
      else (3, 0, 0)) else (2, 0, 0)
theorem pack_wraps_u64 (n : Int) (h₀ : 0 ≤ n) (h₁ : n < 2 ^ 64) : IntKind.u64.wrap n = n := by simp [IntKind.wrap, IntKind.bits, IntKind.signed]; omega
theorem pack_bits_comm (k : IntKind) (x y : Int) : bits .or k x y = bits .or k y x := by simp only [bits]; rw [BitVec.or_comm]
theorem pack_andNot (b : Int) (h0 : 0 ≤ b) (h1 : b ≤ 255) : bits .andNot .u8 b 128 = b % 128 := by
  obtain ⟨n, rfl⟩ := Int.eq_ofNat_of_zero_le h0
  have hn : n < 256 := by omega
  have key : ∀ m : Fin 256, bits .andNot .u8 ((m.val : Nat) : Int) 128 = ((m.val : Nat) : Int) % 128 := by decide +kernel
  exact key ⟨n, hn⟩
theorem pack_pow (i : Int) : (2 : Int) ^ (7 * i).toNat = 128 ^ i.toNat := by
  rw [show (7 * i).toNat = 7 * i.toNat by omega, Int.pow_mul]; rfl
theorem pack_pow9 (i : Int) (hi : i ≤ 9) : (128 : Int) ^ i.toNat ≤ 2 ^ 63 ∧ 0 < (128 : Int) ^ i.toNat := by
  have h : i.toNat ≤ 9 := by omega
  generalize i.toNat = j at h
  rcases j with _ | _ | _ | _ | _ | _ | _ | _ | _ | _ | j
  all_goals first | omega | (constructor <;> decide)
theorem pack_pow8 (i : Int) (hi : i ≤ 8) : (128 : Int) ^ i.toNat ≤ 2 ^ 56 := by
  have h : i.toNat ≤ 8 := by omega
  generalize i.toNat = j at h
  rcases j with _ | _ | _ | _ | _ | _ | _ | _ | _ | j
  all_goals first | omega | decide
theorem num_step (i b n : Int) (h0 : 0 ≤ i) (h9 : i ≤ 9) (hb0 : 0 ≤ b) (hb : b ≤ 255) (h1 : i < 9 ∨ b ≤ 1) (hn0 : 0 ≤ n) (hn : n < 128 ^ i.toNat) :
    bits .or .u64 n (IntKind.u64.wrap (IntKind.u64.wrap (bits .andNot .u8 b 128) * 2 ^ (7 * i).toNat)) = n + b % 128 * 128 ^ i.toNat ∧ n + b % 128 * 128 ^ i.toNat < 2 ^ 64 := by
  rw [pack_andNot b hb0 hb, pack_pow, pack_wraps_u64 (b % 128) (by omega) (by omega)]
  obtain ⟨hp, hq⟩ := pack_pow9 i h9
  have hm : b % 128 * 128 ^ i.toNat ≤ 2 ^ 64 - 128 ^ i.toNat := by
    rcases h1 with h1 | h1
    · have h8 := pack_pow8 i (by omega)
      have : b % 128 * 128 ^ i.toNat ≤ 127 * 128 ^ i.toNat := Int.mul_le_mul_of_nonneg_right (by omega) (by omega)
      omega
    · have : b % 128 * 128 ^ i.toNat ≤ 1 * 128 ^ i.toNat := Int.mul_le_mul_of_nonneg_right (by omega) (by omega)
      omega
  have hm0 : 0 ≤ b % 128 * 128 ^ i.toNat := Int.mul_nonneg (by omega) (by omega)
  rw [pack_wraps_u64 (b % 128 * 128 ^ i.toNat) hm0 (by omega)]
  refine ⟨?_, by omega⟩
  rw [pack_bits_comm, bits_join .u64 64 (by decide) pack_wraps_u64 (7 * i).toNat _ _ hm0 ?_ (by omega) hn0 (by rw [pack_pow]; exact hn) (by omega)]
  · omega
  · rw [pack_pow]; exact Int.mul_emod_left _ _
def NumEnd (R : Int × Int × Int) (s : ByteArray) (po : Addr) (w : World) (e : Ending) (w' : World) : Prop :=
      (R.1 = 0 ∧ e = .returned (.string (s.extract R.2.2.toNat s.size)) ∧ w' = w.setCell po (.int .u64 R.2.1)) ∨
      (R.1 ≠ 0 ∧ e = .panicked [{ v := .iface 126 (.int .i64 R.1), recovered := false }] ∧ w' = w)
set_option maxHeartbeats 8000000 in
set_option maxRecDepth 100000 in
theorem num1_any (s : ByteArray) (po : Addr) (w : World) (x : Int) (hs : s.size ≤ 9223372036854775000) (ho : w.cell? po = some (.int .u64 x)) (hf : w.frozen? po = false) :
    Calls Try.prog 99 #[.string s, .pointer (some po)] w (NumEnd (numL s 10 0 0) s po w) := by
  obtain ⟨R, hR⟩ : ∃ R, numL s 10 0 0 = R := ⟨_, rfl⟩
  rw [hR]
  have HR0 := Aside0.mk hR
  clear hR
  go_enter Try.func99, Try.ntmps99
  go_wp2
  go_loopg [4, 5] 10 (fun gk v4 v5 w' => ∃ (i : Int) (n : Int), v4 = .int .u64 n ∧ v5 = .int .i64 i ∧ 0 ≤ i ∧ i + gk = 10 ∧ 1 ≤ gk ∧ Aside0 (0 ≤ n ∧ n < 128 ^ i.toNat) ∧ Aside0 (numL s gk i n = R) ∧ i ≤ s.size ∧ w = w')
  case atStart => exact ⟨0, 0, rfl, rfl, by omega, by omega, by omega, ⟨by decide⟩, HR0, by omega, rfl⟩
  case round =>
    clear HR0
    obtain ⟨i, n, rfl, rfl, hi0, hi9, hgk, HN, HA, his, rfl⟩ := hrel
    have p7 := eq_true hi0
    have hr := bt_range s i
    cases gk with
    | zero => omega
    | succ k =>
    by_cases hlt : i < s.size
    · have hlt' : decide (i < (s.size : Int)) = true := decide_eq_true hlt
      have q7 := eq_true hlt
      have hx := bt_at s i
      by_cases hok : (i < 9 ∨ bt s i ≤ 1) ∧ (i = 0 ∨ bt s i ≠ 0)
      · obtain ⟨hs1, hs2⟩ := num_step i (bt s i) n hi0 (by omega) hr.1 hr.2 hok.1 HN.out.1 HN.out.2
        have HM := Aside0.mk hs2
        clear hs2
        have hA := HA.out
        simp only [numL, if_pos hlt, if_pos hok] at hA
        by_cases hb : bt s i < 128
        · have hb' := decide_eq_true hb
          rw [if_pos hb] at hA
          have HR := Aside0.mk hA
          clear hA HA
          have s1 := eq_true (show 0 ≤ i + 1 by omega)
          have s2 := eq_true (show i + 1 ≤ (s.size : Int) by omega)
          obtain ⟨hok1, hok2⟩ := hok
          have c : (decide (i < 9) = true ∧ (i == 0) = true) ∨ (decide (i < 9) = true ∧ (i == 0) = false ∧ (bt s i != 0) = true) ∨ (decide (i < 9) = false ∧ decide (bt s i ≤ 1) = true ∧ (i == 0) = false ∧ (bt s i != 0) = true) := by
            simp only [decide_eq_false_iff_not, decide_eq_true_eq, beq_eq_false_iff_ne, bne_iff_ne, beq_iff_eq]
            omega
          clear hok1 hok2
          rcases c with ⟨c1, c2⟩ | ⟨c1, c2, c3⟩ | ⟨c1, c2, c3, c4⟩
          all_goals
            go_wp2_with (go_at_call 100; refine (must_ok _ _).mono ?_; rintro e w' ⟨rfl, rfl⟩)
            go_ret
            exact .inl ⟨by rw [← HR.out], by rw [← HR.out]; rfl, by rw [← HR.out]⟩
        · have hb' := decide_eq_false hb
          rw [if_neg hb] at hA
          have HA' := Aside0.mk hA
          clear hA HA
          obtain ⟨hok1, hok2⟩ := hok
          have h9 : i < 9 := by omega
          have c1 := decide_eq_true h9
          have HP : Aside0 (0 ≤ n + bt s i % 128 * 128 ^ i.toNat ∧ n + bt s i % 128 * 128 ^ i.toNat < 128 ^ (i + 1).toNat) := by
            obtain ⟨hp, hq⟩ := pack_pow9 i (by omega)
            have hn := HN.out
            have hm0 : 0 ≤ bt s i % 128 * 128 ^ i.toNat := Int.mul_nonneg (by omega) (by omega)
            have : bt s i % 128 * 128 ^ i.toNat ≤ 127 * 128 ^ i.toNat := Int.mul_le_mul_of_nonneg_right (by omega) (by omega)
            rw [show (i + 1).toNat = i.toNat + 1 by omega, Int.pow_succ]
            exact ⟨by omega, by omega⟩
          by_cases h0 : i = 0
          all_goals
            first | have c2 := beq_iff_eq.mpr h0 | (have c2 := beq_eq_false_iff_ne.mpr h0; have c2b := bne_iff_ne.mpr (show bt s i ≠ 0 by omega))
            clear hok1 hok2 h0
            go_wp2_with (go_at_call 100; refine (must_ok _ _).mono ?_; rintro e w' ⟨rfl, rfl⟩)
            go_roundg k
            case measure => omega
            case rel => exact ⟨i + 1, n + bt s i % 128 * 128 ^ i.toNat, by first | rfl | simp, rfl, by omega, by omega, by omega, HP, HA', by omega, rfl⟩
      · have hA := HA.out
        simp only [numL, if_pos hlt, if_neg hok] at hA
        have HR := Aside0.mk hA
        clear hA HA
        have c : (decide (i < 9) = false ∧ decide (bt s i ≤ 1) = false) ∨ (decide (i < 9) = true ∧ (i == 0) = false ∧ (bt s i != 0) = false) ∨ (decide (i < 9) = false ∧ decide (bt s i ≤ 1) = true ∧ (i == 0) = false ∧ (bt s i != 0) = false) := by
          simp only [decide_eq_false_iff_not, decide_eq_true_eq, beq_eq_false_iff_ne, bne_eq_false_iff_eq]
          omega
        clear hok
        rcases c with ⟨c1, c2⟩ | ⟨c1, c2, c3⟩ | ⟨c1, c2, c3, c4⟩
        all_goals
          go_wp2_with (first | (go_at_call 100; (with_reducible refine (must_ok 2 _).mono ?_); rintro e w' ⟨rfl, rfl⟩) | (go_at_call 100; (with_reducible refine (must_no 3 _).mono ?_); rintro e w' ⟨rfl, rfl⟩))
          exact ⟨rfl, .inr ⟨by rw [← HR.out]; decide, by rw [← HR.out], rfl⟩⟩
    · have hlt' : decide (i < (s.size : Int)) = false := decide_eq_false hlt
      have hA := HA.out
      simp only [numL, if_neg hlt] at hA
      have HR := Aside0.mk hA
      clear hA HA
      go_wp2_with (go_at_call 100; refine (must_no _ _).mono ?_; rintro e w' ⟨rfl, rfl⟩)
      exact ⟨rfl, .inr ⟨by rw [← HR.out]; decide, by rw [← HR.out], rfl⟩⟩
set_option maxRecDepth 100000 in
theorem read_skip (g : Nat) (s : ByteArray) (c : Nat) (k : Int) (caps : Array Value) (w : World) (hk : k ≠ 0)
    (hI : w.heap[g]? = some (.cells #[.string s, .int .i64 k] 120 (0, 0))) :
    Calls Try.prog 98 #[.pointer (some ⟨g, 0, none⟩), .func (.func c) #[] caps] w fun e w' => e = .returned (.tuple #[]) ∧ w' = w.alloc (.cells #[.pointer (some ⟨g, 0, none⟩)] 85) := by
  have HI := blk_alloc hI (.cells #[.pointer (some ⟨g, 0, none⟩)] 85)
  have h1 := cellS120_1 HI
  have hk' := bne_iff_ne.mpr hk
  clear HI hI hk
  go_enter_defers Try.func98, Try.ntmps98
  go_wp2_with fail
  exact ⟨_, by simp [results, Try.results98, go_sem], rfl, rfl⟩
def pack_Reader_Num.f (s : ByteArray) (k : Int) : Option (Int × ByteArray × Int) :=
  if s.size ≤ 9223372036854775000 then
    (if k = 0 then (if (numL s 10 0 0).1 = 0 then some ((numL s 10 0 0).2.1, s.extract (numL s 10 0 0).2.2.toNat s.size, 0) else some (0, s, (numL s 10 0 0).1))
    else some (0, s, k)) else none
theorem num_fn38 (args : Array Value) (W : World) : (callFunc 99 args).run Try.prog W = .ok (.enter 99 args) W := by
  simp [go_sem, Try.func99]
set_option maxHeartbeats 8000000 in
set_option maxRecDepth 100000 in
theorem pack_Reader_Num.calls (g : Nat) (s0_0 : ByteArray) (s0_1 : Int) (r1 : Int) (r2 : ByteArray) (r3 : Int) (w0 w : World) (hI : IsS120 w0 w g s0_0 s0_1) (hB : Below w0.heap.size w0 w) (h : pack_Reader_Num.f s0_0 s0_1 = some (r1, r2, r3)) :
    Calls Try.prog 81 #[.pointer (some ⟨g, 0, none⟩)] w fun e w' => e = .returned (.int .u64 r1) ∧ IsS120 w0 w' g r2 r3 ∧ Below w0.heap.size w0 w' ∧ KeepBut w w' g none := by
  have hmf : ∀ (fn : Fn) (first cap : Array Value) (w : World), (Instr.makeFunc fn first cap).run Try.prog w = .ok (.func fn first cap) w := fun _ _ _ _ => rfl
  obtain ⟨hg, hge⟩ := hI
  have hlt := blk_lt hg
  have hg1 := blk_alloc hg (.cells #[.int .u64 0] 51)
  have hsz := hB.size
  unfold pack_Reader_Num.f at h
  by_cases hs : s0_0.size ≤ 9223372036854775000
  · rw [if_pos hs] at h
    by_cases hk : s0_1 = 0
    · subst hk
      rw [if_pos rfl] at h
      by_cases hR : (numL s0_0 10 0 0).1 = 0
      · rw [if_pos hR] at h
        simp only [Option.some.injEq, Prod.mk.injEq] at h
        obtain ⟨rfl, rfl, rfl⟩ := h
        have ho : (w.alloc (.cells #[.int .u64 0] 51)).heap[w.heap.size]? = some (.cells #[.int .u64 0] 51 (0, 0)) := blk_new w _
        have ho1 := blk_alloc ho (.cells #[.pointer (some ⟨g, 0, none⟩)] 85)
        have hg2 := blk_alloc hg1 (.cells #[.pointer (some ⟨g, 0, none⟩)] 85)
        have hb2 := blk_new (w.alloc (.cells #[.int .u64 0] 51)) (.cells #[.pointer (some ⟨g, 0, none⟩)] 85)
        have hsA : (w.alloc (.cells #[.int .u64 0] 51)).heap.size = w.heap.size + 1 := by simp
        have hnum := fun n => num1_any s0_0 ⟨w.heap.size, 0, none⟩ (((w.alloc (.cells #[.int .u64 0] 51)).alloc (.cells #[.pointer (some ⟨g, 0, none⟩)] 85)).drewN n) 0 hs ((blk_cell (blk_drewN ho1 n) 0).trans rfl) (blk_frozen (blk_drewN ho1 n) 0)
        have HC := Aside0.mk (read_ret g s0_0 (s0_0.extract (numL s0_0 10 0 0).2.2.toNat s0_0.size) 99 #[.pointer (some ⟨w.heap.size, 0, none⟩)] (w.alloc (.cells #[.int .u64 0] 51))
          (fun w' => ∃ n, w' = ((((w.alloc (.cells #[.int .u64 0] 51)).alloc (.cells #[.pointer (some ⟨g, 0, none⟩)] 85)).drewN n).setCell ⟨w.heap.size, 0, none⟩ (.int .u64 (numL s0_0 10 0 0).2.1))) hg1
          (fun n => (hnum n).mono (by
            rintro e w' (⟨_, rfl, rfl⟩ | ⟨hne, _⟩)
            · exact ⟨rfl, n, rfl⟩
            · exact absurd hR hne))
          (num_fn38 _) (by
            rintro w' ⟨n, rfl⟩
            exact ⟨blk_far (blk_drewN hg2 n) (by simp; omega) _, blk_far (blk_drewN hb2 n) (by simp) _⟩))
        have HB := Aside0.mk hB
        have HG := Aside0.mk hg2
        have HO := Aside0.mk ho1
        have HL := Aside0.mk hlt
        have HE := Aside0.mk hge
        have HZ := Aside0.mk hsz
        clear hB hg hg1 ho ho1 hg2 hb2 hnum hsA hlt hge hsz
        go_enter Try.func81, Try.ntmps81
        go_wp2_with (go_at_call 98; refine HC.out.mono ?_; rintro e w' ⟨rfl, w1, ⟨n, rfl⟩, hw⟩; have hcell : w'.cell? ⟨w.heap.size, 0, none⟩ = some (.int .u64 (numL s0_0 10 0 0).2.1) := (by have := HL.out; rw [hw]; exact (blk_cell (blk_far (blk_set (blk_drewN HO.out n) 0 _) (by simp; omega) _) 0).trans rfl); have HW := Aside0.mk hw; clear hw)
        go_ret
        have hw := HW.out
        have hlt := HL.out
        refine ⟨rfl, ⟨?_, HE.out⟩, ?_, ?_⟩ <;> rw [hw]
        · exact blk_put (blk_far (blk_drewN HG.out n) (by simp; omega) _) 0 _ rfl
        · exact below_set (below_set (pw_below_drewN (below_alloc (below_alloc HB.out _) _) n) HZ.out) HE.out
        · exact KeepBut.set_ (keep_far (keep_drewN (keep_alloc (keep_alloc (KeepBut.refl _ _ _) _) _) n) (Nat.le_refl _) _) 0 _
      · rw [if_neg hR] at h
        simp only [Option.some.injEq, Prod.mk.injEq] at h
        obtain ⟨rfl, rfl, rfl⟩ := h
        have ho : (w.alloc (.cells #[.int .u64 0] 51)).heap[w.heap.size]? = some (.cells #[.int .u64 0] 51 (0, 0)) := blk_new w _
        have ho1 := blk_alloc ho (.cells #[.pointer (some ⟨g, 0, none⟩)] 85)
        have hg2 := blk_alloc hg1 (.cells #[.pointer (some ⟨g, 0, none⟩)] 85)
        have hb2 := blk_new (w.alloc (.cells #[.int .u64 0] 51)) (.cells #[.pointer (some ⟨g, 0, none⟩)] 85)
        have hsA : (w.alloc (.cells #[.int .u64 0] 51)).heap.size = w.heap.size + 1 := by simp
        have hnum := fun n => num1_any s0_0 ⟨w.heap.size, 0, none⟩ (((w.alloc (.cells #[.int .u64 0] 51)).alloc (.cells #[.pointer (some ⟨g, 0, none⟩)] 85)).drewN n) 0 hs ((blk_cell (blk_drewN ho1 n) 0).trans rfl) (blk_frozen (blk_drewN ho1 n) 0)
        have HC := Aside0.mk (read_panics g s0_0 99 (numL s0_0 10 0 0).1 #[.pointer (some ⟨w.heap.size, 0, none⟩)] (w.alloc (.cells #[.int .u64 0] 51))
          (fun w' => ∃ n, w' = ((w.alloc (.cells #[.int .u64 0] 51)).alloc (.cells #[.pointer (some ⟨g, 0, none⟩)] 85)).drewN n) hg1
          (fun n => (hnum n).mono (by
            rintro e w' (⟨hne, _⟩ | ⟨_, rfl, rfl⟩)
            · exact absurd hne hR
            · exact ⟨rfl, n, rfl⟩))
          (num_fn38 _) (by
            rintro w' ⟨n, rfl⟩
            exact ⟨blk_drewN hg2 n, blk_drewN hb2 n⟩))
        have HB := Aside0.mk hB
        have HG := Aside0.mk hg2
        have HO := Aside0.mk ho1
        have HL := Aside0.mk hlt
        have HE := Aside0.mk hge
        have HZ := Aside0.mk hsz
        clear hB hg hg1 ho ho1 hg2 hb2 hnum hsA hlt hge hsz
        go_enter Try.func81, Try.ntmps81
        go_wp2_with (go_at_call 98; refine HC.out.mono ?_; rintro e w' ⟨rfl, w1, m, ⟨n, rfl⟩, hw⟩; have hcell : w'.cell? ⟨w.heap.size, 0, none⟩ = some (.int .u64 0) := (by have := HL.out; rw [hw]; exact (blk_cell (blk_far (blk_drewN (blk_drewN HO.out n) m) (by simp; omega) _) 0).trans rfl); have HW := Aside0.mk hw; clear hw)
        go_ret
        have hw := HW.out
        have hlt := HL.out
        refine ⟨rfl, ⟨?_, HE.out⟩, ?_, ?_⟩ <;> rw [hw]
        · exact blk_put (blk_drewN (blk_drewN HG.out n) m) 1 _ rfl
        · exact below_set (pw_below_drewN (pw_below_drewN (below_alloc (below_alloc HB.out _) _) n) m) HE.out
        · exact KeepBut.set_ (keep_drewN (keep_drewN (keep_alloc (keep_alloc (KeepBut.refl _ _ _) _) _) n) m) 1 _
    · rw [if_neg hk] at h
      simp only [Option.some.injEq, Prod.mk.injEq] at h
      obtain ⟨rfl, rfl, rfl⟩ := h
      have HB := Aside0.mk hB
      have HG := Aside0.mk hg
      have HG1 := Aside0.mk hg1
      have HC := Aside0.mk (read_skip g s0_0 99 s0_1 #[.pointer (some ⟨w.heap.size, 0, none⟩)] _ hk hg1)
      clear hB hg hg1
      go_enter Try.func81, Try.ntmps81
      go_wp2_with (go_at_call 98; refine HC.out.mono ?_; rintro e w' ⟨rfl, rfl⟩)
      go_ret
      refine ⟨by simp, ⟨?_, hge⟩, ?_, ?_⟩
      · exact blk_alloc HG1.out _
      · exact below_alloc (below_alloc HB.out _) _
      · exact keep_alloc (keep_alloc (KeepBut.refl _ _ _) _) _
  · rw [if_neg hs] at h
    cases h
theorem pack_Reader_Err_any (g : Nat) (s : ByteArray) (k : Int) (w : World) (hI : w.heap[g]? = some (.cells #[.string s, .int .i64 k] 120 (0, 0))) :
    Calls Try.prog 82 #[.pointer (some ⟨g, 0, none⟩)] w fun e w' => e = .returned (.int .i64 k) ∧ w' = w := by
  have h1 := cellS120_1 hI
  go_enter Try.func82, Try.ntmps82
  go_wp2
  go_ret
  exact ⟨rfl, rfl⟩
def pack_Reader_Err.f (s : ByteArray) (k : Int) : Option (Int × ByteArray × Int) := some (k, s, k)
theorem pack_Reader_Err.calls (g : Nat) (s0_0 : ByteArray) (s0_1 : Int) (r1 : Int) (r2 : ByteArray) (r3 : Int) (w0 w : World) (hI : IsS120 w0 w g s0_0 s0_1) (hB : Below w0.heap.size w0 w) (h : pack_Reader_Err.f s0_0 s0_1 = some (r1, r2, r3)) :
    Calls Try.prog 82 #[.pointer (some ⟨g, 0, none⟩)] w fun e w' => e = .returned (.int .i64 r1) ∧ IsS120 w0 w' g r2 r3 ∧ Below w0.heap.size w0 w' ∧ KeepBut w w' g none := by
  simp only [pack_Reader_Err.f, Option.some.injEq, Prod.mk.injEq] at h
  obtain ⟨rfl, rfl, rfl⟩ := h
  refine (pack_Reader_Err_any g s0_0 s0_1 w hI.1).mono ?_
  rintro e w' ⟨rfl, rfl⟩
  exact ⟨rfl, hI, hB, KeepBut.refl _ _ _⟩
theorem pack_Reader_Left_any (g : Nat) (s : ByteArray) (k : Int) (w : World) (hI : w.heap[g]? = some (.cells #[.string s, .int .i64 k] 120 (0, 0))) :
    Calls Try.prog 83 #[.pointer (some ⟨g, 0, none⟩)] w fun e w' => e = .returned (.int .i64 s.size) ∧ w' = w := by
  have h1 := cellS120_0 hI
  go_enter Try.func83, Try.ntmps83
  go_wp2
  go_ret
  exact ⟨rfl, rfl⟩
def pack_Reader_Left.f (s : ByteArray) (k : Int) : Option (Int × ByteArray × Int) := some ((s.size : Int), s, k)
theorem pack_Reader_Left.calls (g : Nat) (s0_0 : ByteArray) (s0_1 : Int) (r1 : Int) (r2 : ByteArray) (r3 : Int) (w0 w : World) (hI : IsS120 w0 w g s0_0 s0_1) (hB : Below w0.heap.size w0 w) (h : pack_Reader_Left.f s0_0 s0_1 = some (r1, r2, r3)) :
    Calls Try.prog 83 #[.pointer (some ⟨g, 0, none⟩)] w fun e w' => e = .returned (.int .i64 r1) ∧ IsS120 w0 w' g r2 r3 ∧ Below w0.heap.size w0 w' ∧ KeepBut w w' g none := by
  simp only [pack_Reader_Left.f, Option.some.injEq, Prod.mk.injEq] at h
  obtain ⟨rfl, rfl, rfl⟩ := h
  refine (pack_Reader_Left_any g s0_0 s0_1 w hI.1).mono ?_
  rintro e w' ⟨rfl, rfl⟩
  exact ⟨rfl, hI, hB, KeepBut.refl _ _ _⟩
def pack_Reader_Take.f (s : ByteArray) (k : Int) (a1 : Int) : Option (ByteArray × ByteArray × Int) :=
  if k = 0 then (if 0 ≤ a1 ∧ a1 ≤ (s.size : Int) then some (s.extract 0 a1.toNat, s.extract a1.toNat s.size, 0) else some ((⟨#[]⟩ : ByteArray), s, 2)) else some ((⟨#[]⟩ : ByteArray), s, k)
theorem take_fn40 (args : Array Value) (W : World) : (callFunc 101 args).run Try.prog W = .ok (.enter 101 args) W := by
  simp [go_sem, Try.func101]
set_option maxHeartbeats 8000000 in
set_option maxRecDepth 100000 in
theorem pack_Reader_Take.calls (g : Nat) (s0_0 : ByteArray) (s0_1 : Int) (a1 : Int) (r1 : ByteArray) (r2 : ByteArray) (r3 : Int) (w0 w : World) (hI : IsS120 w0 w g s0_0 s0_1) (hB : Below w0.heap.size w0 w) (h : pack_Reader_Take.f s0_0 s0_1 a1 = some (r1, r2, r3)) :
    Calls Try.prog 84 #[.pointer (some ⟨g, 0, none⟩), .int .i64 a1] w fun e w' => e = .returned (.string r1) ∧ IsS120 w0 w' g r2 r3 ∧ Below w0.heap.size w0 w' ∧ KeepBut w w' g none := by
  have hmf : ∀ (fn : Fn) (first cap : Array Value) (w : World), (Instr.makeFunc fn first cap).run Try.prog w = .ok (.func fn first cap) w := fun _ _ _ _ => rfl
  obtain ⟨hg, hge⟩ := hI
  have hlt := blk_lt hg
  have hg1 := blk_alloc (blk_alloc hg (.cells #[.int .i64 a1] 3)) (.cells #[.string ⟨#[]⟩] 9)
  have hsz := hB.size
  have hn := blk_alloc (blk_new w (.cells #[.int .i64 a1] 3)) (.cells #[.string ⟨#[]⟩] 9)
  have ho : ((w.alloc (.cells #[.int .i64 a1] 3)).alloc (.cells #[.string ⟨#[]⟩] 9)).heap[w.heap.size + 1]? = some (.cells #[.string ⟨#[]⟩] 9 (0, 0)) := by
    have := blk_new (w.alloc (.cells #[.int .i64 a1] 3)) (.cells #[.string ⟨#[]⟩] 9)
    simpa using this
  have hsA : ((w.alloc (.cells #[.int .i64 a1] 3)).alloc (.cells #[.string ⟨#[]⟩] 9)).heap.size = w.heap.size + 2 := by simp
  have HBA := below_alloc (below_alloc hB (.cells #[.int .i64 a1] 3)) (.cells #[.string ⟨#[]⟩] 9)
  have HKA := keep_alloc (keep_alloc (KeepBut.refl w g none) (.cells #[.int .i64 a1] 3)) (.cells #[.string ⟨#[]⟩] 9)
  obtain ⟨wA, hwA⟩ : ∃ wA, (w.alloc (.cells #[.int .i64 a1] 3)).alloc (.cells #[.string ⟨#[]⟩] 9) = wA := ⟨_, rfl⟩
  rw [hwA] at hg1 hn ho hsA HBA HKA
  have ho1 := blk_alloc ho (.cells #[.pointer (some ⟨g, 0, none⟩)] 85)
  have hn1 := blk_alloc hn (.cells #[.pointer (some ⟨g, 0, none⟩)] 85)
  have hg2 := blk_alloc hg1 (.cells #[.pointer (some ⟨g, 0, none⟩)] 85)
  have hb2 := blk_new wA (.cells #[.pointer (some ⟨g, 0, none⟩)] 85)
  have HWA := Aside0.mk hwA
  have HG := Aside0.mk hg2
  have HO := Aside0.mk ho1
  have HL := Aside0.mk hlt
  have HE := Aside0.mk hge
  have HZ := Aside0.mk hsz
  unfold pack_Reader_Take.f at h
  by_cases hk : s0_1 = 0
  · subst hk
    rw [if_pos rfl] at h
    by_cases hR : 0 ≤ a1 ∧ a1 ≤ (s0_0.size : Int)
    · rw [if_pos hR] at h
      simp only [Option.some.injEq, Prod.mk.injEq] at h
      obtain ⟨rfl, rfl, rfl⟩ := h
      have HC := Aside0.mk (read_ret g s0_0 (s0_0.extract a1.toNat s0_0.size) 101 #[.pointer (some ⟨w.heap.size, 0, none⟩), .pointer (some ⟨w.heap.size + 1, 0, none⟩)] wA
        (fun w' => ∃ n, w' = (((wA.alloc (.cells #[.pointer (some ⟨g, 0, none⟩)] 85)).drewN n).setCell ⟨w.heap.size + 1, 0, none⟩ (.string (s0_0.extract 0 a1.toNat)))) hg1
        (fun n => (take1_ok s0_0 _ a1 ⟨w.heap.size, 0, none⟩ ⟨w.heap.size + 1, 0, none⟩ ((wA.alloc (.cells #[.pointer (some ⟨g, 0, none⟩)] 85)).drewN n) ((blk_cell (blk_drewN hn1 n) 0).trans rfl) ((blk_cell (blk_drewN ho1 n) 0).trans rfl) (blk_frozen (blk_drewN ho1 n) 0) (by simp) hR.1 hR.2).mono (by
          rintro e w' ⟨rfl, rfl⟩
          exact ⟨rfl, n, rfl⟩))
        (take_fn40 _) (by
          rintro w' ⟨n, rfl⟩
          exact ⟨blk_far (blk_drewN hg2 n) (by simp; omega) _, blk_far (blk_drewN hb2 n) (by simp; omega) _⟩))
      clear hB hg hg1 ho ho1 hg2 hb2 hlt hge hsz hn hn1 hsA hR
      subst hwA
      go_enter Try.func84, Try.ntmps84
      go_wp2_with (go_at_call 98; refine HC.out.mono ?_; rintro e w' ⟨rfl, w1, ⟨n, rfl⟩, hw⟩; have hcell : w'.cell? ⟨w.heap.size + 1, 0, none⟩ = some (.string (s0_0.extract 0 a1.toNat)) := (by have := HL.out; rw [hw]; exact (blk_cell (blk_far (blk_set (blk_drewN HO.out n) 0 _) (by simp; omega) _) 0).trans rfl); have HW := Aside0.mk hw; clear hw)
      go_ret
      have hw := HW.out
      have hlt := HL.out
      have hz := HZ.out
      refine ⟨rfl, ⟨?_, HE.out⟩, ?_, ?_⟩ <;> rw [hw]
      · exact blk_put (blk_far (blk_drewN HG.out n) (by simp; omega) _) 0 _ rfl
      · exact below_set (below_set (pw_below_drewN (below_alloc HBA _) n) (by omega)) HE.out
      · exact KeepBut.set_ (keep_far (keep_drewN (keep_alloc HKA _) n) (by simp) _) 0 _
    · rw [if_neg hR] at h
      simp only [Option.some.injEq, Prod.mk.injEq] at h
      obtain ⟨rfl, rfl, rfl⟩ := h
      have HC := Aside0.mk (read_panics g s0_0 101 2 #[.pointer (some ⟨w.heap.size, 0, none⟩), .pointer (some ⟨w.heap.size + 1, 0, none⟩)] wA
        (fun w' => ∃ n, w' = (wA.alloc (.cells #[.pointer (some ⟨g, 0, none⟩)] 85)).drewN n) hg1
        (fun n => (take1_no s0_0 ⟨#[]⟩ a1 ⟨w.heap.size, 0, none⟩ ⟨w.heap.size + 1, 0, none⟩ ((wA.alloc (.cells #[.pointer (some ⟨g, 0, none⟩)] 85)).drewN n) ((blk_cell (blk_drewN hn1 n) 0).trans rfl) (by omega)).mono (by
          rintro e w' ⟨rfl, rfl⟩
          exact ⟨rfl, n, rfl⟩))
        (take_fn40 _) (by
          rintro w' ⟨n, rfl⟩
          exact ⟨blk_drewN hg2 n, blk_drewN hb2 n⟩))
      clear hB hg hg1 ho ho1 hg2 hb2 hlt hge hsz hn hn1 hsA hR
      subst hwA
      go_enter Try.func84, Try.ntmps84
      go_wp2_with (go_at_call 98; refine HC.out.mono ?_; rintro e w' ⟨rfl, w1, m, ⟨n, rfl⟩, hw⟩; have hcell : w'.cell? ⟨w.heap.size + 1, 0, none⟩ = some (.string ⟨#[]⟩) := (by have := HL.out; rw [hw]; exact (blk_cell (blk_far (blk_drewN (blk_drewN HO.out n) m) (by simp; omega) _) 0).trans rfl); have HW := Aside0.mk hw; clear hw)
      go_ret
      have hw := HW.out
      have hlt := HL.out
      refine ⟨rfl, ⟨?_, HE.out⟩, ?_, ?_⟩ <;> rw [hw]
      · exact blk_put (blk_drewN (blk_drewN HG.out n) m) 1 _ rfl
      · exact below_set (pw_below_drewN (pw_below_drewN (below_alloc HBA _) n) m) HE.out
      · exact KeepBut.set_ (keep_drewN (keep_drewN (keep_alloc HKA _) n) m) 1 _
  · rw [if_neg hk] at h
    simp only [Option.some.injEq, Prod.mk.injEq] at h
    obtain ⟨rfl, rfl, rfl⟩ := h
    have HC := Aside0.mk (read_skip g s0_0 101 s0_1 #[.pointer (some ⟨w.heap.size, 0, none⟩), .pointer (some ⟨w.heap.size + 1, 0, none⟩)] wA hk hg1)
    clear hB hg hg1 ho ho1 hg2 hb2 hlt hge hsz hn hn1 hsA
    subst hwA
    go_enter Try.func84, Try.ntmps84
    go_wp2_with (go_at_call 98; refine HC.out.mono ?_; rintro e w' ⟨rfl, hw⟩; have hcell : w'.cell? ⟨w.heap.size + 1, 0, none⟩ = some (.string ⟨#[]⟩) := (by rw [hw]; exact (blk_cell HO.out 0).trans rfl); have HW := Aside0.mk hw; clear hw)
    go_ret
    have hw := HW.out
    refine ⟨rfl, ⟨?_, HE.out⟩, ?_, ?_⟩ <;> rw [hw]
    · exact HG.out
    · exact below_alloc HBA _
    · exact keep_alloc HKA _
mutual
def word_Take.j0 : Nat → ByteArray → Int → Int → Bool → Option (ByteArray × Int × Int)
  | 0, _, _, _, _ => none
  | k + 1, x0, x1, x2, x19 => if x19 = true then (some ((⟨#[]⟩ : ByteArray), 0, 1)) else (if 0 ≤ x1 then (if x1 ≤ (x0.size : Int) then ((pack_New.f (x0.extract (x1 : Int).toNat x0.size)).bind fun bt115 => ((pack_Reader_Num.f bt115.1 bt115.2).bind fun bt118 => ((pack_Reader_Err.f bt118.2.1 bt118.2.2).bind fun bt121 => (if bt121.1 = 0 then (if x2 < 0 then (word_Take.j1 k x0 bt118.1 true bt121.2.1 bt121.2.2) else (word_Take.j1 k x0 bt118.1 (decide (bt118.1 > (IntKind.u64.wrap (x2)))) bt121.2.1 bt121.2.2)) else ((pack_Reader_Err.f bt121.2.1 bt121.2.2).bind fun bt127 => (some ((⟨#[]⟩ : ByteArray), 0, bt127.1))))))) else (none)) else (none))
def word_Take.j1 : Nat → ByteArray → Int → Bool → ByteArray → Int → Option (ByteArray × Int × Int)
  | 0, _, _, _, _, _ => none
  | k + 1, x0, x10, x32, x118000, x118001 => if x32 = true then (some ((⟨#[]⟩ : ByteArray), 0, 10)) else ((pack_Reader_Left.f x118000 x118001).bind fun bt124 => (if x10 > (IntKind.u64.wrap (bt124.1)) then (some ((⟨#[]⟩ : ByteArray), 0, 2)) else ((pack_Reader_Take.f bt124.2.1 bt124.2.2 (wrap64 (x10))).bind fun bt130 => ((word_Valid.f bt130.1).bind fun t133 => (if t133 = true then ((pack_Reader_Left.f bt130.2.1 bt130.2.2).bind fun bt134 => (some (bt130.1, wrap64 ((x0.size : Int) - bt134.1), 0))) else (some ((⟨#[]⟩ : ByteArray), 0, 4)))))))
end
def word_Take.f (k : Nat) (a0 : ByteArray) (a1 : Int) (a2 : Int) : Option (ByteArray × Int × Int) := if a1 < 0 then (word_Take.j0 k a0 a1 a2 true) else (word_Take.j0 k a0 a1 a2 (decide (a1 > (a0.size : Int))))
theorem word_Take.mono_l : ∀ k, (∀ y0 y1 y2 y3, LeO (word_Take.j0 k y0 y1 y2 y3) (word_Take.j0 (k + 1) y0 y1 y2 y3)) ∧ (∀ y0 y1 y2 y3 y4, LeO (word_Take.j1 k y0 y1 y2 y3 y4) (word_Take.j1 (k + 1) y0 y1 y2 y3 y4))
  | 0 => ⟨fun _ _ _ _ r h => by simp [word_Take.j0] at h, fun _ _ _ _ _ r h => by simp [word_Take.j1] at h⟩
  | k + 1 => by
    obtain ⟨ih0, ih1⟩ := word_Take.mono_l k
    refine ⟨?_, ?_⟩
    · intro y0 y1 y2 y3
      unfold word_Take.j0
      repeat' first
      | (with_reducible exact ih0 _ _ _ _)
      | (with_reducible exact ih1 _ _ _ _ _)
      | (with_reducible exact LeO.refl _)
      | (with_reducible exact LeO.none _)
      | (with_reducible refine LeO.ite ?_ ?_)
      | (with_reducible refine LeO.bind ?_ (fun _ => ?_))
      | exact ih0 _ _ _ _
      | exact ih1 _ _ _ _ _
      | exact LeO.none _
      | refine LeO.ite ?_ ?_
      | refine LeO.bind ?_ (fun _ => ?_)
    · intro y0 y1 y2 y3 y4
      unfold word_Take.j1
      repeat' first
      | (with_reducible exact ih0 _ _ _ _)
      | (with_reducible exact ih1 _ _ _ _ _)
      | (with_reducible exact LeO.refl _)
      | (with_reducible exact LeO.none _)
      | (with_reducible refine LeO.ite ?_ ?_)
      | (with_reducible refine LeO.bind ?_ (fun _ => ?_))
      | exact ih0 _ _ _ _
      | exact ih1 _ _ _ _ _
      | exact LeO.none _
      | refine LeO.ite ?_ ?_
      | refine LeO.bind ?_ (fun _ => ?_)
theorem word_Take.mono : ∀ a0 a1 a2 k, LeO (word_Take.f k a0 a1 a2) (word_Take.f (k + 1) a0 a1 a2) := by
  intro a0 a1 a2 k
  obtain ⟨ih0, ih1⟩ := word_Take.mono_l k
  unfold word_Take.f
  repeat' first
      | (with_reducible exact ih0 _ _ _ _)
      | (with_reducible exact ih1 _ _ _ _ _)
      | (with_reducible exact LeO.refl _)
      | (with_reducible exact LeO.none _)
      | (with_reducible refine LeO.ite ?_ ?_)
      | (with_reducible refine LeO.bind ?_ (fun _ => ?_))
      | exact ih0 _ _ _ _
      | exact ih1 _ _ _ _ _
      | exact LeO.none _
      | refine LeO.ite ?_ ?_
      | refine LeO.bind ?_ (fun _ => ?_)
set_option maxHeartbeats 8000000 in
set_option maxRecDepth 100000 in
theorem word_Take.calls (k : Nat) (a0 : ByteArray) (a1 : Int) (a2 : Int) (r1 : ByteArray) (r2 : Int) (r3 : Int) (w : World) (h : word_Take.f k a0 a1 a2 = some (r1, r2, r3)) :
    Calls Try.prog 35 #[.string a0, .int .i64 a1, .int .i64 a2] w fun e w' => e = .returned (.tuple #[.string r1, .int .i64 r2, .int .i64 r3]) ∧ Below w.heap.size w w' := by
  have HB := Aside0.mk (Below.refl w.heap.size w)
  have H : (if a1 < 0 then (word_Take.j0 k a0 a1 a2 true) else (word_Take.j0 k a0 a1 a2 (decide (a1 > (a0.size : Int))))) = some (r1, r2, r3) := h
  clear h
  have HC4 := Aside0.mk H
  clear H
  go_enter Try.func35, Try.ntmps35
  go_upto_region 1 with (fail)
  go_cut [19] (fun v19 wc => ∃ (kq : Nat) (x19_3 : Bool), v19 = .bool x19_3 ∧ Aside0 (word_Take.j0 kq a0 a1 a2 x19_3 = some (r1, r2, r3)) ∧ Aside0 (kq ≤ k) ∧ Aside0 (Below w.heap.size w wc))
  case first =>
    have H := HC4.out
    clear HC4
    by_cases c5 : a1 < 0
    · rw [if_pos c5] at H
      have c5b0 : decide (a1 < 0) = true := decide_eq_true c5
      clear c5
      (first | rw [c5b0] | (simp only [i64_w, i32_w]; rw [c5b0]) | skip)
      have H' := Aside0.mk H
      clear H
      go_wp2
      go_meet
      case rel => exact ⟨_, (true), (by first | rfl | (simp; done) | (simp [*]; done)), H', ⟨by first | omega | exact Nat.le_refl _⟩, ⟨by repeat (first | (with_reducible first | exact HB.out | apply below_alloc | apply pw_below_drewN | apply below_drew1) | exact HB.out)⟩⟩
    · rw [if_neg c5] at H
      have c5b0 : decide (a1 < 0) = false := decide_eq_false c5
      clear c5
      (first | rw [c5b0] | (simp only [i64_w, i32_w]; rw [c5b0]) | skip)
      have H' := Aside0.mk H
      clear H
      go_wp2
      go_meet
      case rel => exact ⟨_, (decide (a1 > (a0.size : Int))), (by first | rfl | (simp; done) | (simp [*]; done)), H', ⟨by first | omega | exact Nat.le_refl _⟩, ⟨by repeat (first | (with_reducible first | exact HB.out | apply below_alloc | apply pw_below_drewN | apply below_drew1) | exact HB.out)⟩⟩
  case rest =>
    clear HC4
    try clear p2
    try clear c3
    try clear c5
    try clear c5b0
    obtain ⟨kq, x19_3, rfl, HA, HJ3, HB⟩ := hcut
    cases kq with
    | zero => exact absurd HA.out (by simp [word_Take.j0])
    | succ kj3 =>
      have H := HA.out
      clear HA
      simp only [word_Take.j0] at H
      by_cases c6 : x19_3 = true
      · subst c6
        have H1 : (some ((⟨#[]⟩ : ByteArray), 0, 1)) = some (r1, r2, r3) := by rw [if_pos rfl] at H; exact H
        clear H
        have H := H1
        clear H1
        simp only [Option.some.injEq, Prod.mk.injEq] at H
        obtain ⟨rfl, rfl, rfl⟩ := H
        go_wp2
        go_ret3
        exact ⟨by first | rfl | (simp [errW_none, errW_some] <;> rfl) | (simp [*, errW_none, errW_some] <;> rfl), by repeat (first | (with_reducible first | exact HB.out | apply below_alloc | apply pw_below_drewN | apply below_drew1) | exact HB.out)⟩
      · replace c6 := Bool.eq_false_iff.mpr c6
        subst c6
        have H1 : (if 0 ≤ a1 then (if a1 ≤ (a0.size : Int) then ((pack_New.f (a0.extract (a1 : Int).toNat a0.size)).bind fun bt115 => ((pack_Reader_Num.f bt115.1 bt115.2).bind fun bt118 => ((pack_Reader_Err.f bt118.2.1 bt118.2.2).bind fun bt121 => (if bt121.1 = 0 then (if a2 < 0 then (word_Take.j1 kj3 a0 bt118.1 true bt121.2.1 bt121.2.2) else (word_Take.j1 kj3 a0 bt118.1 (decide (bt118.1 > (IntKind.u64.wrap (a2)))) bt121.2.1 bt121.2.2)) else ((pack_Reader_Err.f bt121.2.1 bt121.2.2).bind fun bt127 => (some ((⟨#[]⟩ : ByteArray), 0, bt127.1))))))) else (none)) else (none)) = some (r1, r2, r3) := by rw [if_neg (show ¬ (false = true) by decide)] at H; exact H
        clear H
        have H := H1
        clear H1
        by_cases c7 : 0 ≤ a1
        · rw [if_pos c7] at H
          have c7b0 := eq_true c7
          have c7b1 : decide (0 ≤ a1) = true := decide_eq_true c7
          clear c7
          by_cases c8 : a1 ≤ (a0.size : Int)
          · rw [if_pos c8] at H
            have c8b0 := eq_true c8
            have c8b1 : decide (a1 ≤ (a0.size : Int)) = true := decide_eq_true c8
            clear c8
            replace H := Option.bind_eq_some_iff.mp H
            obtain ⟨⟨t115, t116⟩, A90, H⟩ := H
            replace H : ((pack_Reader_Num.f t115 t116).bind fun bt118 => ((pack_Reader_Err.f bt118.2.1 bt118.2.2).bind fun bt121 => (if bt121.1 = 0 then (if a2 < 0 then (word_Take.j1 kj3 a0 bt118.1 true bt121.2.1 bt121.2.2) else (word_Take.j1 kj3 a0 bt118.1 (decide (bt118.1 > (IntKind.u64.wrap (a2)))) bt121.2.1 bt121.2.2)) else ((pack_Reader_Err.f bt121.2.1 bt121.2.2).bind fun bt127 => (some ((⟨#[]⟩ : ByteArray), 0, bt127.1)))))) = some (r1, r2, r3) := H
            have A9 := Aside0.mk A90
            clear A90
            replace H := Option.bind_eq_some_iff.mp H
            obtain ⟨⟨t118, t119, t120⟩, A100, H⟩ := H
            replace H : ((pack_Reader_Err.f t119 t120).bind fun bt121 => (if bt121.1 = 0 then (if a2 < 0 then (word_Take.j1 kj3 a0 t118 true bt121.2.1 bt121.2.2) else (word_Take.j1 kj3 a0 t118 (decide (t118 > (IntKind.u64.wrap (a2)))) bt121.2.1 bt121.2.2)) else ((pack_Reader_Err.f bt121.2.1 bt121.2.2).bind fun bt127 => (some ((⟨#[]⟩ : ByteArray), 0, bt127.1))))) = some (r1, r2, r3) := H
            have A10 := Aside0.mk A100
            clear A100
            replace H := Option.bind_eq_some_iff.mp H
            obtain ⟨⟨t121, t122, t123⟩, A110, H⟩ := H
            replace H : (if t121 = 0 then (if a2 < 0 then (word_Take.j1 kj3 a0 t118 true t122 t123) else (word_Take.j1 kj3 a0 t118 (decide (t118 > (IntKind.u64.wrap (a2)))) t122 t123)) else ((pack_Reader_Err.f t122 t123).bind fun bt127 => (some ((⟨#[]⟩ : ByteArray), 0, bt127.1)))) = some (r1, r2, r3) := H
            have A11 := Aside0.mk A110
            clear A110
            by_cases c12 : t121 = 0
            · rw [if_pos c12] at H
              have c12b0 : (t121 == 0) = true := beq_iff_eq.mpr c12
              have c12b1 : (t121 != 0) = false := bne_eq_false_iff_eq.mpr c12
              clear c12
              have HC13 := Aside0.mk H
              clear H
              go_upto_region 7 with (first | ((with_reducible refine gate_callee (f := 80) rfl ?_); refine goesL_ (some 23) rfl rfl Try.func80 (by kernel_rfl) rfl #[.string (a0.extract (a1 : Int).toNat a0.size)] rfl (by (try simp only [List.map_toArray, List.map_cons, List.map_nil]); first | done | rfl | (simp only [List.length_drop, List.length_take]; rfl)) ?_; (with_reducible refine (pack_New.calls (a0.extract (a1 : Int).toNat a0.size) t115 t116 w _ ?side1 A9.out).mono ?_); (case side1 => repeat (first | (with_reducible first | exact HB.out | apply below_alloc | apply pw_below_drewN | apply below_drew1) | exact HB.out)); rintro e w14 ⟨g117, rfl, hi, hb, hb2⟩; refine ⟨_, rfl, ?_⟩; have n0_ := Aside0.mk (hb); have n1_ := Aside0.mk (hi); clear HB; have HB := n0_; have HI117 := n1_; clear n0_ n1_; (try clear hb); (try clear hb2); (try clear hk); (try clear hi)) | ((with_reducible refine gate_callee (f := 81) rfl ?_); refine goesL_ (some 25) rfl rfl Try.func81 (by kernel_rfl) rfl #[.pointer (some ⟨g117, 0, none⟩)] rfl (by (try simp only [List.map_toArray, List.map_cons, List.map_nil]); first | done | rfl | (simp only [List.length_drop, List.length_take]; rfl)) ?_; (with_reducible refine (pack_Reader_Num.calls g117 t115 t116 t118 t119 t120 w _ ?side1 ?side2 A10.out).mono ?_); (case side1 => repeat (first | (with_reducible first | exact HI117.out | apply IsS120.alloc | apply IsS120.drewN | apply IsS120.drew | apply IsS120.set_0 | apply IsS120.set_1) | exact HI117.out)); (case side2 => repeat (first | (with_reducible first | exact HB.out | apply below_alloc | apply pw_below_drewN | apply below_drew1 | refine below_set ?_ (IsS120.ge HI117.out)) | exact HB.out)); rintro e w15 ⟨rfl, hi, hb, hk⟩; refine ⟨_, rfl, ?_⟩; have n0_ := Aside0.mk (hb); have n1_ := Aside0.mk (hi); clear HB; clear HI117; have HB := n0_; have HI117 := n1_; clear n0_ n1_; (try clear hb); (try clear hb2); (try clear hk); (try clear hi)) | ((with_reducible refine gate_callee (f := 82) rfl ?_); refine goesL_ (some 28) rfl rfl Try.func82 (by kernel_rfl) rfl #[.pointer (some ⟨g117, 0, none⟩)] rfl (by (try simp only [List.map_toArray, List.map_cons, List.map_nil]); first | done | rfl | (simp only [List.length_drop, List.length_take]; rfl)) ?_; (with_reducible refine (pack_Reader_Err.calls g117 t119 t120 t121 t122 t123 w _ ?side1 ?side2 A11.out).mono ?_); (case side1 => repeat (first | (with_reducible first | exact HI117.out | apply IsS120.alloc | apply IsS120.drewN | apply IsS120.drew | apply IsS120.set_0 | apply IsS120.set_1) | exact HI117.out)); (case side2 => repeat (first | (with_reducible first | exact HB.out | apply below_alloc | apply pw_below_drewN | apply below_drew1 | refine below_set ?_ (IsS120.ge HI117.out)) | exact HB.out)); rintro e w16 ⟨rfl, hi, hb, hk⟩; refine ⟨_, rfl, ?_⟩; have n0_ := Aside0.mk (hb); have n1_ := Aside0.mk (hi); clear HB; clear HI117; have HB := n0_; have HI117 := n1_; clear n0_ n1_; (try clear hb); (try clear hb2); (try clear hk); (try clear hi)))
              (try simp only [Act.put, List.setIfInBounds_toArray, List.set_cons_zero, List.set_cons_succ])
              go_cut [32] (fun v32 wc => ∃ (kq : Nat) (x32_12 : Bool), v32 = .bool x32_12 ∧ Aside0 (word_Take.j1 kq a0 t118 x32_12 t122 t123 = some (r1, r2, r3)) ∧ Aside0 (kq ≤ kj3) ∧ Aside0 (IsS120 w wc g117 t122 t123) ∧ Aside0 (Below w.heap.size w wc))
              case first =>
                have H := HC13.out
                clear HC13
                by_cases c17 : a2 < 0
                · rw [if_pos c17] at H
                  have c17b0 : decide (a2 < 0) = true := decide_eq_true c17
                  clear c17
                  (first | rw [c17b0] | (simp only [i64_w, i32_w]; rw [c17b0]) | skip)
                  have H' := Aside0.mk H
                  clear H
                  go_wp2
                  go_meet
                  case rel => exact ⟨_, (true), (by first | rfl | (simp; done) | (simp [*]; done)), H', ⟨by have := HJ3.out; first | omega | exact Nat.le_refl _⟩, ⟨by repeat (first | (with_reducible first | exact HI117.out | apply IsS120.alloc | apply IsS120.drewN | apply IsS120.drew | apply IsS120.set_0 | apply IsS120.set_1) | exact HI117.out)⟩, ⟨by repeat (first | (with_reducible first | exact HB.out | apply below_alloc | apply pw_below_drewN | apply below_drew1 | refine below_set ?_ (IsS120.ge HI117.out)) | exact HB.out)⟩⟩
                · rw [if_neg c17] at H
                  have c17b0 : decide (a2 < 0) = false := decide_eq_false c17
                  clear c17
                  (first | rw [c17b0] | (simp only [i64_w, i32_w]; rw [c17b0]) | skip)
                  have H' := Aside0.mk H
                  clear H
                  go_wp2
                  go_meet
                  case rel => exact ⟨_, (decide (t118 > (IntKind.u64.wrap (a2)))), (by first | rfl | (simp; done) | (simp [*]; done)), H', ⟨by have := HJ3.out; first | omega | exact Nat.le_refl _⟩, ⟨by repeat (first | (with_reducible first | exact HI117.out | apply IsS120.alloc | apply IsS120.drewN | apply IsS120.drew | apply IsS120.set_0 | apply IsS120.set_1) | exact HI117.out)⟩, ⟨by repeat (first | (with_reducible first | exact HB.out | apply below_alloc | apply pw_below_drewN | apply below_drew1 | refine below_set ?_ (IsS120.ge HI117.out)) | exact HB.out)⟩⟩
              case rest =>
                clear HC13
                try clear c1
                try clear p2
                try clear c3
                try clear c5
                try clear c5b0
                try clear c6
                try clear c7
                try clear c7b0
                try clear c7b1
                try clear c8
                try clear c8b0
                try clear c8b1
                try clear c12
                try clear c12b0
                try clear c12b1
                try clear c17
                try clear c17b0
                try clear p2
                obtain ⟨kq, x32_12, rfl, HA, HJ12, HI117, HB⟩ := hcut
                cases kq with
                | zero => exact absurd HA.out (by simp [word_Take.j1])
                | succ kj12 =>
                  have H := HA.out
                  clear HA
                  simp only [word_Take.j1] at H
                  by_cases c18 : x32_12 = true
                  · subst c18
                    have H1 : (some ((⟨#[]⟩ : ByteArray), 0, 10)) = some (r1, r2, r3) := by rw [if_pos rfl] at H; exact H
                    clear H
                    have H := H1
                    clear H1
                    simp only [Option.some.injEq, Prod.mk.injEq] at H
                    obtain ⟨rfl, rfl, rfl⟩ := H
                    go_wp2
                    go_ret3
                    exact ⟨by first | rfl | (simp [errW_none, errW_some] <;> rfl) | (simp [*, errW_none, errW_some] <;> rfl), by repeat (first | (with_reducible first | exact HB.out | apply below_alloc | apply pw_below_drewN | apply below_drew1 | refine below_set ?_ (IsS120.ge HI117.out)) | exact HB.out)⟩
                  · replace c18 := Bool.eq_false_iff.mpr c18
                    subst c18
                    have H1 : ((pack_Reader_Left.f t122 t123).bind fun bt124 => (if t118 > (IntKind.u64.wrap (bt124.1)) then (some ((⟨#[]⟩ : ByteArray), 0, 2)) else ((pack_Reader_Take.f bt124.2.1 bt124.2.2 (wrap64 (t118))).bind fun bt130 => ((word_Valid.f bt130.1).bind fun t133 => (if t133 = true then ((pack_Reader_Left.f bt130.2.1 bt130.2.2).bind fun bt134 => (some (bt130.1, wrap64 ((a0.size : Int) - bt134.1), 0))) else (some ((⟨#[]⟩ : ByteArray), 0, 4))))))) = some (r1, r2, r3) := by rw [if_neg (show ¬ (false = true) by decide)] at H; exact H
                    clear H
                    have H := H1
                    clear H1
                    replace H := Option.bind_eq_some_iff.mp H
                    obtain ⟨⟨t124, t125, t126⟩, A190, H⟩ := H
                    replace H : (if t118 > (IntKind.u64.wrap (t124)) then (some ((⟨#[]⟩ : ByteArray), 0, 2)) else ((pack_Reader_Take.f t125 t126 (wrap64 (t118))).bind fun bt130 => ((word_Valid.f bt130.1).bind fun t133 => (if t133 = true then ((pack_Reader_Left.f bt130.2.1 bt130.2.2).bind fun bt134 => (some (bt130.1, wrap64 ((a0.size : Int) - bt134.1), 0))) else (some ((⟨#[]⟩ : ByteArray), 0, 4)))))) = some (r1, r2, r3) := H
                    have A19 := Aside0.mk A190
                    clear A190
                    by_cases c20 : t118 > (IntKind.u64.wrap (t124))
                    · rw [if_pos c20] at H
                      have c20b0 : decide ((IntKind.u64.wrap (t124)) < t118) = true := decide_eq_true c20
                      clear c20
                      simp only [Option.some.injEq, Prod.mk.injEq] at H
                      obtain ⟨rfl, rfl, rfl⟩ := H
                      go_wp2_with (first | ((with_reducible refine gate_callee (f := 83) rfl ?_); refine goesL_ (some 44) rfl rfl Try.func83 (by kernel_rfl) rfl #[.pointer (some ⟨g117, 0, none⟩)] rfl (by (try simp only [List.map_toArray, List.map_cons, List.map_nil]); first | done | rfl | (simp only [List.length_drop, List.length_take]; rfl)) ?_; (with_reducible refine (pack_Reader_Left.calls g117 t122 t123 t124 t125 t126 w _ ?side1 ?side2 A19.out).mono ?_); (case side1 => repeat (first | (with_reducible first | exact HI117.out | apply IsS120.alloc | apply IsS120.drewN | apply IsS120.drew | apply IsS120.set_0 | apply IsS120.set_1) | exact HI117.out)); (case side2 => repeat (first | (with_reducible first | exact HB.out | apply below_alloc | apply pw_below_drewN | apply below_drew1 | refine below_set ?_ (IsS120.ge HI117.out)) | exact HB.out)); rintro e w21 ⟨rfl, hi, hb, hk⟩; refine ⟨_, rfl, ?_⟩; have n0_ := Aside0.mk (hb); have n1_ := Aside0.mk (hi); clear HB; clear HI117; have HB := n0_; have HI117 := n1_; clear n0_ n1_; (try clear hb); (try clear hb2); (try clear hk); (try clear hi)))
                      go_ret3
                      exact ⟨by first | rfl | (simp [errW_none, errW_some] <;> rfl) | (simp [*, errW_none, errW_some] <;> rfl), by repeat (first | (with_reducible first | exact HB.out | apply below_alloc | apply pw_below_drewN | apply below_drew1 | refine below_set ?_ (IsS120.ge HI117.out)) | exact HB.out)⟩
                    · rw [if_neg c20] at H
                      have c20b0 : decide ((IntKind.u64.wrap (t124)) < t118) = false := decide_eq_false c20
                      clear c20
                      replace H := Option.bind_eq_some_iff.mp H
                      obtain ⟨⟨t130, t131, t132⟩, A220, H⟩ := H
                      replace H : ((word_Valid.f t130).bind fun t133 => (if t133 = true then ((pack_Reader_Left.f t131 t132).bind fun bt134 => (some (t130, wrap64 ((a0.size : Int) - bt134.1), 0))) else (some ((⟨#[]⟩ : ByteArray), 0, 4)))) = some (r1, r2, r3) := H
                      have A22 := Aside0.mk A220
                      clear A220
                      replace H := Option.bind_eq_some_iff.mp H
                      obtain ⟨t133, A230, H⟩ := H
                      replace H : (if t133 = true then ((pack_Reader_Left.f t131 t132).bind fun bt134 => (some (t130, wrap64 ((a0.size : Int) - bt134.1), 0))) else (some ((⟨#[]⟩ : ByteArray), 0, 4))) = some (r1, r2, r3) := H
                      have A23 := Aside0.mk A230
                      clear A230
                      by_cases c24 : t133 = true
                      · subst c24
                        have H1 : ((pack_Reader_Left.f t131 t132).bind fun bt134 => (some (t130, wrap64 ((a0.size : Int) - bt134.1), 0))) = some (r1, r2, r3) := by rw [if_pos rfl] at H; exact H
                        clear H
                        have H := H1
                        clear H1
                        replace H := Option.bind_eq_some_iff.mp H
                        obtain ⟨⟨t134, t135, t136⟩, A250, H⟩ := H
                        replace H : (some (t130, wrap64 ((a0.size : Int) - t134), 0)) = some (r1, r2, r3) := H
                        have A25 := Aside0.mk A250
                        clear A250
                        simp only [Option.some.injEq, Prod.mk.injEq] at H
                        obtain ⟨rfl, rfl, rfl⟩ := H
                        go_wp2_with (first | ((with_reducible refine gate_callee (f := 83) rfl ?_); refine goesL_ (some 44) rfl rfl Try.func83 (by kernel_rfl) rfl #[.pointer (some ⟨g117, 0, none⟩)] rfl (by (try simp only [List.map_toArray, List.map_cons, List.map_nil]); first | done | rfl | (simp only [List.length_drop, List.length_take]; rfl)) ?_; (with_reducible refine (pack_Reader_Left.calls g117 t122 t123 t124 t125 t126 w _ ?side1 ?side2 A19.out).mono ?_); (case side1 => repeat (first | (with_reducible first | exact HI117.out | apply IsS120.alloc | apply IsS120.drewN | apply IsS120.drew | apply IsS120.set_0 | apply IsS120.set_1) | exact HI117.out)); (case side2 => repeat (first | (with_reducible first | exact HB.out | apply below_alloc | apply pw_below_drewN | apply below_drew1 | refine below_set ?_ (IsS120.ge HI117.out)) | exact HB.out)); rintro e w26 ⟨rfl, hi, hb, hk⟩; refine ⟨_, rfl, ?_⟩; have n0_ := Aside0.mk (hb); have n1_ := Aside0.mk (hi); clear HB; clear HI117; have HB := n0_; have HI117 := n1_; clear n0_ n1_; (try clear hb); (try clear hb2); (try clear hk); (try clear hi)) | ((with_reducible refine gate_callee (f := 84) rfl ?_); refine goesL_ (some 50) rfl rfl Try.func84 (by kernel_rfl) rfl #[.pointer (some ⟨g117, 0, none⟩), .int .i64 (wrap64 (t118))] rfl (by (try simp only [List.map_toArray, List.map_cons, List.map_nil]); first | done | rfl | (simp only [List.length_drop, List.length_take]; rfl)) ?_; (with_reducible refine (pack_Reader_Take.calls g117 t125 t126 (wrap64 (t118)) t130 t131 t132 w _ ?side1 ?side2 A22.out).mono ?_); (case side1 => repeat (first | (with_reducible first | exact HI117.out | apply IsS120.alloc | apply IsS120.drewN | apply IsS120.drew | apply IsS120.set_0 | apply IsS120.set_1) | exact HI117.out)); (case side2 => repeat (first | (with_reducible first | exact HB.out | apply below_alloc | apply pw_below_drewN | apply below_drew1 | refine below_set ?_ (IsS120.ge HI117.out)) | exact HB.out)); rintro e w27 ⟨rfl, hi, hb, hk⟩; refine ⟨_, rfl, ?_⟩; have n0_ := Aside0.mk (hb); have n1_ := Aside0.mk (hi); clear HB; clear HI117; have HB := n0_; have HI117 := n1_; clear n0_ n1_; (try clear hb); (try clear hb2); (try clear hk); (try clear hi)) | ((with_reducible refine gate_callee (f := 29) rfl ?_); refine goesL_ (some 52) rfl rfl Try.func29 (by kernel_rfl) rfl #[.string t130] rfl (by (try simp only [List.map_toArray, List.map_cons, List.map_nil]); first | done | rfl | (simp only [List.length_drop, List.length_take]; rfl)) ?_; (with_reducible refine (word_Valid.calls t130 true _ A23.out).mono ?_); rintro e w28 ⟨rfl, hb⟩; refine ⟨_, rfl, ?_⟩; have n0_ := Aside0.mk (IsS120.below (by repeat (first | (with_reducible first | exact HI117.out | apply IsS120.alloc | apply IsS120.drewN | apply IsS120.drew | apply IsS120.set_0 | apply IsS120.set_1) | exact HI117.out)) hb); have n1_ := Aside0.mk (below_step (by repeat (first | (with_reducible first | exact HB.out | apply below_alloc | apply pw_below_drewN | apply below_drew1 | refine below_set ?_ (IsS120.ge HI117.out)) | exact HB.out)) hb); clear HI117; clear HB; have HI117 := n0_; have HB := n1_; clear n0_ n1_; (try clear hb); (try clear hb2); (try clear hk); (try clear hi)) | ((with_reducible refine gate_callee (f := 83) rfl ?_); refine goesL_ (some 58) rfl rfl Try.func83 (by kernel_rfl) rfl #[.pointer (some ⟨g117, 0, none⟩)] rfl (by (try simp only [List.map_toArray, List.map_cons, List.map_nil]); first | done | rfl | (simp only [List.length_drop, List.length_take]; rfl)) ?_; (with_reducible refine (pack_Reader_Left.calls g117 t131 t132 t134 t135 t136 w _ ?side1 ?side2 A25.out).mono ?_); (case side1 => repeat (first | (with_reducible first | exact HI117.out | apply IsS120.alloc | apply IsS120.drewN | apply IsS120.drew | apply IsS120.set_0 | apply IsS120.set_1) | exact HI117.out)); (case side2 => repeat (first | (with_reducible first | exact HB.out | apply below_alloc | apply pw_below_drewN | apply below_drew1 | refine below_set ?_ (IsS120.ge HI117.out)) | exact HB.out)); rintro e w29 ⟨rfl, hi, hb, hk⟩; refine ⟨_, rfl, ?_⟩; have n0_ := Aside0.mk (hb); have n1_ := Aside0.mk (hi); clear HB; clear HI117; have HB := n0_; have HI117 := n1_; clear n0_ n1_; (try clear hb); (try clear hb2); (try clear hk); (try clear hi)))
                        go_ret3
                        exact ⟨by first | rfl | (simp [errW_none, errW_some] <;> rfl) | (simp [*, errW_none, errW_some] <;> rfl), by repeat (first | (with_reducible first | exact HB.out | apply below_alloc | apply pw_below_drewN | apply below_drew1 | refine below_set ?_ (IsS120.ge HI117.out)) | exact HB.out)⟩
                      · replace c24 := Bool.eq_false_iff.mpr c24
                        subst c24
                        have H1 : (some ((⟨#[]⟩ : ByteArray), 0, 4)) = some (r1, r2, r3) := by rw [if_neg (show ¬ (false = true) by decide)] at H; exact H
                        clear H
                        have H := H1
                        clear H1
                        simp only [Option.some.injEq, Prod.mk.injEq] at H
                        obtain ⟨rfl, rfl, rfl⟩ := H
                        go_wp2_with (first | ((with_reducible refine gate_callee (f := 83) rfl ?_); refine goesL_ (some 44) rfl rfl Try.func83 (by kernel_rfl) rfl #[.pointer (some ⟨g117, 0, none⟩)] rfl (by (try simp only [List.map_toArray, List.map_cons, List.map_nil]); first | done | rfl | (simp only [List.length_drop, List.length_take]; rfl)) ?_; (with_reducible refine (pack_Reader_Left.calls g117 t122 t123 t124 t125 t126 w _ ?side1 ?side2 A19.out).mono ?_); (case side1 => repeat (first | (with_reducible first | exact HI117.out | apply IsS120.alloc | apply IsS120.drewN | apply IsS120.drew | apply IsS120.set_0 | apply IsS120.set_1) | exact HI117.out)); (case side2 => repeat (first | (with_reducible first | exact HB.out | apply below_alloc | apply pw_below_drewN | apply below_drew1 | refine below_set ?_ (IsS120.ge HI117.out)) | exact HB.out)); rintro e w30 ⟨rfl, hi, hb, hk⟩; refine ⟨_, rfl, ?_⟩; have n0_ := Aside0.mk (hb); have n1_ := Aside0.mk (hi); clear HB; clear HI117; have HB := n0_; have HI117 := n1_; clear n0_ n1_; (try clear hb); (try clear hb2); (try clear hk); (try clear hi)) | ((with_reducible refine gate_callee (f := 84) rfl ?_); refine goesL_ (some 50) rfl rfl Try.func84 (by kernel_rfl) rfl #[.pointer (some ⟨g117, 0, none⟩), .int .i64 (wrap64 (t118))] rfl (by (try simp only [List.map_toArray, List.map_cons, List.map_nil]); first | done | rfl | (simp only [List.length_drop, List.length_take]; rfl)) ?_; (with_reducible refine (pack_Reader_Take.calls g117 t125 t126 (wrap64 (t118)) t130 t131 t132 w _ ?side1 ?side2 A22.out).mono ?_); (case side1 => repeat (first | (with_reducible first | exact HI117.out | apply IsS120.alloc | apply IsS120.drewN | apply IsS120.drew | apply IsS120.set_0 | apply IsS120.set_1) | exact HI117.out)); (case side2 => repeat (first | (with_reducible first | exact HB.out | apply below_alloc | apply pw_below_drewN | apply below_drew1 | refine below_set ?_ (IsS120.ge HI117.out)) | exact HB.out)); rintro e w31 ⟨rfl, hi, hb, hk⟩; refine ⟨_, rfl, ?_⟩; have n0_ := Aside0.mk (hb); have n1_ := Aside0.mk (hi); clear HB; clear HI117; have HB := n0_; have HI117 := n1_; clear n0_ n1_; (try clear hb); (try clear hb2); (try clear hk); (try clear hi)) | ((with_reducible refine gate_callee (f := 29) rfl ?_); refine goesL_ (some 52) rfl rfl Try.func29 (by kernel_rfl) rfl #[.string t130] rfl (by (try simp only [List.map_toArray, List.map_cons, List.map_nil]); first | done | rfl | (simp only [List.length_drop, List.length_take]; rfl)) ?_; (with_reducible refine (word_Valid.calls t130 false _ A23.out).mono ?_); rintro e w32 ⟨rfl, hb⟩; refine ⟨_, rfl, ?_⟩; have n0_ := Aside0.mk (IsS120.below (by repeat (first | (with_reducible first | exact HI117.out | apply IsS120.alloc | apply IsS120.drewN | apply IsS120.drew | apply IsS120.set_0 | apply IsS120.set_1) | exact HI117.out)) hb); have n1_ := Aside0.mk (below_step (by repeat (first | (with_reducible first | exact HB.out | apply below_alloc | apply pw_below_drewN | apply below_drew1 | refine below_set ?_ (IsS120.ge HI117.out)) | exact HB.out)) hb); clear HI117; clear HB; have HI117 := n0_; have HB := n1_; clear n0_ n1_; (try clear hb); (try clear hb2); (try clear hk); (try clear hi)))
                        go_ret3
                        exact ⟨by first | rfl | (simp [errW_none, errW_some] <;> rfl) | (simp [*, errW_none, errW_some] <;> rfl), by repeat (first | (with_reducible first | exact HB.out | apply below_alloc | apply pw_below_drewN | apply below_drew1 | refine below_set ?_ (IsS120.ge HI117.out)) | exact HB.out)⟩
            · rw [if_neg c12] at H
              have c12b0 : (t121 == 0) = false := beq_eq_false_iff_ne.mpr c12
              have c12b1 : (t121 != 0) = true := bne_iff_ne.mpr c12
              replace H := Option.bind_eq_some_iff.mp H
              obtain ⟨⟨t127, t128, t129⟩, A330, H⟩ := H
              replace H : (some ((⟨#[]⟩ : ByteArray), 0, t127)) = some (r1, r2, r3) := H
              have A33 := Aside0.mk A330
              clear A330
              simp only [Option.some.injEq, Prod.mk.injEq] at H
              obtain ⟨rfl, rfl, rfl⟩ := H
              go_wp2_with (first | ((with_reducible refine gate_callee (f := 80) rfl ?_); refine goesL_ (some 23) rfl rfl Try.func80 (by kernel_rfl) rfl #[.string (a0.extract (a1 : Int).toNat a0.size)] rfl (by (try simp only [List.map_toArray, List.map_cons, List.map_nil]); first | done | rfl | (simp only [List.length_drop, List.length_take]; rfl)) ?_; (with_reducible refine (pack_New.calls (a0.extract (a1 : Int).toNat a0.size) t115 t116 w _ ?side1 A9.out).mono ?_); (case side1 => repeat (first | (with_reducible first | exact HB.out | apply below_alloc | apply pw_below_drewN | apply below_drew1) | exact HB.out)); rintro e w34 ⟨g117, rfl, hi, hb, hb2⟩; refine ⟨_, rfl, ?_⟩; have n0_ := Aside0.mk (hb); have n1_ := Aside0.mk (hi); clear HB; have HB := n0_; have HI117 := n1_; clear n0_ n1_; (try clear hb); (try clear hb2); (try clear hk); (try clear hi)) | ((with_reducible refine gate_callee (f := 81) rfl ?_); refine goesL_ (some 25) rfl rfl Try.func81 (by kernel_rfl) rfl #[.pointer (some ⟨g117, 0, none⟩)] rfl (by (try simp only [List.map_toArray, List.map_cons, List.map_nil]); first | done | rfl | (simp only [List.length_drop, List.length_take]; rfl)) ?_; (with_reducible refine (pack_Reader_Num.calls g117 t115 t116 t118 t119 t120 w _ ?side1 ?side2 A10.out).mono ?_); (case side1 => repeat (first | (with_reducible first | exact HI117.out | apply IsS120.alloc | apply IsS120.drewN | apply IsS120.drew | apply IsS120.set_0 | apply IsS120.set_1) | exact HI117.out)); (case side2 => repeat (first | (with_reducible first | exact HB.out | apply below_alloc | apply pw_below_drewN | apply below_drew1 | refine below_set ?_ (IsS120.ge HI117.out)) | exact HB.out)); rintro e w35 ⟨rfl, hi, hb, hk⟩; refine ⟨_, rfl, ?_⟩; have n0_ := Aside0.mk (hb); have n1_ := Aside0.mk (hi); clear HB; clear HI117; have HB := n0_; have HI117 := n1_; clear n0_ n1_; (try clear hb); (try clear hb2); (try clear hk); (try clear hi)) | ((with_reducible refine gate_callee (f := 82) rfl ?_); refine goesL_ (some 28) rfl rfl Try.func82 (by kernel_rfl) rfl #[.pointer (some ⟨g117, 0, none⟩)] rfl (by (try simp only [List.map_toArray, List.map_cons, List.map_nil]); first | done | rfl | (simp only [List.length_drop, List.length_take]; rfl)) ?_; (with_reducible refine (pack_Reader_Err.calls g117 t119 t120 t121 t122 t123 w _ ?side1 ?side2 A11.out).mono ?_); (case side1 => repeat (first | (with_reducible first | exact HI117.out | apply IsS120.alloc | apply IsS120.drewN | apply IsS120.drew | apply IsS120.set_0 | apply IsS120.set_1) | exact HI117.out)); (case side2 => repeat (first | (with_reducible first | exact HB.out | apply below_alloc | apply pw_below_drewN | apply below_drew1 | refine below_set ?_ (IsS120.ge HI117.out)) | exact HB.out)); rintro e w36 ⟨rfl, hi, hb, hk⟩; refine ⟨_, rfl, ?_⟩; have n0_ := Aside0.mk (hb); have n1_ := Aside0.mk (hi); clear HB; clear HI117; have HB := n0_; have HI117 := n1_; clear n0_ n1_; (try clear hb); (try clear hb2); (try clear hk); (try clear hi)) | ((with_reducible refine gate_callee (f := 82) rfl ?_); refine goesL_ (some 31) rfl rfl Try.func82 (by kernel_rfl) rfl #[.pointer (some ⟨g117, 0, none⟩)] rfl (by (try simp only [List.map_toArray, List.map_cons, List.map_nil]); first | done | rfl | (simp only [List.length_drop, List.length_take]; rfl)) ?_; (with_reducible refine (pack_Reader_Err.calls g117 t122 t123 t127 t128 t129 w _ ?side1 ?side2 A33.out).mono ?_); (case side1 => repeat (first | (with_reducible first | exact HI117.out | apply IsS120.alloc | apply IsS120.drewN | apply IsS120.drew | apply IsS120.set_0 | apply IsS120.set_1) | exact HI117.out)); (case side2 => repeat (first | (with_reducible first | exact HB.out | apply below_alloc | apply pw_below_drewN | apply below_drew1 | refine below_set ?_ (IsS120.ge HI117.out)) | exact HB.out)); rintro e w37 ⟨rfl, hi, hb, hk⟩; refine ⟨_, rfl, ?_⟩; have n0_ := Aside0.mk (hb); have n1_ := Aside0.mk (hi); clear HB; clear HI117; have HB := n0_; have HI117 := n1_; clear n0_ n1_; (try clear hb); (try clear hb2); (try clear hk); (try clear hi)))
              go_ret3
              exact ⟨by first | rfl | (simp [errW_none, errW_some] <;> rfl) | (simp [*, errW_none, errW_some] <;> rfl), by repeat (first | (with_reducible first | exact HB.out | apply below_alloc | apply pw_below_drewN | apply below_drew1 | refine below_set ?_ (IsS120.ge HI117.out)) | exact HB.out)⟩
          · rw [if_neg c8] at H
            exact absurd H (by simp)
        · rw [if_neg c7] at H
          exact absurd H (by simp)
end Go.Proofs.Ytbgjoiccehiglaa.Print
end
section
namespace Go.Proofs.Ytbgjoiccehiglaa.Print
open Go.RowKit Go.Proofs.YtbgjoiccehiglaaW.PrintWords Go.Proofs.YtbgjoiccehiglaaW.PrintLast Go.Proofs.YtbgjoiccehiglaaW.PrintMore
attribute [local go_sem] max2_int min2_int max_two min_two max_three min_three max_four min_four
set_option linter.unusedVariables false
set_option linter.unusedSimpArgs false
def bonsairef04_in.f (a0 : ByteArray) (a1 : Int) (a2 : Int) (a3 : Int) : Option (Bool) := if a1 < (a0.size : Int) then (if 0 ≤ a1 then (if (wrap64 (bt a0 a1)) ≥ a2 then (some (decide ((wrap64 (bt a0 a1)) ≤ a3))) else (some false)) else (none)) else (some false)
set_option maxHeartbeats 8000000 in
set_option maxRecDepth 100000 in
theorem bonsairef04_in.calls (a0 : ByteArray) (a1 : Int) (a2 : Int) (a3 : Int) (r : Bool) (w : World) (h : bonsairef04_in.f a0 a1 a2 a3 = some r) :
    Calls Try.prog 97 #[.string a0, .int .i64 a1, .int .i64 a2, .int .i64 a3] w fun e w' => e = .returned (.bool r) ∧ Drawn0 w w' := by
  have H : (if a1 < (a0.size : Int) then (if 0 ≤ a1 then (if (wrap64 (bt a0 a1)) ≥ a2 then (some (decide ((wrap64 (bt a0 a1)) ≤ a3))) else (some false)) else (none)) else (some false)) = some r := h
  clear h
  by_cases c5 : a1 < (a0.size : Int)
  · rw [if_pos c5] at H
    have c5b0 : decide (a1 < (a0.size : Int)) = true := decide_eq_true c5
    clear c5
    by_cases c6 : 0 ≤ a1
    · rw [if_pos c6] at H
      have c6b0 : decide (0 ≤ a1) = true := decide_eq_true c6
      clear c6
      by_cases c8 : (wrap64 (bt a0 a1)) ≥ a2
      · rw [if_pos c8] at H
        have c8b0 : decide (a2 ≤ (wrap64 (bt a0 a1))) = true := decide_eq_true c8
        clear c8
        obtain rfl := Option.some.inj H
        have p7 : 0 ≤ (a1 : Int) := of_decide_eq_true (by first | (with_reducible assumption) | assumption)
        have q7 : a1 < (a0.size : Int) := of_decide_eq_true (by first | (with_reducible assumption) | assumption)
        have hx7 := bt_at a0 a1
        replace p7 := eq_true p7
        replace q7 := eq_true q7
        have p9 : 0 ≤ (a1 : Int) := of_decide_eq_true (by first | (with_reducible assumption) | assumption)
        have q9 : a1 < (a0.size : Int) := of_decide_eq_true (by first | (with_reducible assumption) | assumption)
        have hx9 := bt_at a0 a1
        replace p9 := eq_true p9
        replace q9 := eq_true q9
        go_enter Try.func97, Try.ntmps97
        go_wp2
        go_ret
        exact ⟨by first | rfl | (simp; done) | (simp [*]; done), by repeat (first | exact Drawn0.refl _ | apply Drawn0.step)⟩
      · rw [if_neg c8] at H
        have c8b0 : decide (a2 ≤ (wrap64 (bt a0 a1))) = false := decide_eq_false c8
        clear c8
        obtain rfl := Option.some.inj H
        have p7 : 0 ≤ (a1 : Int) := of_decide_eq_true (by first | (with_reducible assumption) | assumption)
        have q7 : a1 < (a0.size : Int) := of_decide_eq_true (by first | (with_reducible assumption) | assumption)
        have hx7 := bt_at a0 a1
        replace p7 := eq_true p7
        replace q7 := eq_true q7
        go_enter Try.func97, Try.ntmps97
        go_wp2
        go_ret
        exact ⟨by first | rfl | (simp; done) | (simp [*]; done), by repeat (first | exact Drawn0.refl _ | apply Drawn0.step)⟩
    · rw [if_neg c6] at H
      exact absurd H (by simp)
  · rw [if_neg c5] at H
    have c5b0 : decide (a1 < (a0.size : Int)) = false := decide_eq_false c5
    clear c5
    obtain rfl := Option.some.inj H
    go_enter Try.func97, Try.ntmps97
    go_wp2
    go_ret
    exact ⟨by first | rfl | (simp; done) | (simp [*]; done), by repeat (first | exact Drawn0.refl _ | apply Drawn0.step)⟩
end Go.Proofs.Ytbgjoiccehiglaa.Print
end
section
namespace Go.Proofs.Ytbgjoiccehiglaa.Print
open Go.RowKit Go.Proofs.YtbgjoiccehiglaaW.PrintWords Go.Proofs.YtbgjoiccehiglaaW.PrintLast Go.Proofs.YtbgjoiccehiglaaW.PrintMore
attribute [local go_sem] max2_int min2_int max_two min_two max_three min_three max_four min_four
set_option linter.unusedVariables false
set_option linter.unusedSimpArgs false
def runs_May.l0 : Nat → List (S53) → List (S53) → Int → Int → Option (Bool)
  | 0, _, _, _, _ => none
  | k + 1, x0, x5, x6, x7 => if x7 < x6 then (if 0 ≤ x7 then (if x7 < (x5.length : Int) then (if ((rd_T53 x5 x7).f1) < 1 then (some false) else (if x7 > 0 then (if 0 ≤ (wrap64 (x7 - 1)) then (if (wrap64 (x7 - 1)) < (x0.length : Int) then (if ((rd_T53 x0 (wrap64 (x7 - 1))).f0) = ((rd_T53 x5 x7).f0) then (some false) else (runs_May.l0 k x0 x5 x6 (wrap64 (x7 + 1)))) else (none)) else (none)) else (runs_May.l0 k x0 x5 x6 (wrap64 (x7 + 1))))) else (none)) else (none)) else (some true)
def runs_May.f (k : Nat) (l0 : List (S53)) : Option (Bool) := runs_May.l0 k l0 l0 (l0.length : Int) 0
theorem runs_May.mono_l : ∀ k, (∀ y0 y1 y2 y3, LeO (runs_May.l0 k y0 y1 y2 y3) (runs_May.l0 (k + 1) y0 y1 y2 y3))
  | 0 => fun _ _ _ _ r h => by simp [runs_May.l0] at h
  | k + 1 => by
    have ih0 := runs_May.mono_l k
    · intro y0 y1 y2 y3
      unfold runs_May.l0
      repeat' first
      | (with_reducible exact ih0 _ _ _ _)
      | (with_reducible exact LeO.refl _)
      | (with_reducible exact LeO.none _)
      | (with_reducible refine LeO.ite ?_ ?_)
      | (with_reducible refine LeO.bind ?_ (fun _ => ?_))
      | exact ih0 _ _ _ _
      | exact LeO.none _
      | refine LeO.ite ?_ ?_
      | refine LeO.bind ?_ (fun _ => ?_)
theorem runs_May.mono : ∀ a0 k, LeO (runs_May.f k a0) (runs_May.f (k + 1) a0) := by
  intro a0 k
  have ih0 := runs_May.mono_l k
  unfold runs_May.f
  repeat' first
      | (with_reducible exact ih0 _ _ _ _)
      | (with_reducible exact LeO.refl _)
      | (with_reducible exact LeO.none _)
      | (with_reducible refine LeO.ite ?_ ?_)
      | (with_reducible refine LeO.bind ?_ (fun _ => ?_))
      | exact ih0 _ _ _ _
      | exact LeO.none _
      | refine LeO.ite ?_ ?_
      | refine LeO.bind ?_ (fun _ => ?_)
set_option maxHeartbeats 8000000 in
set_option maxRecDepth 100000 in
theorem runs_May.calls (k : Nat) (A0 : Option Addr) (c0 : Nat) (l0 : List (S53)) (r : Bool) (w : World) (hr0 : Kd.C k53 w A0 l0.length l0) (hc0 : l0.length ≤ c0) (h : runs_May.f k l0 = some r) :
    Calls Try.prog 46 #[.slice A0 l0.length c0] w fun e w' => e = .returned (.bool r) ∧ Below w.heap.size w w' := by
  have hu53 := Try.underlying53
  have HR0 := Aside0.mk hr0
  have HC0 := Aside0.mk hc0
  clear hr0 hc0
  have HB := Aside0.mk (Below.refl w.heap.size w)
  have H : (runs_May.l0 k l0 l0 (l0.length : Int) 0) = some r := h
  clear h
  have H' := Aside0.mk H
  clear H
  go_enter Try.func46, Try.ntmps46
  go_wp2
  repeat (go_quiet (fail); try go_wp2)
  go_loopg [7] k (fun kq v7 w' => ∃ (x7_1 : Int), v7 = .int .i64 x7_1 ∧ Aside0 (runs_May.l0 kq l0 l0 (l0.length : Int) x7_1 = some r) ∧ Aside0 (kq ≤ k) ∧ Aside0 (Below w.heap.size w w'))
  case atStart => exact ⟨(0), (by first | rfl | (simp; done) | (simp [*]; done)), H', ⟨Nat.le_refl _⟩, ⟨by repeat (first | (with_reducible first | exact HB.out | apply below_alloc | apply pw_below_drewN | apply below_drew1) | exact HB.out)⟩⟩
  case round =>
    clear H'
    obtain ⟨x7_1, rfl, HA, HK1, HB⟩ := hrel
    cases gk with
    | zero => exact absurd HA.out (by simp [runs_May.l0])
    | succ k1 =>
      have H := HA.out
      clear HA
      simp only [runs_May.l0] at H
      by_cases c2 : x7_1 < (l0.length : Int)
      · rw [if_pos c2] at H
        have c2b0 : decide (x7_1 < (l0.length : Int)) = true := decide_eq_true c2
        clear c2
        by_cases c3 : 0 ≤ x7_1
        · rw [if_pos c3] at H
          have c3b0 : decide (0 ≤ x7_1) = true := decide_eq_true c3
          clear c3
          by_cases c4 : x7_1 < (l0.length : Int)
          · rw [if_pos c4] at H
            have c4b0 : decide (x7_1 < (l0.length : Int)) = true := decide_eq_true c4
            clear c4
            by_cases c5 : ((rd_T53 l0 x7_1).f1) < 1
            · rw [if_pos c5] at H
              have c5b0 : decide (((rd_T53 l0 x7_1).f1) < 1) = true := decide_eq_true c5
              clear c5
              obtain rfl := Option.some.inj H
              have p264 : 0 ≤ (x7_1 : Int) := of_decide_eq_true (by first | (with_reducible assumption) | assumption)
              have q264 : x7_1 < (l0.length : Int) := of_decide_eq_true (by first | (with_reducible assumption) | assumption)
              obtain ⟨ad264, e264, hx264_0, hx264_1⟩ := at_T53 HR0.out x7_1 p264 q264
              cases e264
              replace hx264_0 := (HB.out.cell (World.block_lt_of_cell? w _ hx264_0)).trans hx264_0
              replace hx264_1 := (HB.out.cell (World.block_lt_of_cell? w _ hx264_1)).trans hx264_1
              replace p264 := eq_true p264
              replace q264 := eq_true q264
              go_wp2_with (first | ((with_reducible refine gate_dst (N := 4) rfl ?_); refine box_event ?hg (N := 4) ?hd (cs := #[.int .u64 0, .int .i64 0]) (t := 53) ?hr ?_; (case hd => rfl); (case hg => rfl); (case hr => first | (go_simp; done) | (go_simp; rfl)); intro gb265 hg w6 hbox hb; have n0_ := Aside0.mk (below_step (by repeat (first | (with_reducible first | exact HB.out | apply below_alloc | apply pw_below_drewN | apply below_drew1) | exact HB.out)) hb); have n1_ := Aside0.mk (hbox); have n2_ := Aside0.mk ((by rw [hg]; exact (below_size (by repeat (first | (with_reducible first | exact HB.out | apply below_alloc | apply pw_below_drewN | apply below_drew1) | exact HB.out))) : w.heap.size ≤ gb265)); have n3_ := Aside0.mk ((by rw [hg]; exact (below_size (by repeat (first | (with_reducible first | exact HB.out | apply below_alloc | apply pw_below_drewN | apply below_drew1) | exact HB.out))) : w.heap.size ≤ gb265)); clear HB; have HB := n0_; have BK265 := n1_; have GW265 := n2_; have GE265 := n3_; clear n0_ n1_ n2_ n3_; clear hb hbox hg; have hcz7_0 : w6.cell? ⟨gb265, 0, none⟩ = some (.int .u64 0) := (blk_cell BK265.out 0).trans rfl; have hcz7_1 : w6.cell? ⟨gb265, 1, none⟩ = some (.int .i64 0) := (blk_cell BK265.out 1).trans rfl; have hfz7_0 := blk_frozen BK265.out 0; have hfz7_1 := blk_frozen BK265.out 1))
              repeat (go_quiet (first | ((with_reducible refine gate_dst (N := 4) rfl ?_); refine box_event ?hg (N := 4) ?hd (cs := #[.int .u64 0, .int .i64 0]) (t := 53) ?hr ?_; (case hd => rfl); (case hg => rfl); (case hr => first | (go_simp; done) | (go_simp; rfl)); intro gb265 hg w6 hbox hb; have n0_ := Aside0.mk (below_step (by repeat (first | (with_reducible first | exact HB.out | apply below_alloc | apply pw_below_drewN | apply below_drew1) | exact HB.out)) hb); have n1_ := Aside0.mk (hbox); have n2_ := Aside0.mk ((by rw [hg]; exact (below_size (by repeat (first | (with_reducible first | exact HB.out | apply below_alloc | apply pw_below_drewN | apply below_drew1) | exact HB.out))) : w.heap.size ≤ gb265)); have n3_ := Aside0.mk ((by rw [hg]; exact (below_size (by repeat (first | (with_reducible first | exact HB.out | apply below_alloc | apply pw_below_drewN | apply below_drew1) | exact HB.out))) : w.heap.size ≤ gb265)); clear HB; have HB := n0_; have BK265 := n1_; have GW265 := n2_; have GE265 := n3_; clear n0_ n1_ n2_ n3_; clear hb hbox hg; have hcz7_0 : w6.cell? ⟨gb265, 0, none⟩ = some (.int .u64 0) := (blk_cell BK265.out 0).trans rfl; have hcz7_1 : w6.cell? ⟨gb265, 1, none⟩ = some (.int .i64 0) := (blk_cell BK265.out 1).trans rfl; have hfz7_0 := blk_frozen BK265.out 0; have hfz7_1 := blk_frozen BK265.out 1)); try go_wp2_with (first | ((with_reducible refine gate_dst (N := 4) rfl ?_); refine box_event ?hg (N := 4) ?hd (cs := #[.int .u64 0, .int .i64 0]) (t := 53) ?hr ?_; (case hd => rfl); (case hg => rfl); (case hr => first | (go_simp; done) | (go_simp; rfl)); intro gb265 hg w6 hbox hb; have n0_ := Aside0.mk (below_step (by repeat (first | (with_reducible first | exact HB.out | apply below_alloc | apply pw_below_drewN | apply below_drew1) | exact HB.out)) hb); have n1_ := Aside0.mk (hbox); have n2_ := Aside0.mk ((by rw [hg]; exact (below_size (by repeat (first | (with_reducible first | exact HB.out | apply below_alloc | apply pw_below_drewN | apply below_drew1) | exact HB.out))) : w.heap.size ≤ gb265)); have n3_ := Aside0.mk ((by rw [hg]; exact (below_size (by repeat (first | (with_reducible first | exact HB.out | apply below_alloc | apply pw_below_drewN | apply below_drew1) | exact HB.out))) : w.heap.size ≤ gb265)); clear HB; have HB := n0_; have BK265 := n1_; have GW265 := n2_; have GE265 := n3_; clear n0_ n1_ n2_ n3_; clear hb hbox hg; have hcz7_0 : w6.cell? ⟨gb265, 0, none⟩ = some (.int .u64 0) := (blk_cell BK265.out 0).trans rfl; have hcz7_1 : w6.cell? ⟨gb265, 1, none⟩ = some (.int .i64 0) := (blk_cell BK265.out 1).trans rfl; have hfz7_0 := blk_frozen BK265.out 0; have hfz7_1 := blk_frozen BK265.out 1)))
              go_ret
              exact ⟨by first | rfl | (simp [errW_none, errW_some] <;> rfl) | (simp [*, errW_none, errW_some] <;> rfl), by repeat (first | (with_reducible first | exact HB.out | apply below_alloc | apply pw_below_drewN | apply below_drew1 | refine below_set ?_ GE265.out) | exact HB.out)⟩
            · rw [if_neg c5] at H
              have c5b0 : decide (((rd_T53 l0 x7_1).f1) < 1) = false := decide_eq_false c5
              clear c5
              by_cases c8 : x7_1 > 0
              · rw [if_pos c8] at H
                have c8b0 : decide (0 < x7_1) = true := decide_eq_true c8
                clear c8
                obtain ⟨ji9, hji9⟩ : ∃ j_ : Int, (wrap64 (x7_1 - 1)) = j_ := ⟨_, rfl⟩
                replace H : (if 0 ≤ (ji9) then (if (ji9) < (l0.length : Int) then (if ((rd_T53 l0 (ji9)).f0) = ((rd_T53 l0 x7_1).f0) then (some false) else (runs_May.l0 k1 l0 l0 (l0.length : Int) (wrap64 (x7_1 + 1)))) else (none)) else (none)) = some r := by first | (rw [hji9] at H; exact H) | (simp only [hji9] at H ⊢; exact H)
                have hji9w : (IntKind.i64.wrap (x7_1 - 1)) = ji9 := (i64_w _).trans hji9
                by_cases c10 : 0 ≤ (ji9)
                · rw [if_pos c10] at H
                  have c10b0 : decide (0 ≤ (ji9)) = true := decide_eq_true c10
                  clear c10
                  by_cases c11 : (ji9) < (l0.length : Int)
                  · rw [if_pos c11] at H
                    have c11b0 : decide ((ji9) < (l0.length : Int)) = true := decide_eq_true c11
                    clear c11
                    by_cases c12 : ((rd_T53 l0 (ji9)).f0) = ((rd_T53 l0 x7_1).f0)
                    · rw [if_pos c12] at H
                      have c12b0 : (((rd_T53 l0 (ji9)).f0) == ((rd_T53 l0 x7_1).f0)) = true := beq_iff_eq.mpr c12
                      have c12b1 : (((rd_T53 l0 (ji9)).f0) != ((rd_T53 l0 x7_1).f0)) = false := bne_eq_false_iff_eq.mpr c12
                      clear c12
                      obtain rfl := Option.some.inj H
                      have p264 : 0 ≤ (x7_1 : Int) := of_decide_eq_true (by first | (with_reducible assumption) | assumption)
                      have q264 : x7_1 < (l0.length : Int) := of_decide_eq_true (by first | (with_reducible assumption) | assumption)
                      obtain ⟨ad264, e264, hx264_0, hx264_1⟩ := at_T53 HR0.out x7_1 p264 q264
                      cases e264
                      replace hx264_0 := (HB.out.cell (World.block_lt_of_cell? w _ hx264_0)).trans hx264_0
                      replace hx264_1 := (HB.out.cell (World.block_lt_of_cell? w _ hx264_1)).trans hx264_1
                      replace p264 := eq_true p264
                      replace q264 := eq_true q264
                      go_wp2_with (first | ((with_reducible refine gate_dst (N := 4) rfl ?_); refine box_event ?hg (N := 4) ?hd (cs := #[.int .u64 0, .int .i64 0]) (t := 53) ?hr ?_; (case hd => rfl); (case hg => rfl); (case hr => first | (go_simp; done) | (go_simp; rfl)); intro gb265 hg w13 hbox hb; have n0_ := Aside0.mk (below_step (by repeat (first | (with_reducible first | exact HB.out | apply below_alloc | apply pw_below_drewN | apply below_drew1) | exact HB.out)) hb); have n1_ := Aside0.mk (hbox); have n2_ := Aside0.mk ((by rw [hg]; exact (below_size (by repeat (first | (with_reducible first | exact HB.out | apply below_alloc | apply pw_below_drewN | apply below_drew1) | exact HB.out))) : w.heap.size ≤ gb265)); have n3_ := Aside0.mk ((by rw [hg]; exact (below_size (by repeat (first | (with_reducible first | exact HB.out | apply below_alloc | apply pw_below_drewN | apply below_drew1) | exact HB.out))) : w.heap.size ≤ gb265)); clear HB; have HB := n0_; have BK265 := n1_; have GW265 := n2_; have GE265 := n3_; clear n0_ n1_ n2_ n3_; clear hb hbox hg; have hcz14_0 : w13.cell? ⟨gb265, 0, none⟩ = some (.int .u64 0) := (blk_cell BK265.out 0).trans rfl; have hcz14_1 : w13.cell? ⟨gb265, 1, none⟩ = some (.int .i64 0) := (blk_cell BK265.out 1).trans rfl; have hfz14_0 := blk_frozen BK265.out 0; have hfz14_1 := blk_frozen BK265.out 1; have p266 : 0 ≤ ((ji9) : Int) := of_decide_eq_true (by first | (with_reducible assumption) | assumption); have q266 : (ji9) < (l0.length : Int) := of_decide_eq_true (by first | (with_reducible assumption) | assumption); obtain ⟨ad266, e266, hx266_0, hx266_1⟩ := at_T53 HR0.out (ji9) p266 q266; obtain rfl : ad264 = ad266 := (by injection e266); have hn266_0 : ad264.block ≠ gb265 := Nat.ne_of_lt (Nat.lt_of_lt_of_le (by have := World.block_lt_of_cell? _ _ hx266_0; first | rwa [add_block] at this | exact this) GW265.out); have hn266_1 : ad264.block ≠ gb265 := Nat.ne_of_lt (Nat.lt_of_lt_of_le (by have := World.block_lt_of_cell? _ _ hx266_0; first | rwa [add_block] at this | exact this) GW265.out); replace hx266_0 := (HB.out.cell (World.block_lt_of_cell? w _ hx266_0)).trans hx266_0; replace hx266_1 := (HB.out.cell (World.block_lt_of_cell? w _ hx266_1)).trans hx266_1; replace hx266_0 := (cell_far (p := ⟨gb265, 0, none⟩) (by first | (rw [add_block]; exact hn266_0) | (show (Addr.add _ _).block ≠ _; rw [add_block]; exact hn266_0) | exact hn266_0) (.int .u64 ((rd_T53 l0 x7_1).f0))).trans hx266_0; replace hx266_1 := (cell_far (p := ⟨gb265, 0, none⟩) (by first | (rw [add_block]; exact hn266_0) | (show (Addr.add _ _).block ≠ _; rw [add_block]; exact hn266_0) | exact hn266_0) (.int .u64 ((rd_T53 l0 x7_1).f0))).trans hx266_1; replace hx266_0 := (cell_far (p := ⟨gb265, 1, none⟩) (by first | (rw [add_block]; exact hn266_1) | (show (Addr.add _ _).block ≠ _; rw [add_block]; exact hn266_1) | exact hn266_1) (.int .i64 ((rd_T53 l0 x7_1).f1))).trans hx266_0; replace hx266_1 := (cell_far (p := ⟨gb265, 1, none⟩) (by first | (rw [add_block]; exact hn266_1) | (show (Addr.add _ _).block ≠ _; rw [add_block]; exact hn266_1) | exact hn266_1) (.int .i64 ((rd_T53 l0 x7_1).f1))).trans hx266_1; (try have hy266_0 := fun (n_ : Nat) => (show ((((w13.drewN n_).setCell ⟨gb265, 0, none⟩ (.int .u64 ((rd_T53 l0 x7_1).f0))).setCell ⟨gb265, 1, none⟩ (.int .i64 ((rd_T53 l0 x7_1).f1)))).cell? _ = some _ from hx266_0)); (try have hy266_1 := fun (n_ : Nat) => (show ((((w13.drewN n_).setCell ⟨gb265, 0, none⟩ (.int .u64 ((rd_T53 l0 x7_1).f0))).setCell ⟨gb265, 1, none⟩ (.int .i64 ((rd_T53 l0 x7_1).f1)))).cell? _ = some _ from hx266_1)); clear hn266_0; clear hn266_1; replace p266 := eq_true p266; replace q266 := eq_true q266))
                      repeat (go_quiet (first | ((with_reducible refine gate_dst (N := 4) rfl ?_); refine box_event ?hg (N := 4) ?hd (cs := #[.int .u64 0, .int .i64 0]) (t := 53) ?hr ?_; (case hd => rfl); (case hg => rfl); (case hr => first | (go_simp; done) | (go_simp; rfl)); intro gb265 hg w13 hbox hb; have n0_ := Aside0.mk (below_step (by repeat (first | (with_reducible first | exact HB.out | apply below_alloc | apply pw_below_drewN | apply below_drew1) | exact HB.out)) hb); have n1_ := Aside0.mk (hbox); have n2_ := Aside0.mk ((by rw [hg]; exact (below_size (by repeat (first | (with_reducible first | exact HB.out | apply below_alloc | apply pw_below_drewN | apply below_drew1) | exact HB.out))) : w.heap.size ≤ gb265)); have n3_ := Aside0.mk ((by rw [hg]; exact (below_size (by repeat (first | (with_reducible first | exact HB.out | apply below_alloc | apply pw_below_drewN | apply below_drew1) | exact HB.out))) : w.heap.size ≤ gb265)); clear HB; have HB := n0_; have BK265 := n1_; have GW265 := n2_; have GE265 := n3_; clear n0_ n1_ n2_ n3_; clear hb hbox hg; have hcz14_0 : w13.cell? ⟨gb265, 0, none⟩ = some (.int .u64 0) := (blk_cell BK265.out 0).trans rfl; have hcz14_1 : w13.cell? ⟨gb265, 1, none⟩ = some (.int .i64 0) := (blk_cell BK265.out 1).trans rfl; have hfz14_0 := blk_frozen BK265.out 0; have hfz14_1 := blk_frozen BK265.out 1; have p266 : 0 ≤ ((ji9) : Int) := of_decide_eq_true (by first | (with_reducible assumption) | assumption); have q266 : (ji9) < (l0.length : Int) := of_decide_eq_true (by first | (with_reducible assumption) | assumption); obtain ⟨ad266, e266, hx266_0, hx266_1⟩ := at_T53 HR0.out (ji9) p266 q266; obtain rfl : ad264 = ad266 := (by injection e266); have hn266_0 : ad264.block ≠ gb265 := Nat.ne_of_lt (Nat.lt_of_lt_of_le (by have := World.block_lt_of_cell? _ _ hx266_0; first | rwa [add_block] at this | exact this) GW265.out); have hn266_1 : ad264.block ≠ gb265 := Nat.ne_of_lt (Nat.lt_of_lt_of_le (by have := World.block_lt_of_cell? _ _ hx266_0; first | rwa [add_block] at this | exact this) GW265.out); replace hx266_0 := (HB.out.cell (World.block_lt_of_cell? w _ hx266_0)).trans hx266_0; replace hx266_1 := (HB.out.cell (World.block_lt_of_cell? w _ hx266_1)).trans hx266_1; replace hx266_0 := (cell_far (p := ⟨gb265, 0, none⟩) (by first | (rw [add_block]; exact hn266_0) | (show (Addr.add _ _).block ≠ _; rw [add_block]; exact hn266_0) | exact hn266_0) (.int .u64 ((rd_T53 l0 x7_1).f0))).trans hx266_0; replace hx266_1 := (cell_far (p := ⟨gb265, 0, none⟩) (by first | (rw [add_block]; exact hn266_0) | (show (Addr.add _ _).block ≠ _; rw [add_block]; exact hn266_0) | exact hn266_0) (.int .u64 ((rd_T53 l0 x7_1).f0))).trans hx266_1; replace hx266_0 := (cell_far (p := ⟨gb265, 1, none⟩) (by first | (rw [add_block]; exact hn266_1) | (show (Addr.add _ _).block ≠ _; rw [add_block]; exact hn266_1) | exact hn266_1) (.int .i64 ((rd_T53 l0 x7_1).f1))).trans hx266_0; replace hx266_1 := (cell_far (p := ⟨gb265, 1, none⟩) (by first | (rw [add_block]; exact hn266_1) | (show (Addr.add _ _).block ≠ _; rw [add_block]; exact hn266_1) | exact hn266_1) (.int .i64 ((rd_T53 l0 x7_1).f1))).trans hx266_1; (try have hy266_0 := fun (n_ : Nat) => (show ((((w13.drewN n_).setCell ⟨gb265, 0, none⟩ (.int .u64 ((rd_T53 l0 x7_1).f0))).setCell ⟨gb265, 1, none⟩ (.int .i64 ((rd_T53 l0 x7_1).f1)))).cell? _ = some _ from hx266_0)); (try have hy266_1 := fun (n_ : Nat) => (show ((((w13.drewN n_).setCell ⟨gb265, 0, none⟩ (.int .u64 ((rd_T53 l0 x7_1).f0))).setCell ⟨gb265, 1, none⟩ (.int .i64 ((rd_T53 l0 x7_1).f1)))).cell? _ = some _ from hx266_1)); clear hn266_0; clear hn266_1; replace p266 := eq_true p266; replace q266 := eq_true q266)); try go_wp2_with (first | ((with_reducible refine gate_dst (N := 4) rfl ?_); refine box_event ?hg (N := 4) ?hd (cs := #[.int .u64 0, .int .i64 0]) (t := 53) ?hr ?_; (case hd => rfl); (case hg => rfl); (case hr => first | (go_simp; done) | (go_simp; rfl)); intro gb265 hg w13 hbox hb; have n0_ := Aside0.mk (below_step (by repeat (first | (with_reducible first | exact HB.out | apply below_alloc | apply pw_below_drewN | apply below_drew1) | exact HB.out)) hb); have n1_ := Aside0.mk (hbox); have n2_ := Aside0.mk ((by rw [hg]; exact (below_size (by repeat (first | (with_reducible first | exact HB.out | apply below_alloc | apply pw_below_drewN | apply below_drew1) | exact HB.out))) : w.heap.size ≤ gb265)); have n3_ := Aside0.mk ((by rw [hg]; exact (below_size (by repeat (first | (with_reducible first | exact HB.out | apply below_alloc | apply pw_below_drewN | apply below_drew1) | exact HB.out))) : w.heap.size ≤ gb265)); clear HB; have HB := n0_; have BK265 := n1_; have GW265 := n2_; have GE265 := n3_; clear n0_ n1_ n2_ n3_; clear hb hbox hg; have hcz14_0 : w13.cell? ⟨gb265, 0, none⟩ = some (.int .u64 0) := (blk_cell BK265.out 0).trans rfl; have hcz14_1 : w13.cell? ⟨gb265, 1, none⟩ = some (.int .i64 0) := (blk_cell BK265.out 1).trans rfl; have hfz14_0 := blk_frozen BK265.out 0; have hfz14_1 := blk_frozen BK265.out 1; have p266 : 0 ≤ ((ji9) : Int) := of_decide_eq_true (by first | (with_reducible assumption) | assumption); have q266 : (ji9) < (l0.length : Int) := of_decide_eq_true (by first | (with_reducible assumption) | assumption); obtain ⟨ad266, e266, hx266_0, hx266_1⟩ := at_T53 HR0.out (ji9) p266 q266; obtain rfl : ad264 = ad266 := (by injection e266); have hn266_0 : ad264.block ≠ gb265 := Nat.ne_of_lt (Nat.lt_of_lt_of_le (by have := World.block_lt_of_cell? _ _ hx266_0; first | rwa [add_block] at this | exact this) GW265.out); have hn266_1 : ad264.block ≠ gb265 := Nat.ne_of_lt (Nat.lt_of_lt_of_le (by have := World.block_lt_of_cell? _ _ hx266_0; first | rwa [add_block] at this | exact this) GW265.out); replace hx266_0 := (HB.out.cell (World.block_lt_of_cell? w _ hx266_0)).trans hx266_0; replace hx266_1 := (HB.out.cell (World.block_lt_of_cell? w _ hx266_1)).trans hx266_1; replace hx266_0 := (cell_far (p := ⟨gb265, 0, none⟩) (by first | (rw [add_block]; exact hn266_0) | (show (Addr.add _ _).block ≠ _; rw [add_block]; exact hn266_0) | exact hn266_0) (.int .u64 ((rd_T53 l0 x7_1).f0))).trans hx266_0; replace hx266_1 := (cell_far (p := ⟨gb265, 0, none⟩) (by first | (rw [add_block]; exact hn266_0) | (show (Addr.add _ _).block ≠ _; rw [add_block]; exact hn266_0) | exact hn266_0) (.int .u64 ((rd_T53 l0 x7_1).f0))).trans hx266_1; replace hx266_0 := (cell_far (p := ⟨gb265, 1, none⟩) (by first | (rw [add_block]; exact hn266_1) | (show (Addr.add _ _).block ≠ _; rw [add_block]; exact hn266_1) | exact hn266_1) (.int .i64 ((rd_T53 l0 x7_1).f1))).trans hx266_0; replace hx266_1 := (cell_far (p := ⟨gb265, 1, none⟩) (by first | (rw [add_block]; exact hn266_1) | (show (Addr.add _ _).block ≠ _; rw [add_block]; exact hn266_1) | exact hn266_1) (.int .i64 ((rd_T53 l0 x7_1).f1))).trans hx266_1; (try have hy266_0 := fun (n_ : Nat) => (show ((((w13.drewN n_).setCell ⟨gb265, 0, none⟩ (.int .u64 ((rd_T53 l0 x7_1).f0))).setCell ⟨gb265, 1, none⟩ (.int .i64 ((rd_T53 l0 x7_1).f1)))).cell? _ = some _ from hx266_0)); (try have hy266_1 := fun (n_ : Nat) => (show ((((w13.drewN n_).setCell ⟨gb265, 0, none⟩ (.int .u64 ((rd_T53 l0 x7_1).f0))).setCell ⟨gb265, 1, none⟩ (.int .i64 ((rd_T53 l0 x7_1).f1)))).cell? _ = some _ from hx266_1)); clear hn266_0; clear hn266_1; replace p266 := eq_true p266; replace q266 := eq_true q266)))
                      go_ret
                      (try simp only [hji9])
                      exact ⟨by first | rfl | (simp [errW_none, errW_some] <;> rfl) | (simp only [← hji9]; first | rfl | (simp [errW_none, errW_some] <;> rfl)) | (simp [*, errW_none, errW_some] <;> rfl), by repeat (first | (with_reducible first | exact HB.out | apply below_alloc | apply pw_below_drewN | apply below_drew1 | refine below_set ?_ GE265.out) | exact HB.out)⟩
                    · rw [if_neg c12] at H
                      have c12b0 : (((rd_T53 l0 (ji9)).f0) == ((rd_T53 l0 x7_1).f0)) = false := beq_eq_false_iff_ne.mpr c12
                      have c12b1 : (((rd_T53 l0 (ji9)).f0) != ((rd_T53 l0 x7_1).f0)) = true := bne_iff_ne.mpr c12
                      have H' := Aside0.mk H
                      clear H
                      have p264 : 0 ≤ (x7_1 : Int) := of_decide_eq_true (by first | (with_reducible assumption) | assumption)
                      have q264 : x7_1 < (l0.length : Int) := of_decide_eq_true (by first | (with_reducible assumption) | assumption)
                      obtain ⟨ad264, e264, hx264_0, hx264_1⟩ := at_T53 HR0.out x7_1 p264 q264
                      cases e264
                      replace hx264_0 := (HB.out.cell (World.block_lt_of_cell? w _ hx264_0)).trans hx264_0
                      replace hx264_1 := (HB.out.cell (World.block_lt_of_cell? w _ hx264_1)).trans hx264_1
                      replace p264 := eq_true p264
                      replace q264 := eq_true q264
                      go_wp2_with (first | ((with_reducible refine gate_dst (N := 4) rfl ?_); refine box_event ?hg (N := 4) ?hd (cs := #[.int .u64 0, .int .i64 0]) (t := 53) ?hr ?_; (case hd => rfl); (case hg => rfl); (case hr => first | (go_simp; done) | (go_simp; rfl)); intro gb265 hg w15 hbox hb; have n0_ := Aside0.mk (below_step (by repeat (first | (with_reducible first | exact HB.out | apply below_alloc | apply pw_below_drewN | apply below_drew1) | exact HB.out)) hb); have n1_ := Aside0.mk (hbox); have n2_ := Aside0.mk ((by rw [hg]; exact (below_size (by repeat (first | (with_reducible first | exact HB.out | apply below_alloc | apply pw_below_drewN | apply below_drew1) | exact HB.out))) : w.heap.size ≤ gb265)); have n3_ := Aside0.mk ((by rw [hg]; exact (below_size (by repeat (first | (with_reducible first | exact HB.out | apply below_alloc | apply pw_below_drewN | apply below_drew1) | exact HB.out))) : w.heap.size ≤ gb265)); clear HB; have HB := n0_; have BK265 := n1_; have GW265 := n2_; have GE265 := n3_; clear n0_ n1_ n2_ n3_; clear hb hbox hg; have hcz16_0 : w15.cell? ⟨gb265, 0, none⟩ = some (.int .u64 0) := (blk_cell BK265.out 0).trans rfl; have hcz16_1 : w15.cell? ⟨gb265, 1, none⟩ = some (.int .i64 0) := (blk_cell BK265.out 1).trans rfl; have hfz16_0 := blk_frozen BK265.out 0; have hfz16_1 := blk_frozen BK265.out 1; have p266 : 0 ≤ ((ji9) : Int) := of_decide_eq_true (by first | (with_reducible assumption) | assumption); have q266 : (ji9) < (l0.length : Int) := of_decide_eq_true (by first | (with_reducible assumption) | assumption); obtain ⟨ad266, e266, hx266_0, hx266_1⟩ := at_T53 HR0.out (ji9) p266 q266; obtain rfl : ad264 = ad266 := (by injection e266); have hn266_0 : ad264.block ≠ gb265 := Nat.ne_of_lt (Nat.lt_of_lt_of_le (by have := World.block_lt_of_cell? _ _ hx266_0; first | rwa [add_block] at this | exact this) GW265.out); have hn266_1 : ad264.block ≠ gb265 := Nat.ne_of_lt (Nat.lt_of_lt_of_le (by have := World.block_lt_of_cell? _ _ hx266_0; first | rwa [add_block] at this | exact this) GW265.out); replace hx266_0 := (HB.out.cell (World.block_lt_of_cell? w _ hx266_0)).trans hx266_0; replace hx266_1 := (HB.out.cell (World.block_lt_of_cell? w _ hx266_1)).trans hx266_1; replace hx266_0 := (cell_far (p := ⟨gb265, 0, none⟩) (by first | (rw [add_block]; exact hn266_0) | (show (Addr.add _ _).block ≠ _; rw [add_block]; exact hn266_0) | exact hn266_0) (.int .u64 ((rd_T53 l0 x7_1).f0))).trans hx266_0; replace hx266_1 := (cell_far (p := ⟨gb265, 0, none⟩) (by first | (rw [add_block]; exact hn266_0) | (show (Addr.add _ _).block ≠ _; rw [add_block]; exact hn266_0) | exact hn266_0) (.int .u64 ((rd_T53 l0 x7_1).f0))).trans hx266_1; replace hx266_0 := (cell_far (p := ⟨gb265, 1, none⟩) (by first | (rw [add_block]; exact hn266_1) | (show (Addr.add _ _).block ≠ _; rw [add_block]; exact hn266_1) | exact hn266_1) (.int .i64 ((rd_T53 l0 x7_1).f1))).trans hx266_0; replace hx266_1 := (cell_far (p := ⟨gb265, 1, none⟩) (by first | (rw [add_block]; exact hn266_1) | (show (Addr.add _ _).block ≠ _; rw [add_block]; exact hn266_1) | exact hn266_1) (.int .i64 ((rd_T53 l0 x7_1).f1))).trans hx266_1; (try have hy266_0 := fun (n_ : Nat) => (show ((((w15.drewN n_).setCell ⟨gb265, 0, none⟩ (.int .u64 ((rd_T53 l0 x7_1).f0))).setCell ⟨gb265, 1, none⟩ (.int .i64 ((rd_T53 l0 x7_1).f1)))).cell? _ = some _ from hx266_0)); (try have hy266_1 := fun (n_ : Nat) => (show ((((w15.drewN n_).setCell ⟨gb265, 0, none⟩ (.int .u64 ((rd_T53 l0 x7_1).f0))).setCell ⟨gb265, 1, none⟩ (.int .i64 ((rd_T53 l0 x7_1).f1)))).cell? _ = some _ from hx266_1)); clear hn266_0; clear hn266_1; replace p266 := eq_true p266; replace q266 := eq_true q266))
                      repeat (go_quiet (first | ((with_reducible refine gate_dst (N := 4) rfl ?_); refine box_event ?hg (N := 4) ?hd (cs := #[.int .u64 0, .int .i64 0]) (t := 53) ?hr ?_; (case hd => rfl); (case hg => rfl); (case hr => first | (go_simp; done) | (go_simp; rfl)); intro gb265 hg w15 hbox hb; have n0_ := Aside0.mk (below_step (by repeat (first | (with_reducible first | exact HB.out | apply below_alloc | apply pw_below_drewN | apply below_drew1) | exact HB.out)) hb); have n1_ := Aside0.mk (hbox); have n2_ := Aside0.mk ((by rw [hg]; exact (below_size (by repeat (first | (with_reducible first | exact HB.out | apply below_alloc | apply pw_below_drewN | apply below_drew1) | exact HB.out))) : w.heap.size ≤ gb265)); have n3_ := Aside0.mk ((by rw [hg]; exact (below_size (by repeat (first | (with_reducible first | exact HB.out | apply below_alloc | apply pw_below_drewN | apply below_drew1) | exact HB.out))) : w.heap.size ≤ gb265)); clear HB; have HB := n0_; have BK265 := n1_; have GW265 := n2_; have GE265 := n3_; clear n0_ n1_ n2_ n3_; clear hb hbox hg; have hcz16_0 : w15.cell? ⟨gb265, 0, none⟩ = some (.int .u64 0) := (blk_cell BK265.out 0).trans rfl; have hcz16_1 : w15.cell? ⟨gb265, 1, none⟩ = some (.int .i64 0) := (blk_cell BK265.out 1).trans rfl; have hfz16_0 := blk_frozen BK265.out 0; have hfz16_1 := blk_frozen BK265.out 1; have p266 : 0 ≤ ((ji9) : Int) := of_decide_eq_true (by first | (with_reducible assumption) | assumption); have q266 : (ji9) < (l0.length : Int) := of_decide_eq_true (by first | (with_reducible assumption) | assumption); obtain ⟨ad266, e266, hx266_0, hx266_1⟩ := at_T53 HR0.out (ji9) p266 q266; obtain rfl : ad264 = ad266 := (by injection e266); have hn266_0 : ad264.block ≠ gb265 := Nat.ne_of_lt (Nat.lt_of_lt_of_le (by have := World.block_lt_of_cell? _ _ hx266_0; first | rwa [add_block] at this | exact this) GW265.out); have hn266_1 : ad264.block ≠ gb265 := Nat.ne_of_lt (Nat.lt_of_lt_of_le (by have := World.block_lt_of_cell? _ _ hx266_0; first | rwa [add_block] at this | exact this) GW265.out); replace hx266_0 := (HB.out.cell (World.block_lt_of_cell? w _ hx266_0)).trans hx266_0; replace hx266_1 := (HB.out.cell (World.block_lt_of_cell? w _ hx266_1)).trans hx266_1; replace hx266_0 := (cell_far (p := ⟨gb265, 0, none⟩) (by first | (rw [add_block]; exact hn266_0) | (show (Addr.add _ _).block ≠ _; rw [add_block]; exact hn266_0) | exact hn266_0) (.int .u64 ((rd_T53 l0 x7_1).f0))).trans hx266_0; replace hx266_1 := (cell_far (p := ⟨gb265, 0, none⟩) (by first | (rw [add_block]; exact hn266_0) | (show (Addr.add _ _).block ≠ _; rw [add_block]; exact hn266_0) | exact hn266_0) (.int .u64 ((rd_T53 l0 x7_1).f0))).trans hx266_1; replace hx266_0 := (cell_far (p := ⟨gb265, 1, none⟩) (by first | (rw [add_block]; exact hn266_1) | (show (Addr.add _ _).block ≠ _; rw [add_block]; exact hn266_1) | exact hn266_1) (.int .i64 ((rd_T53 l0 x7_1).f1))).trans hx266_0; replace hx266_1 := (cell_far (p := ⟨gb265, 1, none⟩) (by first | (rw [add_block]; exact hn266_1) | (show (Addr.add _ _).block ≠ _; rw [add_block]; exact hn266_1) | exact hn266_1) (.int .i64 ((rd_T53 l0 x7_1).f1))).trans hx266_1; (try have hy266_0 := fun (n_ : Nat) => (show ((((w15.drewN n_).setCell ⟨gb265, 0, none⟩ (.int .u64 ((rd_T53 l0 x7_1).f0))).setCell ⟨gb265, 1, none⟩ (.int .i64 ((rd_T53 l0 x7_1).f1)))).cell? _ = some _ from hx266_0)); (try have hy266_1 := fun (n_ : Nat) => (show ((((w15.drewN n_).setCell ⟨gb265, 0, none⟩ (.int .u64 ((rd_T53 l0 x7_1).f0))).setCell ⟨gb265, 1, none⟩ (.int .i64 ((rd_T53 l0 x7_1).f1)))).cell? _ = some _ from hx266_1)); clear hn266_0; clear hn266_1; replace p266 := eq_true p266; replace q266 := eq_true q266)); try go_wp2_with (first | ((with_reducible refine gate_dst (N := 4) rfl ?_); refine box_event ?hg (N := 4) ?hd (cs := #[.int .u64 0, .int .i64 0]) (t := 53) ?hr ?_; (case hd => rfl); (case hg => rfl); (case hr => first | (go_simp; done) | (go_simp; rfl)); intro gb265 hg w15 hbox hb; have n0_ := Aside0.mk (below_step (by repeat (first | (with_reducible first | exact HB.out | apply below_alloc | apply pw_below_drewN | apply below_drew1) | exact HB.out)) hb); have n1_ := Aside0.mk (hbox); have n2_ := Aside0.mk ((by rw [hg]; exact (below_size (by repeat (first | (with_reducible first | exact HB.out | apply below_alloc | apply pw_below_drewN | apply below_drew1) | exact HB.out))) : w.heap.size ≤ gb265)); have n3_ := Aside0.mk ((by rw [hg]; exact (below_size (by repeat (first | (with_reducible first | exact HB.out | apply below_alloc | apply pw_below_drewN | apply below_drew1) | exact HB.out))) : w.heap.size ≤ gb265)); clear HB; have HB := n0_; have BK265 := n1_; have GW265 := n2_; have GE265 := n3_; clear n0_ n1_ n2_ n3_; clear hb hbox hg; have hcz16_0 : w15.cell? ⟨gb265, 0, none⟩ = some (.int .u64 0) := (blk_cell BK265.out 0).trans rfl; have hcz16_1 : w15.cell? ⟨gb265, 1, none⟩ = some (.int .i64 0) := (blk_cell BK265.out 1).trans rfl; have hfz16_0 := blk_frozen BK265.out 0; have hfz16_1 := blk_frozen BK265.out 1; have p266 : 0 ≤ ((ji9) : Int) := of_decide_eq_true (by first | (with_reducible assumption) | assumption); have q266 : (ji9) < (l0.length : Int) := of_decide_eq_true (by first | (with_reducible assumption) | assumption); obtain ⟨ad266, e266, hx266_0, hx266_1⟩ := at_T53 HR0.out (ji9) p266 q266; obtain rfl : ad264 = ad266 := (by injection e266); have hn266_0 : ad264.block ≠ gb265 := Nat.ne_of_lt (Nat.lt_of_lt_of_le (by have := World.block_lt_of_cell? _ _ hx266_0; first | rwa [add_block] at this | exact this) GW265.out); have hn266_1 : ad264.block ≠ gb265 := Nat.ne_of_lt (Nat.lt_of_lt_of_le (by have := World.block_lt_of_cell? _ _ hx266_0; first | rwa [add_block] at this | exact this) GW265.out); replace hx266_0 := (HB.out.cell (World.block_lt_of_cell? w _ hx266_0)).trans hx266_0; replace hx266_1 := (HB.out.cell (World.block_lt_of_cell? w _ hx266_1)).trans hx266_1; replace hx266_0 := (cell_far (p := ⟨gb265, 0, none⟩) (by first | (rw [add_block]; exact hn266_0) | (show (Addr.add _ _).block ≠ _; rw [add_block]; exact hn266_0) | exact hn266_0) (.int .u64 ((rd_T53 l0 x7_1).f0))).trans hx266_0; replace hx266_1 := (cell_far (p := ⟨gb265, 0, none⟩) (by first | (rw [add_block]; exact hn266_0) | (show (Addr.add _ _).block ≠ _; rw [add_block]; exact hn266_0) | exact hn266_0) (.int .u64 ((rd_T53 l0 x7_1).f0))).trans hx266_1; replace hx266_0 := (cell_far (p := ⟨gb265, 1, none⟩) (by first | (rw [add_block]; exact hn266_1) | (show (Addr.add _ _).block ≠ _; rw [add_block]; exact hn266_1) | exact hn266_1) (.int .i64 ((rd_T53 l0 x7_1).f1))).trans hx266_0; replace hx266_1 := (cell_far (p := ⟨gb265, 1, none⟩) (by first | (rw [add_block]; exact hn266_1) | (show (Addr.add _ _).block ≠ _; rw [add_block]; exact hn266_1) | exact hn266_1) (.int .i64 ((rd_T53 l0 x7_1).f1))).trans hx266_1; (try have hy266_0 := fun (n_ : Nat) => (show ((((w15.drewN n_).setCell ⟨gb265, 0, none⟩ (.int .u64 ((rd_T53 l0 x7_1).f0))).setCell ⟨gb265, 1, none⟩ (.int .i64 ((rd_T53 l0 x7_1).f1)))).cell? _ = some _ from hx266_0)); (try have hy266_1 := fun (n_ : Nat) => (show ((((w15.drewN n_).setCell ⟨gb265, 0, none⟩ (.int .u64 ((rd_T53 l0 x7_1).f0))).setCell ⟨gb265, 1, none⟩ (.int .i64 ((rd_T53 l0 x7_1).f1)))).cell? _ = some _ from hx266_1)); clear hn266_0; clear hn266_1; replace p266 := eq_true p266; replace q266 := eq_true q266)))
                      go_roundg k1
                      case measure => have := HK1.out; omega
                      case rel => exact ⟨(wrap64 (x7_1 + 1)), (by first | rfl | (simp; done) | (simp [*]; done)), H', ⟨by have := HK1.out; omega⟩, ⟨by repeat (first | (with_reducible first | exact HB.out | apply below_alloc | apply pw_below_drewN | apply below_drew1 | refine below_set ?_ GE265.out) | exact HB.out)⟩⟩
                  · rw [if_neg c11] at H
                    exact absurd H (by simp)
                · rw [if_neg c10] at H
                  exact absurd H (by simp)
              · rw [if_neg c8] at H
                have c8b0 : decide (0 < x7_1) = false := decide_eq_false c8
                clear c8
                have H' := Aside0.mk H
                clear H
                have p264 : 0 ≤ (x7_1 : Int) := of_decide_eq_true (by first | (with_reducible assumption) | assumption)
                have q264 : x7_1 < (l0.length : Int) := of_decide_eq_true (by first | (with_reducible assumption) | assumption)
                obtain ⟨ad264, e264, hx264_0, hx264_1⟩ := at_T53 HR0.out x7_1 p264 q264
                cases e264
                replace hx264_0 := (HB.out.cell (World.block_lt_of_cell? w _ hx264_0)).trans hx264_0
                replace hx264_1 := (HB.out.cell (World.block_lt_of_cell? w _ hx264_1)).trans hx264_1
                replace p264 := eq_true p264
                replace q264 := eq_true q264
                go_wp2_with (first | ((with_reducible refine gate_dst (N := 4) rfl ?_); refine box_event ?hg (N := 4) ?hd (cs := #[.int .u64 0, .int .i64 0]) (t := 53) ?hr ?_; (case hd => rfl); (case hg => rfl); (case hr => first | (go_simp; done) | (go_simp; rfl)); intro gb265 hg w17 hbox hb; have n0_ := Aside0.mk (below_step (by repeat (first | (with_reducible first | exact HB.out | apply below_alloc | apply pw_below_drewN | apply below_drew1) | exact HB.out)) hb); have n1_ := Aside0.mk (hbox); have n2_ := Aside0.mk ((by rw [hg]; exact (below_size (by repeat (first | (with_reducible first | exact HB.out | apply below_alloc | apply pw_below_drewN | apply below_drew1) | exact HB.out))) : w.heap.size ≤ gb265)); have n3_ := Aside0.mk ((by rw [hg]; exact (below_size (by repeat (first | (with_reducible first | exact HB.out | apply below_alloc | apply pw_below_drewN | apply below_drew1) | exact HB.out))) : w.heap.size ≤ gb265)); clear HB; have HB := n0_; have BK265 := n1_; have GW265 := n2_; have GE265 := n3_; clear n0_ n1_ n2_ n3_; clear hb hbox hg; have hcz18_0 : w17.cell? ⟨gb265, 0, none⟩ = some (.int .u64 0) := (blk_cell BK265.out 0).trans rfl; have hcz18_1 : w17.cell? ⟨gb265, 1, none⟩ = some (.int .i64 0) := (blk_cell BK265.out 1).trans rfl; have hfz18_0 := blk_frozen BK265.out 0; have hfz18_1 := blk_frozen BK265.out 1))
                repeat (go_quiet (first | ((with_reducible refine gate_dst (N := 4) rfl ?_); refine box_event ?hg (N := 4) ?hd (cs := #[.int .u64 0, .int .i64 0]) (t := 53) ?hr ?_; (case hd => rfl); (case hg => rfl); (case hr => first | (go_simp; done) | (go_simp; rfl)); intro gb265 hg w17 hbox hb; have n0_ := Aside0.mk (below_step (by repeat (first | (with_reducible first | exact HB.out | apply below_alloc | apply pw_below_drewN | apply below_drew1) | exact HB.out)) hb); have n1_ := Aside0.mk (hbox); have n2_ := Aside0.mk ((by rw [hg]; exact (below_size (by repeat (first | (with_reducible first | exact HB.out | apply below_alloc | apply pw_below_drewN | apply below_drew1) | exact HB.out))) : w.heap.size ≤ gb265)); have n3_ := Aside0.mk ((by rw [hg]; exact (below_size (by repeat (first | (with_reducible first | exact HB.out | apply below_alloc | apply pw_below_drewN | apply below_drew1) | exact HB.out))) : w.heap.size ≤ gb265)); clear HB; have HB := n0_; have BK265 := n1_; have GW265 := n2_; have GE265 := n3_; clear n0_ n1_ n2_ n3_; clear hb hbox hg; have hcz18_0 : w17.cell? ⟨gb265, 0, none⟩ = some (.int .u64 0) := (blk_cell BK265.out 0).trans rfl; have hcz18_1 : w17.cell? ⟨gb265, 1, none⟩ = some (.int .i64 0) := (blk_cell BK265.out 1).trans rfl; have hfz18_0 := blk_frozen BK265.out 0; have hfz18_1 := blk_frozen BK265.out 1)); try go_wp2_with (first | ((with_reducible refine gate_dst (N := 4) rfl ?_); refine box_event ?hg (N := 4) ?hd (cs := #[.int .u64 0, .int .i64 0]) (t := 53) ?hr ?_; (case hd => rfl); (case hg => rfl); (case hr => first | (go_simp; done) | (go_simp; rfl)); intro gb265 hg w17 hbox hb; have n0_ := Aside0.mk (below_step (by repeat (first | (with_reducible first | exact HB.out | apply below_alloc | apply pw_below_drewN | apply below_drew1) | exact HB.out)) hb); have n1_ := Aside0.mk (hbox); have n2_ := Aside0.mk ((by rw [hg]; exact (below_size (by repeat (first | (with_reducible first | exact HB.out | apply below_alloc | apply pw_below_drewN | apply below_drew1) | exact HB.out))) : w.heap.size ≤ gb265)); have n3_ := Aside0.mk ((by rw [hg]; exact (below_size (by repeat (first | (with_reducible first | exact HB.out | apply below_alloc | apply pw_below_drewN | apply below_drew1) | exact HB.out))) : w.heap.size ≤ gb265)); clear HB; have HB := n0_; have BK265 := n1_; have GW265 := n2_; have GE265 := n3_; clear n0_ n1_ n2_ n3_; clear hb hbox hg; have hcz18_0 : w17.cell? ⟨gb265, 0, none⟩ = some (.int .u64 0) := (blk_cell BK265.out 0).trans rfl; have hcz18_1 : w17.cell? ⟨gb265, 1, none⟩ = some (.int .i64 0) := (blk_cell BK265.out 1).trans rfl; have hfz18_0 := blk_frozen BK265.out 0; have hfz18_1 := blk_frozen BK265.out 1)))
                go_roundg k1
                case measure => have := HK1.out; omega
                case rel => exact ⟨(wrap64 (x7_1 + 1)), (by first | rfl | (simp; done) | (simp [*]; done)), H', ⟨by have := HK1.out; omega⟩, ⟨by repeat (first | (with_reducible first | exact HB.out | apply below_alloc | apply pw_below_drewN | apply below_drew1 | refine below_set ?_ GE265.out) | exact HB.out)⟩⟩
          · rw [if_neg c4] at H
            exact absurd H (by simp)
        · rw [if_neg c3] at H
          exact absurd H (by simp)
      · rw [if_neg c2] at H
        have c2b0 : decide (x7_1 < (l0.length : Int)) = false := decide_eq_false c2
        clear c2
        obtain rfl := Option.some.inj H
        go_wp2
        repeat (go_quiet (fail); try go_wp2)
        go_ret
        exact ⟨by first | rfl | (simp [errW_none, errW_some] <;> rfl) | (simp [*, errW_none, errW_some] <;> rfl), by repeat (first | (with_reducible first | exact HB.out | apply below_alloc | apply pw_below_drewN | apply below_drew1) | exact HB.out)⟩
def slices_Repeat_uint64_uint64.f (l0 : List Int) (a1 : Int) : Option (List Int) := if l0.length = 1 then (if 0 ≤ a1 ∧ a1 ≤ 1000000 then some (List.replicate a1.toNat (rd l0 0)) else none) else none
set_option maxHeartbeats 8000000 in
set_option maxRecDepth 100000 in
theorem slices_Repeat_uint64_uint64.calls (A0 : Option Addr) (c0 : Nat) (l0 : List Int) (a1 : Int) (r : List Int) (w : World) (hr0 : Kd.C (Kd.int .u64) w A0 l0.length l0) (hc0 : l0.length ≤ c0) (h : slices_Repeat_uint64_uint64.f l0 a1 = some r) :
    Calls Try.prog 88 #[.slice A0 l0.length c0, .int .i64 a1] w fun e w' => ∃ v0_ : Value, e = .returned (v0_) ∧ Kd.R (Kd.int .u64) 51 w' w.heap.size (fun _ => True) v0_ r ∧ Below w.heap.size w w' := by
  unfold slices_Repeat_uint64_uint64.f at h
  by_cases hl : l0.length = 1
  case neg => rw [if_neg hl] at h; exact absurd h (by simp)
  rw [if_pos hl] at h
  by_cases ha : 0 ≤ a1 ∧ a1 ≤ 1000000
  case neg => rw [if_neg ha] at h; exact absurd h (by simp)
  rw [if_pos ha] at h
  obtain rfl := Option.some.inj h
  clear h
  have c1 : decide (a1 < 0) = false := decide_eq_false (by omega)
  have hm : ∀ w : World, Calls Try.prog 102 #[.int .u64 1, .int .u64 a1] w fun e w' => e = .returned (.tuple #[.int .u64 0, .int .u64 a1]) ∧ w' = w := fun w => by
    have m := Try.bits_Mul 1 a1.toNat (by omega) (by omega) w
    rw [show 1 * a1.toNat / 18446744073709551616 = 0 by omega, show 1 * a1.toNat % 18446744073709551616 = a1.toNat by omega] at m
    rw [Int.toNat_of_nonneg ha.1] at m
    exact m
  have c2 : decide (9223372036854775807 < a1) = false := decide_eq_false (by omega)
  obtain ⟨i0, hi, hz0, hz1, hz2⟩ := info_parts info51
  obtain ⟨N, hN⟩ : ∃ N, N = a1.toNat := ⟨_, rfl⟩
  have hmk : ∀ w, (Instr.makeSlice 38 (.int .i64 a1) (.int .i64 a1)).run Try.prog w = .ok (.slice (some ⟨w.heap.size, 0, none⟩) N N) (w.alloc (.cells (List.replicate N (Value.int .u64 0)).toArray 51)) := fun w => by
    have h := run_make (P := Try.prog) w 38 51 i0 _ Try.underlying38 hi hz0 .i64 .i64 a1 a1 ha.1 (Int.le_refl _) (by rw [hz2]; omega) (by omega)
    rw [h, ← hN, hz1]
    congr 2
    congr 1
    apply Array.ext
    · simp [madeCells]
    · intro j h1 h2
      simp [madeCells, Value.cells, Nat.mod_one]
  have hN' := Aside0.mk hN
  have HMK := Aside0.mk hmk
  clear hmk
  have hszE : (Try.prog.info? 51).map (·.size) = some 1 := by rw [hi]; simp [hz1]
  obtain ⟨X, rfl⟩ := List.length_eq_one_iff.mp hl
  obtain ⟨A, hA⟩ : ∃ A, A0 = some A ∧ w.cell? A = some (.int .u64 X) := by
    obtain ⟨ad, e, hx⟩ := Kd.at_int hr0 0 (by omega) (by simp)
    exact ⟨ad, e, by simpa [Addr.add, rd] using hx⟩
  obtain ⟨rfl, hcell⟩ := hA
  clear hN hl
  have hu38 := Try.underlying38
  have hAlt : A.block < w.heap.size := by
    rcases Nat.lt_or_ge A.block w.heap.size with h' | h'
    · exact h'
    · simp [World.cell?, Array.getElem?_eq_none h'] at hcell
  have hcp : ∀ w3, Below w.heap.size w w3 → ∀ (j : Nat) v, (List.replicate (Nat.min 1 N) (Value.int .u64 X))[j]? = some v → w3.cell? (A.add j) = some v := fun w3 hb j v hv => by
    rw [List.getElem?_replicate] at hv
    split at hv
    · rename_i hj
      obtain rfl : j = 0 := by have h_ : Nat.min 1 N ≤ 1 := Nat.min_le_left 1 N; omega
      obtain rfl := Option.some.inj hv
      rw [show A.add 0 = A by simp [Addr.add], hb.cell hAlt]
      exact hcell
    · cases hv
  show Calls Try.prog 88 #[.slice (some A) 1 c0, .int .i64 a1] w _
  go_enter Try.func88, Try.ntmps88
  go_wp2_with (first | (go_at_call 102; (with_reducible refine (hm _).mono ?_); rintro e w2 ⟨rfl, rfl⟩) | ((with_reducible refine gate_dst (N := 30) rfl ?_); (refine Build.make_event rfl (D := 30) rfl (cs := (List.replicate N (Value.int .u64 0)).toArray) (t := 51) N N ?hr ?_); (case hr => (have h_ := HMK.out w2); first | (go_simp; done) | (go_simp; rfl) | (go_simp; rw [h_]; rfl)); intro g hg w3 hblk hb; subst hg) | ((with_reducible refine gate_dst (N := 33) rfl ?_); (refine wpList_copy_splice rfl (.tmp 31) (.tmp 32) 38 38 rfl 51 Try.underlying38 hszE _ _ _ _ _ _ rfl rfl w2.heap.size 0 (List.replicate N (.int .u64 0)) 51 (by first | exact hblk | simpa using hblk) (List.replicate (Nat.min 1 N) (.int .u64 X)) (by simp) ?hpos ?hfit ?h1 w2.heap.size w2 hb (Nat.le_refl _) ?_); (case hpos => intro h0_; exact ⟨rfl, A, rfl, fun j v hv => hcp w3 hb j v hv⟩); (case hfit => simp only [List.length_replicate, Nat.zero_add]; exact Nat.min_le_right 1 N); (case h1 => intro v hv; rw [List.eq_of_mem_replicate hv]; rfl); intro w4 hblk4 hb4))
  have HBK := Aside0.mk hblk4
  have HB4 := Aside0.mk hb4
  clear hblk4 hb4 hcp hblk hb
  obtain ⟨Z, hZ⟩ : ∃ Z, Z = Value.int .u64 0 := ⟨_, rfl⟩
  go_loopg [8] (N + 1) (fun kq v8 w' => ∃ n9 : Int, v8 = .int .i64 n9 ∧ Aside0 (0 ≤ n9 ∧ n9 ≤ N ∧ (N : Int) + 1 ≤ kq + n9 ∧ (0 < N → 1 ≤ n9)) ∧ Aside0 (w'.heap[w2.heap.size]? = some (.cells (List.replicate n9.toNat (Value.int .u64 X) ++ List.replicate (N - n9.toNat) (Value.int .u64 0)).toArray 51 (0, 0))) ∧ Aside0 (Below w2.heap.size w2 w'))
  case atStart =>
    refine ⟨((Nat.min 1 N : Nat) : Int), (by first | rfl | (simp; done) | (simp [goInt]; done)), ⟨by have h1_ : Nat.min 1 N ≤ N := Nat.min_le_right 1 N; have h2_ : 0 < N → Nat.min 1 N = 1 := fun h => Nat.min_eq_left h; omega⟩, ⟨?_⟩, HB4⟩
    refine Eq.trans HBK.out ?_
    congr 2
    simp [splice]
  case round =>
    clear HBK HB4
    obtain ⟨n9, rfl, HK, HBK, HB⟩ := hrel
    cases gk with
    | zero => have := HK.out; exact absurd this (by omega)
    | succ k1 =>
      by_cases hi9 : n9 < (N : Int)
      · have d5 : decide (n9 < (N : Int)) = true := decide_eq_true hi9
        have hk9 := HK.out
        have p9 : 0 ≤ n9 := by omega
        have q9 : n9 ≤ (N : Int) := by omega
        have hne := eq_false (show ¬ N = n9.toNat by omega)
        have hm1 : Nat.min n9.toNat (N - n9.toNat) ≤ n9.toNat := Nat.min_le_left _ _
        have hm2 : Nat.min n9.toNat (N - n9.toNat) ≤ N - n9.toNat := Nat.min_le_right _ _
        have hm3 : 0 < Nat.min n9.toNat (N - n9.toNat) := by rw [show ∀ a b, Nat.min a b = min a b from fun _ _ => rfl]; omega
        have hsrc : ∀ (j : Nat) v, (List.replicate (Nat.min n9.toNat (N - n9.toNat)) (Value.int .u64 X))[j]? = some v → wr.cell? (Addr.add ⟨w2.heap.size, 0, none⟩ j) = some v := fun j v hv => by
          rw [List.getElem?_replicate] at hv
          split at hv
          · rename_i hj
            obtain rfl := Option.some.inj hv
            rw [show Addr.add ⟨w2.heap.size, 0, none⟩ j = ⟨w2.heap.size, j, none⟩ by unfold Addr.add; split <;> simp_all]
            unfold World.cell?
            simp only [HBK.out]
            have hjn : j < n9.toNat := by omega
            simp [List.getElem?_append_left, hjn]
          · cases hv
        obtain ⟨M, hM⟩ : ∃ M, M = Nat.min n9.toNat (N - n9.toNat) := ⟨_, rfl⟩
        rw [← hM] at hm1 hm2 hm3 hsrc
        have hM' := Aside0.mk hM
        clear hM
        go_wp2
        go_region_law (refine step_copy_splice rfl (.tmp 41) (.tmp 44) 38 38 rfl 51 Try.underlying38 hszE (some ⟨w2.heap.size, n9.toNat, none⟩) (some ⟨w2.heap.size, 0, none⟩) (N - n9.toNat) (N - n9.toNat) n9.toNat N (by simp [Act.eval, Act.put, hne]) (by simp [Act.eval, Act.put]) w2.heap.size n9.toNat (List.replicate n9.toNat (Value.int .u64 X) ++ List.replicate (N - n9.toNat) (Value.int .u64 0)) 51 HBK.out (List.replicate M (Value.int .u64 X)) (by rw [List.length_replicate]; exact hM'.out) (fun _ => ⟨rfl, _, rfl, hsrc⟩) (by simp only [List.length_append, List.length_replicate]; omega) (fun v hv => by rw [List.eq_of_mem_replicate hv]; rfl) w2.heap.size w2 (by first | exact HB.out | exact below_drew1 HB.out) (Nat.le_refl _) ?_; intro w4 hg4 hb4)
        have hw : IntKind.i64.wrap (n9 + (M : Int)) = n9 + (M : Int) := by rw [IntKind.wrap_i64]; have := hN'.out; omega
        go_wp2
        go_roundg k1
        case measure => omega
        case rel =>
          refine ⟨n9 + (M : Int), (by first | rfl | (simp; done) | (simp [hw]; done) | (simp [goInt, hw]; done)), ⟨by omega⟩, ⟨Eq.trans hg4 ?_⟩, ⟨hb4⟩⟩
          have e1 : (n9 + (M : Int)).toNat = n9.toNat + M := by omega
          rw [e1]
          congr 2
          unfold splice
          rw [List.length_replicate, List.take_left' (List.length_replicate ..), ← List.drop_drop, List.drop_left' (List.length_replicate ..), List.drop_replicate, ← List.append_assoc, List.replicate_append_replicate, show N - n9.toNat - M = N - (n9.toNat + M) by omega]
      · have d5 : decide (n9 < (N : Int)) = false := decide_eq_false hi9
        have hk9 := HK.out
        go_wp2
        go_ret
        have hn9 : n9.toNat = N := by omega
        refine ⟨_, rfl, Kd.R_of_own (enc := Value.int .u64) (h1 := fun _ => rfl) ?_ (fun _ _ => trivial), HB.out⟩
        have hb9 := HBK.out
        rw [hn9, Nat.sub_self] at hb9
        have hNN := hN'.out
        refine ⟨by simp [encs], .inr ⟨w2.heap.size, N, _, by simp [← hNN], Nat.le_refl _, hb9, by simp [← hNN], by unfold maxLen; omega, by simp, by simp [encs, ← hNN, rd]⟩⟩
end Go.Proofs.Ytbgjoiccehiglaa.Print
end
