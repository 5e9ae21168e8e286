/- Part 1 of what FlagsTurned stands on: merged by a program of this session out of its texts. -/
import Derived.OpenShut
import Derived.ChangeArms
import Derived.ChangeSlices
import Derived.DataElems
import Derived.Shelf.Strings.Builder1
import Derived.Shelf.Strings.BuilderF
import Derived.Shelf.Strings.BuilderK
import Derived.Shelf.Bits.Mul64
import Derived.Test.YtbgjoiccehiglaaProg
import Derived.WalkKit
import Derived.RowKit3
import Derived.Below
import Derived.Deep.Draws
import Derived.Deep.AppendLies
import Derived.Maps.AppendAt
import Derived.OwnWalk
import Derived.Laws.BytesArg
import Derived.Laws.MakeOwn
import Derived.Laws.OwnMore
import Derived.Deep.OwnRows
import Derived.Tactics
import Derived.Lib.ConvBytes
import Derived.Laws.Slices
import Derived.KernelRfl
import Derived.Deep.LoopGhost
import Derived.Deep.QuietTactic
import Derived.BigQuiet
import Derived.WideLaws
import Derived.Deep.DeepCutAuto
import Derived.Deep.CutBlock
import Derived.Deep.RegionHeld3
import Derived.Laws.Rows
import Derived.Lib.AppendStr
import Derived.ArgAppend
import Derived.Laws.IdiomCopy
import Derived.OrdersHeld
import Derived.Laws.BitsLemmas
import Derived.RowKit
import Derived.Defers
import Derived.Recover
import Derived.WalkMore
import Derived.Laws.CopyOwn
import Derived.Deep.RegionLaw
import Derived.Test.YtbgjoiccehiglaaCFlagsTurned0
section
namespace Go.Proofs.Ytbgjoiccehiglaa.LibO
open Go.RowKit Go.Proofs.YtbgjoiccehiglaaW.PrintWords Go.Proofs.YtbgjoiccehiglaaW.PrintLast Go.Proofs.YtbgjoiccehiglaaW.PrintMore Go.ChangeShapes
section
variable {H : Type} {enc : TypeId × Value → H} {P : Program} {W : World} {base : Nat} {spare : Nat → Bool} {held : Bool}
def Opens (enc : TypeId × Value → H) (P : Program) (W : World) (base : Nat) (spare : Nat → Bool) (held : Bool) {α : Type} (d : Kd α) (Q : α → Prop) (t : TypeId) : Prop :=
  ∀ fuel cs x, DataW.trod enc P W base spare held fuel t cs = some x → ∃ a, d.K W a cs ∧ Q a
theorem opens_bool {t : TypeId} (ht : P.underlying t = some .bool) : Opens enc P W base spare held Kd.bool (fun _ => True) t := fun fuel cs x h => by
  obtain ⟨b, rfl, _⟩ := DataW.trod_bool ht h
  exact ⟨b, rfl, trivial⟩
theorem cells_at {a : Addr} {n : Nat} {cs : List Value} (h : W.cells? base a n = some cs) : cs.length = n ∧ ∀ i u, cs[i]? = some u → W.cell? (a.add i) = some u := by
  unfold World.cells? at h
  split at h
  · have hl := mapM_some_length h
    rw [List.length_range] at hl
    refine ⟨hl, fun i u hu => ?_⟩
    have hi : i < cs.length := (List.getElem?_eq_some_iff.mp hu).1
    have := mapM_some_get h i i (by rw [List.getElem?_range (by omega)])
    rw [this, hu]
  · exact absurd h (by simp)
theorem row_of {α : Type} {d : Kd α} {Q : α → Prop} {t e : TypeId} {fuel : Nat} {cs : List Value} {x : DataW H × List MemPlace} (ht : P.underlying t = some (.slice e)) (hc : P.cellsOf e = d.sz) (h : Opens enc P W base spare held d Q e)
    (hx : DataW.trod enc P W base spare held fuel t cs = some x) : ∃ (A : Option Addr) (c : Nat) (l : List α), cs = [.slice A l.length c] ∧ l.length ≤ c ∧ c ≤ maxLen ∧ Kd.C d W A l.length l ∧ ∀ y ∈ l, Q y := by
  rcases DataW.trod_slice ht hx with ⟨rfl, _⟩ | ⟨a, len, cap, elems, rest, n, _, rfl, rfl, hb, hl, hm, hlen, hel, hsp, hns⟩
  · exact ⟨none, 0, [], rfl, Nat.le_refl _, Nat.zero_le _, ⟨rfl, Nat.zero_le _, fun h => absurd h (Nat.lt_irrefl 0)⟩, fun y hy => by simp at hy⟩
  · have key : ∀ m, m ≤ len → ∃ l : List α, l.length = m ∧ (∀ y ∈ l, Q y) ∧ ∀ j p, l[j]? = some p → ∃ c, c.length = d.sz ∧ d.K W p c ∧ ∀ i u, c[i]? = some u → W.cell? (a.add (j * d.sz + i)) = some u := by
      intro m
      induction m with
      | zero => exact fun _ => ⟨[], rfl, fun y hy => by simp at hy, fun j p hj => by simp at hj⟩
      | succ m ih =>
        intro hm1
        obtain ⟨l, h1, h2, h3⟩ := ih (by omega)
        have hme := hel m (by omega)
        rw [List.getElem?_eq_getElem (by omega), Option.bind_eq_some_iff] at hme
        obtain ⟨cs', hcs, hy⟩ := hme
        obtain ⟨p, hk, hq⟩ := h _ _ _ hy
        obtain ⟨hcl, hcell⟩ := cells_at hcs
        refine ⟨l ++ [p], by simp [h1], fun y hy => ?_, fun j q hj => ?_⟩
        · rcases List.mem_append.mp hy with hy | hy
          · exact h2 y hy
          · simp at hy; subst hy; exact hq
        · by_cases hjm : j < l.length
          · rw [List.getElem?_append_left hjm] at hj
            exact h3 j q hj
          · rw [List.getElem?_append_right (by omega)] at hj
            have hj0 : j - l.length = 0 := by
              have := (List.getElem?_eq_some_iff.mp hj).1
              simp at this
              omega
            rw [hj0] at hj
            obtain rfl : p = q := by simpa using hj
            obtain rfl : j = m := by omega
            refine ⟨cs', by rw [hcl, hc], hk, fun i u hu => ?_⟩
            have := hcell i u hu
            rw [hc] at this
            rwa [Addr.add_add] at this
    obtain ⟨l, h1, h2, h3⟩ := key len (Nat.le_refl _)
    have hmx : maxLen ≤ 9223372036854775807 := by decide
    exact ⟨some a, cap, l, by rw [h1], by omega, hm, ⟨rfl, by omega, fun _ => ⟨a, rfl, h3⟩⟩, h2⟩
theorem arg_slice {α : Type} {d : Kd α} {Q : α → Prop} {t e : TypeId} {a : Option Addr} {len cap : Nat} {dd : DataW H} {ps : List MemPlace} (ht : P.underlying t = some (.slice e)) (hc : P.cellsOf e = d.sz) (h : Opens enc P W base spare held d Q e)
    (hx : DataW.Trod enc P W base spare held t (.slice a len cap) dd ps) : ∃ l : List α, len = l.length ∧ l.length ≤ cap ∧ l.length ≤ maxLen ∧ Kd.C d W a l.length l ∧ ∀ y ∈ l, Q y := by
  obtain ⟨fuel, hf⟩ := hx
  obtain ⟨A, c, l, he, h1, h2, h3, h4⟩ := row_of ht hc h hf
  simp [Value.cells] at he
  obtain ⟨rfl, rfl, rfl⟩ := he
  exact ⟨l, rfl, h1, by omega, h3, h4⟩
end
end Go.Proofs.Ytbgjoiccehiglaa.LibO
end
section
namespace Go.Proofs
open Go.Shelf
def Try.lays169_ren : Go.Shelf.Ren := ⟨fun | 169 => 91 | n => n, fun | 70 => 99 | 9 => 9 | 0 => 0 | 72 => 102 | 37 => 100 | 127 => 125 | 3 => 3 | 5 => 5 | n => n, fun | n => n⟩
theorem Try.lays169 : Go.Proofs.Lays.n169 Try.prog Try.lays169_ren := {
  mixed := by kernel_rfl
  f169 := Try.func91.trans (congrArg some (by kernel_rfl))
  t0 := Try.underlying0
  a0 := Try.isAgg0
  z0 := Try.sizeOf0
  v0 := Try.zeroValue0
  t3 := Try.underlying3
  a3 := Try.isAgg3
  z3 := Try.sizeOf3
  v3 := Try.zeroValue3
  t9 := Try.underlying9
  a9 := Try.isAgg9
  z9 := Try.sizeOf9
  v9 := Try.zeroValue9
  t37 := Try.underlying100
  a37 := Try.isAgg100
  z37 := Try.sizeOf100
  v37 := Try.zeroValue100
  t70 := Try.underlying99
  a70 := Try.isAgg99
  z70 := Try.sizeOf99
  v70 := Try.zeroValue99
  t72 := Try.underlying102
  a72 := Try.isAgg102
  z72 := Try.sizeOf102
  v72 := Try.zeroValue102
  t127 := Try.underlying125
  a127 := Try.isAgg125
  z127 := Try.sizeOf125
  v127 := Try.zeroValue125 }
theorem Try.Builder_Extra_169 : Builder.Extra Try.prog Try.lays169_ren := {
  sizeBuilder := by kernel_rfl
  liesBuilder := by kernel_rfl
  t5 := Try.underlying5
  a5 := Try.isAgg5
  z5 := Try.sizeOf5
  v5 := Try.zeroValue5
  infoByte := by kernel_rfl
  cellsByte := by kernel_rfl
  sizeByte := by kernel_rfl
  neB5 := by decide }
open Go.RowKit in
theorem Try.Builder_String_any_k (B b : Nat) (l : List UInt8) (w : World) (h : Lib.IsBuilderF 102 5 B b (Lib.byteCells l) w) (hBw : B ≤ w.heap.size) :
    Calls Try.prog 91 #[.pointer (some ⟨b, 0, none⟩)] w fun e w' => e = .returned (.string ⟨l.toArray⟩) ∧ (Lib.IsBuilderF 102 5 B b (Lib.byteCells l) w' ∧ Below B w w' ∧ Lib.OthersKept 5 (some b) w w') := Any.Builder_String_any_k Try.lays169 Try.Builder_Extra_169 B b l w h hBw
def Try.lays212_ren : Go.Shelf.Ren := ⟨fun | 212 => 102 | 263 => 106 | 264 => 107 | n => n, fun | 46 => 118 | 51 => 127 | 146 => 128 | 53 => 51 | 148 => 130 | n => n, fun | n => n⟩
theorem Try.lays212 : Go.Proofs.Lays.n212 Try.prog Try.lays212_ren := {
  mixed := by kernel_rfl
  f212 := Try.func102.trans (congrArg some (by kernel_rfl))
  f263 := Try.func106.trans (congrArg some (by kernel_rfl))
  f264 := Try.func107.trans (congrArg some (by kernel_rfl))
  t46 := Try.underlying118
  a46 := Try.isAgg118
  z46 := Try.sizeOf118
  v46 := Try.zeroValue118
  t51 := Try.underlying127
  a51 := Try.isAgg127
  z51 := Try.sizeOf127
  v51 := Try.zeroValue127
  t53 := Try.underlying51
  a53 := Try.isAgg51
  z53 := Try.sizeOf51
  v53 := Try.zeroValue51
  t146 := Try.underlying128
  a146 := Try.isAgg128
  z146 := Try.sizeOf128
  v146 := Try.zeroValue128
  t148 := Try.underlying130
  a148 := Try.isAgg130
  z148 := Try.sizeOf130
  v148 := Try.zeroValue130 }
open Go.RowKit Go.Lib in
theorem Try.bits_Mul (x y : Nat) (hx : x < 18446744073709551616) (hy : y < 18446744073709551616) (w : World) :
    Calls Try.prog 102 #[.int .u64 x, .int .u64 y] w fun e w' => e = .returned (.tuple #[.int .u64 ((x * y / 18446744073709551616 : Nat) : Int), .int .u64 ((x * y % 18446744073709551616 : Nat) : Int)]) ∧ w' = w := Any.bits_Mul Try.lays212 x y hx hy w
end Go.Proofs
end
section
namespace Go.Proofs.Ytbgjoiccehiglaa.Build
open Go.RowKit Go.Shelf
theorem size102 : (Try.prog.info? 102).map (·.size) = some 2 := by kernel_rfl
theorem lies102 : liesAt Try.prog Try.prog.depth 102 (2 / Try.prog.cellsOf 102) 0 102 1 = true := by kernel_rfl
theorem infoByte : (Try.prog.info? 5).map (fun i => (i.zero, i.size, i.bytes)) = some (some (.int .u8 0), 1, 1) := by kernel_rfl
set_option maxHeartbeats 1000000 in
set_option maxRecDepth 100000 in
theorem check_used (b : Nat) (w : World) (h0 : w.cell? ⟨b, 0, none⟩ = some (.pointer (some ⟨b, 0, none⟩))) :
    Calls Try.prog 103 #[.pointer (some ⟨b, 0, none⟩)] w fun e w' => e = .returned (.tuple #[]) ∧ w' = w := by
  obtain ⟨j, hj, _⟩ := Option.map_eq_some_iff.1 size102
  go_enter Try.func103, Try.ntmps103
  go_wp2
  rw [Lib.run_neq_ptr_same w _ Try.underlying99 hj]
  go_wp2
  go_end0
  exact ⟨rfl, rfl⟩
set_option maxHeartbeats 1000000 in
set_option maxRecDepth 100000 in
theorem check_fresh (b : Nat) (w : World) (h0 : w.cell? ⟨b, 0, none⟩ = some (.pointer none)) (hsh : w.shape? b = some (102, 2)) (hfz : w.frozen? ⟨b, 0, none⟩ = false) :
    Calls Try.prog 103 #[.pointer (some ⟨b, 0, none⟩)] w fun e w' => e = .returned (.tuple #[]) ∧ w' = w.setCell ⟨b, 0, none⟩ (.pointer (some ⟨b, 0, none⟩)) := by
  obtain ⟨j, hj, hjs⟩ := Option.map_eq_some_iff.1 size102
  go_enter Try.func103, Try.ntmps103
  go_wp2
  rw [Lib.run_to_unsafe w ⟨b, 0, none⟩ Try.underlying99 Try.underlying132 hj (by rw [hjs]; decide) hsh (Nat.zero_lt_succ 1)]
  simp only [Result.andThen]
  rw [Oper.upon_value]
  go_wp2
  rw [run_callFunc_extern Try.func108 (by kernel_rfl) (by kernel_rfl) (by kernel_rfl) (e := Extern.AbiNoEscape.same) (by kernel_rfl)]
  rw [Lib.run_noEscape]
  simp only [Result.andThen]
  rw [Oper.upon_value]
  go_wp2
  rw [Lib.run_from_unsafe w ⟨b, 0, none⟩ Try.underlying132 Try.underlying99 hj hsh lies102]
  simp only [Result.andThen]
  rw [Oper.upon_value]
  go_wp2
  go_end0
  exact ⟨rfl, rfl⟩
def Bld (B b : Nat) (s : ByteArray) (w : World) : Prop := Lib.IsBuilderF 102 5 B b (Lib.strCells s) w
theorem Bld.fresh (w : World) : Bld w.heap.size w.heap.size ByteArray.empty (w.alloc (.cells #[.pointer none, .slice none 0 0] 102)) := Lib.IsBuilderF.of (Lib.fresh_isBuilder 102 5 w)
theorem Bld.alloc {B b : Nat} {s : ByteArray} {w : World} (h : Bld B b s w) (o : Obj) : Bld B b s (w.alloc o) := Lib.IsBuilderF.alloc h o
theorem Bld.drewN {B b : Nat} {s : ByteArray} {w : World} (h : Bld B b s w) (n : Nat) : Bld B b s (w.drewN n) := h
theorem cells_app (s t : ByteArray) : Lib.strCells s ++ Lib.strCells t = Lib.strCells (s ++ t) := by simp [Lib.strCells]
theorem check (B b : Nat) (s : ByteArray) (w : World) (h : Bld B b s w) :
    Calls Try.prog 103 #[.pointer (some ⟨b, 0, none⟩)] w fun e w' => e = .returned (.tuple #[]) ∧ (Lib.BuilderAtF 102 5 B b (.pointer (some ⟨b, 0, none⟩)) (Lib.strCells s) w' ∧ Below B w w' ∧ Lib.OthersKept 5 (some b) w w') := by
  rcases h with h | h
  · refine (check_fresh b w h.cell0 h.shape h.frozen0).mono ?_
    rintro e w' ⟨rfl, rfl⟩
    exact ⟨rfl, h.used _, (Below.refl B w).setCell (p := ⟨b, 0, none⟩) h.1 _, (Lib.OthersKept.refl _ _ w).setCell ⟨b, 0, none⟩ rfl _⟩
  · refine (check_used b w h.cell0).mono ?_
    rintro e w' ⟨rfl, rfl⟩
    exact ⟨rfl, h, Below.refl B _, Lib.OthersKept.refl _ _ _⟩
set_option maxHeartbeats 2000000 in
set_option maxRecDepth 100000 in
theorem write (B b : Nat) (s t : ByteArray) (w : World) (h : Bld B b s w) (hlen : s.size + t.size ≤ 140737488355328) (hBw : B ≤ w.heap.size) :
    Calls Try.prog 90 #[.pointer (some ⟨b, 0, none⟩), .string t] w fun e w' => e = .returned (.tuple #[.int .i64 t.size, .nilIface]) ∧ Bld B b (s ++ t) w' ∧ Below B w w' ∧ Lib.OthersKept 5 (some b) w w' := by
  obtain ⟨i0, hi, hz0, hz1, hz2⟩ := info_parts infoByte
  have hsl := Lib.strCells_length s
  go_enter Try.func90, Try.ntmps90
  go_wp2_with (go_at_call 103; refine (check B b s _ h).mono ?_)
  rintro e w1 ⟨rfl, h1, hb1, hk1⟩
  obtain ⟨hB, v, hbk, hown, hne⟩ := h1
  have c0 : w1.cell? ⟨b, 0, none⟩ = some (.pointer (some ⟨b, 0, none⟩)) := by rw [Lib.cell_of_heap hbk]; rfl
  have c1 : w1.cell? ⟨b, 1, none⟩ = some v := by rw [Lib.cell_of_heap hbk]; rfl
  go_wp2_with (at_builtin; refine Lib.wpList_append_own_stringF _ rfl _ _ 100 9 rfl B 5 i0 Try.underlying100 Try.underlying9 hi hz0 hz1 hz2 _ _ _ rfl hown t rfl ?c3 ?c4 ?c5 ?_)
  case c3 => unfold maxLen; omega
  case c4 => omega
  case c5 => have := hb1.size; omega
  intro v' w2 hown' hgrow _
  have hlt : b < w1.heap.size := by
    rcases Nat.lt_or_ge b w1.heap.size with h' | h'
    · exact h'
    · simp [Array.getElem?_eq_none h'] at hbk
  have hb2 : w2.heap[b]? = some (.cells #[.pointer (some ⟨b, 0, none⟩), v] 102 (0, 0)) := by
    rw [hgrow.block b hlt (fun e => hne e.symm)]
    exact hbk
  have d0 : w2.cell? ⟨b, 0, none⟩ = some (.pointer (some ⟨b, 0, none⟩)) := by rw [Lib.cell_of_heap hb2]; rfl
  have d1 : w2.cell? ⟨b, 1, none⟩ = some v := by rw [Lib.cell_of_heap hb2]; rfl
  have f1 : w2.frozen? ⟨b, 1, none⟩ = false := Lib.frozen_of_heap hb2 1
  obtain ⟨ao, n', cap, rfl⟩ : ∃ ao n' cap, v' = .slice ao n' cap := by
    rcases hown'.2 with ⟨hv, _⟩ | ⟨g, cap, cur, fz, hv, _⟩
    · exact ⟨_, _, _, hv⟩
    · exact ⟨_, _, _, hv⟩
  go_wp2
  go_ret2
  refine ⟨rfl, .inr ?_, ?_, (hk1.grown hgrow (Lib.ownsRowF_kind hown)).setCell ⟨b, 1, none⟩ rfl _⟩
  · refine Lib.BuilderAtF.put (T := 102) (e := 5) hB hb2 (bs' := Lib.strCells (s ++ t)) ?_ (by decide)
    rw [← cells_app]
    simpa [Lib.strCells_length] using hown'
  · exact (hb1.grown hgrow (by have := hb1.size; omega) (fun k hk => (hown.lt k hk).1)).setCell (p := ⟨b, 1, none⟩) hB _
theorem string (B b : Nat) (s : ByteArray) (w : World) (h : Bld B b s w) (hBw : B ≤ w.heap.size) :
    Calls Try.prog 91 #[.pointer (some ⟨b, 0, none⟩)] w fun e w' => e = .returned (.string s) ∧ Below B w w' ∧ Lib.OthersKept 5 (some b) w w' :=
  (Try.Builder_String_any_k B b s.data.toList w h hBw).mono fun _ _ ⟨he, _, hb, hk⟩ => ⟨he, hb, hk⟩
theorem Bld.block {B b : Nat} {s : ByteArray} {w : World} (h : Bld B b s w) : ∃ cs, w.heap[b]? = some (.cells cs 102 (0, 0)) := by
  rcases h with ⟨_, v, hb, _⟩ | ⟨_, v, hb, _⟩ <;> exact ⟨_, hb⟩
theorem grown_of_below {w w' : World} (h : Below w.heap.size w w') : w.grownBy w' none := ⟨h.os, h.tape, h.output, h.size, fun k hk _ => h.block k hk⟩
theorem Bld.below {B b : Nat} {s : ByteArray} {w w' : World} (h : Bld B b s w) (hb : Below w.heap.size w w') : Bld B b s w' := by
  have go : ∀ {p : Value}, Lib.BuilderAtF 102 5 B b p (Lib.strCells s) w → Lib.BuilderAtF 102 5 B b p (Lib.strCells s) w' := fun {p} hh => by
    have hlt := hh.lt
    obtain ⟨hB, v, hv, hown, hne⟩ := hh
    exact ⟨hB, v, (hb.block b hlt).trans hv, hown.kept (grown_of_below hb) (by cases hv : v.ownBlock <;> simp), hne⟩
  exact h.elim (fun x => .inl (go x)) (fun x => .inr (go x))
theorem Bld.lt {B b : Nat} {s : ByteArray} {w : World} (h : Bld B b s w) : b < w.heap.size := h.elim (fun x => x.lt) (fun x => x.lt)
theorem R_kept {α : Type} {d : YtbgjoiccehiglaaW.PrintWords.Kd α} {e : Nat} {w w' : World} {base b : Nat} {ok : Nat → Prop} {v : Value} {xs : List α} (h : d.R e w base ok v xs) (hk : Lib.OthersKept 5 (some b) w w') (hb : ∃ cs, w.heap[b]? = some (.cells cs 102 (0, 0)))
    (hE : ∀ q ∈ e :: d.E, q ≠ 5 ∧ q ≠ 102) : d.R e w' base ok v xs := by
  refine YtbgjoiccehiglaaW.PrintWords.Kd.R_mono (YtbgjoiccehiglaaW.PrintWords.Kd.R_move (YtbgjoiccehiglaaW.PrintWords.Kd.R_bound h) (w1 := w') ?_) (fun k hk => hk.1)
  rintro k ⟨_, _, _, q, hq, cells, hc⟩
  have hn := hE q hq
  rw [hc]
  refine hk k _ hc (fun hh => ?_) (fun c fz hh => ?_)
  · obtain ⟨cs, hb⟩ := hb
    obtain rfl := Option.some.inj hh
    rw [hc] at hb
    simp only [Option.some.injEq, Obj.cells.injEq] at hb
    exact hn.2 hb.2.1
  · simp only [Obj.cells.injEq] at hh
    exact hn.1 hh.2.1
theorem make_event {P : Program} {ops : Array Oper} {rest : List Oper} {o : Oper} {a : Act} {Q : Exit → Act → World → Prop} {W : World} (hgd : o.guard = none) {D : Tmp} (_hd : o.dst = some D) {cs : Array Value} {t : TypeId} (n c : Nat)
    (hrun : (execOp a.eval o).run P W = .ok (.value (.slice (some ⟨W.heap.size, 0, none⟩) n c)) (W.alloc (.cells cs t (0, 0))))
    (h : ∀ g, g = W.heap.size → ∀ w1, w1.heap[g]? = some (.cells cs t (0, 0)) → Below W.heap.size W w1 → wpList P ops Q rest (a.put o.dst (.slice (some ⟨g, 0, none⟩) n c)) w1) : wpList P ops Q (o :: rest) a W :=
  YtbgjoiccehiglaaW.PrintWords.Kd.event_run hgd hrun (h _ rfl _ (YtbgjoiccehiglaaW.PrintWords.blk_new W _) (YtbgjoiccehiglaaW.PrintWords.below_alloc (Below.refl _ _) _))
end Go.Proofs.Ytbgjoiccehiglaa.Build
end
section
namespace Go.Proofs.Ytbgjoiccehiglaa.Print
open Go.RowKit Go.Proofs.YtbgjoiccehiglaaW.PrintWords Go.Proofs.YtbgjoiccehiglaaW.PrintLast Go.Proofs.YtbgjoiccehiglaaW.PrintMore
attribute [local go_sem] max2_int min2_int max_two min_two max_three min_three max_four min_four
set_option linter.unusedVariables false
set_option linter.unusedSimpArgs false
def errW : Option Int → Value
  | none => .nilIface
  | some c => .iface 0 (.int .i64 c)
theorem errW_none : errW none = .nilIface := rfl
theorem errW_some (c : Int) : errW (some c) = .iface 0 (.int .i64 c) := rfl
theorem info3 : (Try.prog.info? 3).map (fun i => (i.zero, i.size, i.bytes)) = some (some (.int .i64 0), 1, 8) := by kernel_rfl
theorem info4 : (Try.prog.info? 4).map (fun i => (i.zero, i.size, i.bytes)) = some (some (.bool false), 1, 1) := by kernel_rfl
theorem info5 : (Try.prog.info? 5).map (fun i => (i.zero, i.size, i.bytes)) = some (some (.int .u8 0), 1, 1) := by kernel_rfl
structure S53 where
  f0 : Int
  f1 : Int
def z53 : S53 := ⟨(0 : Int), (0 : Int)⟩
end Go.Proofs.Ytbgjoiccehiglaa.Print
end
section
namespace Go.Proofs.Ytbgjoiccehiglaa.Print
open Go.RowKit Go.Proofs.YtbgjoiccehiglaaW.PrintWords Go.Proofs.YtbgjoiccehiglaaW.PrintLast Go.Proofs.YtbgjoiccehiglaaW.PrintMore
attribute [local go_sem] max2_int min2_int max_two min_two max_three min_three max_four min_four
set_option linter.unusedVariables false
set_option linter.unusedSimpArgs false
def sgR (s : ByteArray) : Nat → Int → Int → Int → Bool
  | 0, _, _, _ => true
  | m + 1, i, lo, hi => if bt s i < lo then false else if bt s i > hi then false else sgR s m (i + 1) 128 191
def sgH (c : Int) : Int × Int × Int × Bool := if c < 128 then (0, 128, 191, true) else (if c < 194 then (0, 128, 191, false) else (if c < 224 then (1, 128, 191, true) else (if c < 240 then (if c = 224 then (2, 160, 191, true) else (if c = 237 then (2, 128, 159, true) else (2, 128, 191, true))) else (if c < 245 then (if c = 240 then (3, 144, 191, true) else (if c = 244 then (3, 128, 143, true) else (3, 128, 191, true))) else (0, 128, 191, false)))))
theorem sgH_rest (c : Int) : 0 ≤ (sgH c).1 ∧ (sgH c).1 ≤ 3 := by
  unfold sgH
  repeat' split
  all_goals simp
def sgStep (s : ByteArray) (i : Int) : Option Int :=
  if (sgH (bt s i)).2.2.2 = false then none else if (s.size : Int) - i ≤ (sgH (bt s i)).1 then none
  else if sgR s (sgH (bt s i)).1.toNat (i + 1) (sgH (bt s i)).2.1 (sgH (bt s i)).2.2.1 = true then some (1 + (sgH (bt s i)).1) else none
def pack_Put.l0 : Nat → Int → List Int → Option (ByteArray)
  | 0, _, _ => none
  | k + 1, x0, x3 => if x0 ≥ 128 then (if x3.length < 140737488355328 then (pack_Put.l0 k (x0 / 128) (x3 ++ [Go.bits .or .u8 ((x0) % 256) 128])) else (none)) else (if x3.length < 140737488355328 then (some (strOfNums (x3 ++ [(x0) % 256]))) else (none))
def pack_Put.f (k : Nat) (a0 : Int) : Option (ByteArray) := pack_Put.l0 k a0 ([] : List Int)
theorem pack_Put.mono_l : ∀ k, (∀ y0 y1, LeO (pack_Put.l0 k y0 y1) (pack_Put.l0 (k + 1) y0 y1))
  | 0 => fun _ _ r h => by simp [pack_Put.l0] at h
  | k + 1 => by
    have ih0 := pack_Put.mono_l k
    · intro y0 y1
      unfold pack_Put.l0
      repeat' first
      | (with_reducible exact ih0 _ _)
      | (with_reducible exact LeO.refl _)
      | (with_reducible exact LeO.none _)
      | (with_reducible refine LeO.ite ?_ ?_)
      | (with_reducible refine LeO.bind ?_ (fun _ => ?_))
      | exact ih0 _ _
      | exact LeO.none _
      | refine LeO.ite ?_ ?_
      | refine LeO.bind ?_ (fun _ => ?_)
theorem pack_Put.mono : ∀ a0 k, LeO (pack_Put.f k a0) (pack_Put.f (k + 1) a0) := by
  intro a0 k
  have ih0 := pack_Put.mono_l k
  unfold pack_Put.f
  repeat' first
      | (with_reducible exact ih0 _ _)
      | (with_reducible exact LeO.refl _)
      | (with_reducible exact LeO.none _)
      | (with_reducible refine LeO.ite ?_ ?_)
      | (with_reducible refine LeO.bind ?_ (fun _ => ?_))
      | exact ih0 _ _
      | exact LeO.none _
      | refine LeO.ite ?_ ?_
      | refine LeO.bind ?_ (fun _ => ?_)
set_option maxHeartbeats 8000000 in
set_option maxRecDepth 100000 in
theorem pack_Put.calls (k : Nat) (a0 : Int) (r : ByteArray) (w : World) (h : pack_Put.f k a0 = some r) :
    Calls Try.prog 78 #[.int .u64 a0] w fun e w' => e = .returned (.string r) ∧ Below w.heap.size w w' := by
  have HB := Aside0.mk (Below.refl w.heap.size w)
  have H : (pack_Put.l0 k a0 ([] : List Int)) = some r := h
  clear h
  have H' := Aside0.mk H
  clear H
  go_enter Try.func78, Try.ntmps78
  go_wp2
  go_loopg [0, 3] k (fun kq v0 v3 w' => ∃ (x0_1 : Int) (x3_1 : List Int), v0 = .int .u64 x0_1 ∧ Aside0 (pack_Put.l0 kq x0_1 x3_1 = some r) ∧ Aside0 (kq ≤ k) ∧ Aside0 (Kd.R (Kd.int .u8) 5 w' w.heap.size (fun _ => True) v3 x3_1) ∧ Aside0 (Below w.heap.size w w'))
  case atStart => exact ⟨(a0), (([] : List Int)), (by first | rfl | (simp; done) | (simp [*]; done)), H', ⟨Nat.le_refl _⟩, ⟨by first | exact Kd.R_nil _ _ _ _ _ | exact Kd.N_nil _ _ _ _ _ | exact Kd.V_nil _ _ _ _ _ | exact Kd.Q_nil _ _ _ _ _ | exact Kd.S_nil _ _ _ _ _⟩, ⟨by repeat (first | (with_reducible first | exact HB.out | apply below_alloc | apply pw_below_drewN | apply below_drew1) | exact HB.out)⟩⟩
  case round =>
    clear H'
    obtain ⟨x0_1, x3_1, rfl, HA, HK1, HO_3, HB⟩ := hrel
    cases gk with
    | zero => exact absurd HA.out (by simp [pack_Put.l0])
    | succ k1 =>
      have H := HA.out
      clear HA
      simp only [pack_Put.l0] at H
      by_cases c2 : x0_1 ≥ 128
      · rw [if_pos c2] at H
        have c2b0 : decide (128 ≤ x0_1) = true := decide_eq_true c2
        clear c2
        by_cases c3 : x3_1.length < 140737488355328
        · rw [if_pos c3] at H
          have LMc3 := Aside0.mk c3
          clear c3
          obtain ⟨y107, hy107⟩ : ∃ y_ : List Int, y_ = (x3_1 ++ [Go.bits .or .u8 ((x0_1) % 256) 128]) := ⟨_, rfl⟩
          replace H : (pack_Put.l0 k1 (x0_1 / 128) y107) = some r := by first | (rw [hy107]; with_reducible exact H) | (have H2_ := (Option.bind_some _ _).symm.trans H; rw [hy107]; with_reducible exact H2_) | (have H2_ := (Option.bind_some _ _).symm.trans H; with_reducible exact H2_) | with_reducible exact H | (rw [hy107]; exact H) | exact H
          have Ny107 := Aside0.mk hy107
          clear hy107
          have H' := Aside0.mk H
          clear H
          go_wp2_with (first | ((with_reducible refine gate_builtin (b := .append) (xs := #[.tmp 6, .tmp 10]) rfl ?_); at_builtin; refine Kd.R_append (Kd.int .u8) (w0 := w) w.heap.size rfl (.tmp 6) (.tmp 10) 100 5 (.int .u8 0) 1 rfl Try.underlying100 info5 rfl (by decide) (by omega) u3 x3_1 (Go.bits .or .u8 ((x0_1) % 256) 128) [.int .u8 (Go.bits .or .u8 ((x0_1) % 256) 128)] (fun _ => True) (fun _ => False) rfl rfl ?aP (fun _ hk => hk.elim) ?aF ?aO ?aB ?aS ?aL ?_; (case aP => exact rfl); (case aB => exact (by repeat (first | (with_reducible first | exact HB.out | apply below_alloc | apply pw_below_drewN | apply below_drew1) | exact HB.out))); (case aF => exact (fun _ _ => trivial)); (case aO => exact (by (with_reducible repeat (first | apply Kd.R_alloc | apply Kd.R_drewN | apply Kd.R_drew)); exact HO_3.out)); (case aS => exact (below_size (by repeat (first | (with_reducible first | exact HB.out | apply below_alloc | apply pw_below_drewN | apply below_drew1) | exact HB.out)))); (case aL => have := LMc3.out; omega); intro v108 w4 ho hb hg hat; rw [← Ny107.out] at ho; have n0_ := Aside0.mk (hb); have n1_ := Aside0.mk (ho); clear HB; clear HO_3; have HB := n0_; have HO109 := n1_; clear n0_ n1_; clear ho hb hg hat))
          go_roundg k1
          case measure => have := HK1.out; omega
          case rel => exact ⟨(x0_1 / 128), (y107), (by first | rfl | (simp; done) | (simp [*]; done)), H', ⟨by have := HK1.out; omega⟩, ⟨by (with_reducible repeat (first | apply Kd.R_alloc | apply Kd.R_drewN | apply Kd.R_drew)); exact HO109.out⟩, ⟨by repeat (first | (with_reducible first | exact HB.out | apply below_alloc | apply pw_below_drewN | apply below_drew1) | exact HB.out)⟩⟩
        · rw [if_neg c3] at H
          exact absurd H (by simp)
      · rw [if_neg c2] at H
        have c2b0 : decide (128 ≤ x0_1) = false := decide_eq_false c2
        clear c2
        by_cases c5 : x3_1.length < 140737488355328
        · rw [if_pos c5] at H
          have LMc5 := Aside0.mk c5
          clear c5
          obtain ⟨y110, hy110⟩ : ∃ y_ : List Int, y_ = (x3_1 ++ [(x0_1) % 256]) := ⟨_, rfl⟩
          replace H : (some (strOfNums y110)) = some r := by first | (rw [hy110]; with_reducible exact H) | (have H2_ := (Option.bind_some _ _).symm.trans H; rw [hy110]; with_reducible exact H2_) | (have H2_ := (Option.bind_some _ _).symm.trans H; with_reducible exact H2_) | with_reducible exact H | (rw [hy110]; exact H) | exact H
          have Ny110 := Aside0.mk hy110
          clear hy110
          obtain rfl := Option.some.inj H
          go_wp2_with (first | ((with_reducible refine gate_builtin (b := .append) (xs := #[.tmp 14, .tmp 17]) rfl ?_); at_builtin; refine Kd.R_append (Kd.int .u8) (w0 := w) w.heap.size rfl (.tmp 14) (.tmp 17) 100 5 (.int .u8 0) 1 rfl Try.underlying100 info5 rfl (by decide) (by omega) u3 x3_1 ((x0_1) % 256) [.int .u8 ((x0_1) % 256)] (fun _ => True) (fun _ => False) rfl rfl ?aP (fun _ hk => hk.elim) ?aF ?aO ?aB ?aS ?aL ?_; (case aP => exact rfl); (case aB => exact (by repeat (first | (with_reducible first | exact HB.out | apply below_alloc | apply pw_below_drewN | apply below_drew1) | exact HB.out))); (case aF => exact (fun _ _ => trivial)); (case aO => exact (by (with_reducible repeat (first | apply Kd.R_alloc | apply Kd.R_drewN | apply Kd.R_drew)); exact HO_3.out)); (case aS => exact (below_size (by repeat (first | (with_reducible first | exact HB.out | apply below_alloc | apply pw_below_drewN | apply below_drew1) | exact HB.out)))); (case aL => have := LMc5.out; omega); intro v111 w6 ho hb hg hat; rw [← Ny110.out] at ho; have n0_ := Aside0.mk (hb); have n1_ := Aside0.mk (ho); clear HB; clear HO_3; have HB := n0_; have HO112 := n1_; clear n0_ n1_; clear ho hb hg hat; have hcv7 := own_string (P := Try.prog) Try.underlying100 Try.underlying5 Try.underlying9 (Kd.own_of_R HO112.out)))
          go_ret
          exact ⟨by first | rfl | (simp [errW_none, errW_some] <;> rfl) | (simp [*, errW_none, errW_some] <;> rfl), by repeat (first | (with_reducible first | exact HB.out | apply below_alloc | apply pw_below_drewN | apply below_drew1) | exact HB.out)⟩
        · rw [if_neg c5] at H
          exact absurd H (by simp)
def IsS120 (w0 W : World) (g : Nat) (f0 : ByteArray) (f1 : Int) : Prop := W.heap[g]? = some (.cells #[.string f0, .int .i64 f1] 120 (0, 0)) ∧ w0.heap.size ≤ g
theorem IsS120.grown {w0 W : World} {g : Nat} {f0 : ByteArray} {f1 : Int} {W1 : World} {row : Option Nat} (h : IsS120 w0 W g f0 f1) (hw : W.grownBy W1 row) (hne : some g ≠ row) : IsS120 w0 W1 g f0 f1 := by
  obtain ⟨hb, hg⟩ := h
  exact ⟨blk_grown hb hw hne, hg⟩
theorem IsS120.fresh {w0 W : World} {g : Nat} {f0 : ByteArray} {f1 : Int} (h : IsS120 w0 W g f0 f1) : ∀ k, W.heap.size ≤ k → k ≠ g := by
  obtain ⟨hb, hg⟩ := h
  exact Kd.freshB hb
theorem IsS120.kept {w0 W : World} {g : Nat} {f0 : ByteArray} {f1 : Int} {W1 : World} {S : Nat → Prop} (h : IsS120 w0 W g f0 f1) (hk : Kept W W1 S) (hne : ¬ S g) : IsS120 w0 W1 g f0 f1 := by
  obtain ⟨hb, hg⟩ := h
  exact ⟨blk_kept hb hk hne, hg⟩
theorem IsS120.below {w0 W : World} {g : Nat} {f0 : ByteArray} {f1 : Int} {W1 : World} (h : IsS120 w0 W g f0 f1) (hw : Below W.heap.size W W1) : IsS120 w0 W1 g f0 f1 := h.grown (grown_of_below hw none) (by simp)
theorem IsS120.alloc {w0 W : World} {g : Nat} {f0 : ByteArray} {f1 : Int} (h : IsS120 w0 W g f0 f1) (o : Obj) : IsS120 w0 (W.alloc o) g f0 f1 := h.below (below_alloc (Below.refl _ _) o)
theorem IsS120.drewN {w0 W : World} {g : Nat} {f0 : ByteArray} {f1 : Int} (h : IsS120 w0 W g f0 f1) (m : Nat) : IsS120 w0 (W.drewN m) g f0 f1 := h
theorem IsS120.drew {w0 W : World} {g : Nat} {f0 : ByteArray} {f1 : Int} (h : IsS120 w0 W g f0 f1) : IsS120 w0 W.drew g f0 f1 := h
theorem IsS120.at_ {w0 W : World} {g : Nat} {f0 : ByteArray} {f1 : Int} {w' : World} {m : Nat} (hq : W.drewN m = w') (h : IsS120 w0 W g f0 f1) : IsS120 w0 w' g f0 f1 := by subst hq; exact IsS120.drewN h m
theorem IsS120.apart {w0 W : World} {g : Nat} {f0 : ByteArray} {f1 : Int} {α : Type} {d : Kd α} {e : Nat} {base : Nat} {ok : Nat → Prop} {v : Value} {xs : List α} (h : IsS120 w0 W g f0 f1) (ho : d.R e W base ok v xs) (ht : ∀ q, q ∈ e :: d.E → q ≠ 120) : d.R e W base (fun k => ok k ∧ k ≠ g) v xs := by
  obtain ⟨hb, hg⟩ := h
  exact Kd.R_types ho hb ht
theorem IsS120.own_ne {w0 W : World} {g : Nat} {f0 : ByteArray} {f1 : Int} {α : Type} {d : Kd α} {e : Nat} {base : Nat} {ok : Nat → Prop} {v : Value} {xs : List α} (h : IsS120 w0 W g f0 f1) (ho : d.R e W base ok v xs) (ht : e ≠ 120) : some g ≠ v.ownBlock := by
  obtain ⟨hb, hg⟩ := h
  exact Kd.R_ne ho hb ht
theorem IsS120.lt {w0 W : World} {g : Nat} {f0 : ByteArray} {f1 : Int} (h : IsS120 w0 W g f0 f1) : g < W.heap.size := by
  obtain ⟨hb, hg⟩ := h
  exact blk_lt hb
theorem IsS120.ge {w0 W : World} {g : Nat} {f0 : ByteArray} {f1 : Int} (h : IsS120 w0 W g f0 f1) : w0.heap.size ≤ g := by
  obtain ⟨hb, hg⟩ := h
  exact hg
theorem cellS120_0 {W : World} {g : Nat} {f0 : ByteArray} {f1 : Int} (h : W.heap[g]? = some (.cells #[.string f0, .int .i64 f1] 120 (0, 0))) : W.cell? ⟨g, 0, none⟩ = some (.string f0) := (blk_cell h 0).trans rfl
theorem IsS120.set_0 {w0 W : World} {g : Nat} {f0 : ByteArray} {f1 : Int} (h : IsS120 w0 W g f0 f1) (x : ByteArray) : IsS120 w0 (W.setCell ⟨g, 0, none⟩ (.string x)) g x f1 := by
  obtain ⟨hb, hg⟩ := h
  exact ⟨by simpa using blk_set hb 0 (.string x), hg⟩
theorem cellS120_1 {W : World} {g : Nat} {f0 : ByteArray} {f1 : Int} (h : W.heap[g]? = some (.cells #[.string f0, .int .i64 f1] 120 (0, 0))) : W.cell? ⟨g, 1, none⟩ = some (.int .i64 f1) := (blk_cell h 1).trans rfl
theorem IsS120.set_1 {w0 W : World} {g : Nat} {f0 : ByteArray} {f1 : Int} (h : IsS120 w0 W g f0 f1) (x : Int) : IsS120 w0 (W.setCell ⟨g, 1, none⟩ (.int .i64 x)) g f0 x := by
  obtain ⟨hb, hg⟩ := h
  exact ⟨by simpa using blk_set hb 1 (.int .i64 x), hg⟩
def pack_New.f (a0 : ByteArray) : Option (ByteArray × Int) := some (a0, 0)
set_option maxHeartbeats 8000000 in
set_option maxRecDepth 100000 in
theorem pack_New.calls (a0 : ByteArray) (r1 : ByteArray) (r2 : Int) (w0 w : World) (hB : Below w0.heap.size w0 w) (h : pack_New.f a0 = some (r1, r2)) :
    Calls Try.prog 80 #[.string a0] w fun e w' => ∃ g_ : Nat, e = .returned (.pointer (some ⟨g_, 0, none⟩)) ∧ IsS120 w0 w' g_ r1 r2 ∧ Below w0.heap.size w0 w' ∧ Below w.heap.size w w' := by
  have hu120 := Try.underlying120
  have HBW := Aside0.mk (Below.refl w.heap.size w)
  have HW0 := Aside0.mk hB.size
  have HB := Aside0.mk hB
  clear hB
  have H : (some (a0, 0)) = some (r1, r2) := h
  clear h
  simp only [Option.some.injEq, Prod.mk.injEq] at H
  obtain ⟨rfl, rfl⟩ := H
  go_enter Try.func80, Try.ntmps80
  go_wp2_with (first | ((with_reducible refine gate_dst (N := 5) rfl ?_); refine box_event ?hg (N := 5) ?hd (cs := #[.string a0, .int .i64 0]) (t := 120) ?hr ?_; (case hd => rfl); (case hg => rfl); (case hr => first | (go_simp; done) | (go_simp; rfl)); intro gb114 hg w2 hbox hb; have n0_ := Aside0.mk (below_step HBW.out hb); have n1_ := Aside0.mk (below_step (by repeat (first | (with_reducible first | exact HB.out | apply below_alloc | apply pw_below_drewN | apply below_drew1) | exact HB.out)) hb); have n2_ := Aside0.mk (hbox); have n3_ := Aside0.mk ((by rw [hg]; exact (below_size (by repeat (first | (with_reducible first | exact HBW.out | apply below_alloc | apply pw_below_drewN | apply below_drew1) | exact HBW.out))) : w.heap.size ≤ gb114)); have n4_ := Aside0.mk ((Nat.le_trans HW0.out (by rw [hg]; exact (below_size (by repeat (first | (with_reducible first | exact HBW.out | apply below_alloc | apply pw_below_drewN | apply below_drew1) | exact HBW.out))) : w.heap.size ≤ gb114) : w0.heap.size ≤ gb114)); clear HBW; clear HB; have HBW := n0_; have HB := n1_; have BK114 := n2_; have GW114 := n3_; have GE114 := n4_; clear n0_ n1_ n2_ n3_ n4_; clear hb hbox hg))
  go_ret
  exact ⟨_, rfl, (show IsS120 w0 _ gb114 a0 0 from ⟨by (with_reducible repeat (first | refine blk_drewN ?_ _ | refine blk_drew ?_ | refine blk_alloc ?_ _)); exact BK114.out, GE114.out⟩), by repeat (first | (with_reducible first | exact HB.out | apply below_alloc | apply pw_below_drewN | apply below_drew1 | refine below_set ?_ GE114.out) | exact HB.out), by repeat (first | (with_reducible first | exact HBW.out | apply below_alloc | apply pw_below_drewN | apply below_drew1 | refine below_set ?_ GW114.out) | exact HBW.out)⟩
end Go.Proofs.Ytbgjoiccehiglaa.Print
end
section
namespace Go.Proofs.Ytbgjoiccehiglaa.Print
open Go.RowKit Go.Proofs.YtbgjoiccehiglaaW.PrintWords Go.Proofs.YtbgjoiccehiglaaW.PrintLast Go.Proofs.YtbgjoiccehiglaaW.PrintMore
attribute [local go_sem] max2_int min2_int max_two min_two max_three min_three max_four min_four
set_option linter.unusedVariables false
set_option linter.unusedSimpArgs false
theorem must_ok (c : Int) (w : World) : Calls Try.prog 100 #[.bool true, .int .i64 c] w fun e w' => e = .returned (.tuple #[]) ∧ w' = w := by
  go_enter Try.func100, Try.ntmps100
  go_wp2
  go_end0
  exact ⟨rfl, rfl⟩
set_option maxRecDepth 100000 in
theorem must_no (c : Int) (w : World) : Calls Try.prog 100 #[.bool false, .int .i64 c] w fun e w' => e = .panicked [{ v := .iface 126 (.int .i64 c), recovered := false }] ∧ w' = w := by
  go_enter Try.func100, Try.ntmps100
  go_wp2
  exact ⟨rfl, rfl, rfl⟩
theorem catch_idle (p : Addr) (w : World) :
    CallsD Try.prog 105 #[.pointer (some p)] .returning w fun e u' w' => e = .returned (.tuple #[]) ∧ u' = .returning ∧ w' = w := by
  refine callsD_of_wpS Try.func105 rfl fun c₀ cs hu => ?_
  apply wpS_seq
  apply wpS_region
  simp [wpOpsS, go_sem, recoverD, hu, Try.ntmps105, Exit.thenS]
  apply wpS_seq
  apply wpS_region
  simp [wpOpsS, go_sem, Exit.thenS]
  refine wpS_cond (t := false) (by simp [Act.eval, Array.replicate]) ?_
  simp only [Bool.false_eq_true, if_false]
  refine wpS_of_wp (wp_skip ?_)
  cases c₀
  simp_all [bodyPostS, results, Try.results105]
set_option maxRecDepth 100000 in
theorem catch_panics (p : Addr) (g : Nat) (c : Int) (s : ByteArray) (older : List PanicEntry) (w : World) (hp : w.cell? p = some (.pointer (some ⟨g, 0, none⟩)))
    (hI : w.heap[g]? = some (.cells #[.string s, .int .i64 0] 120 (0, 0))) (hne : p.block ≠ g) :
    CallsD Try.prog 105 #[.pointer (some p)] (.panicking ({ v := .iface 126 (.int .i64 c), recovered := false } :: older)) w fun e u' w' => e = .returned (.tuple #[]) ∧ u' = .panicking ({ v := .iface 126 (.int .i64 c), recovered := true } :: older) ∧ ∃ n, w' = (w.drewN n).setCell ⟨g, 1, none⟩ (.int .i64 c) := by
  refine callsD_of_wpS Try.func105 rfl fun c₀ cs hu => ?_
  apply wpS_seq
  apply wpS_region
  simp [wpOpsS, go_sem, recoverD, hu, Try.ntmps105, Exit.thenS]
  apply wpS_seq
  apply wpS_region
  simp [wpOpsS, go_sem, Exit.thenS]
  refine wpS_cond (t := true) (by simp [Act.eval, Array.replicate]) ?_
  simp only [if_true]
  refine wpS_of_wp ?_
  have h1 := cellS120_1 hI
  have h2 := blk_frozen hI 1
  have hta : ∀ (v : Value) (W : World), (Instr.typeAssert (.iface 126 v) 20 126 false).run Try.prog W = .ok v W := fun v W => by rfl
  clear hI
  have hk : ∀ v, ((w.setCell ⟨g, 1, none⟩ v).drew).cell? p = some (.pointer (some ⟨g, 0, none⟩)) := by
    intro v
    have hne' : (⟨g, 1, none⟩ : Addr) ≠ p := by rintro rfl; exact hne rfl
    simp [World.cell?_setCell_other _ _ _ _ hne', hp]
  go_region_held3 (fun W => W.cell? p = some (.pointer (some ⟨g, 0, none⟩))) (first | go_keep | exact hk _) (first | fail)
  cases c₀
  simp_all [bodyPostS, results, Try.results105]
  exact ⟨1, rfl⟩
set_option maxHeartbeats 8000000 in
set_option maxRecDepth 100000 in
theorem read_ret (g : Nat) (s s' : ByteArray) (c : Nat) (caps : Array Value) (w : World) (R : World → Prop)
    (hI : w.heap[g]? = some (.cells #[.string s, .int .i64 0] 120 (0, 0)))
    (hc : ∀ n, Calls Try.prog c (#[.string s] ++ caps) ((w.alloc (.cells #[.pointer (some ⟨g, 0, none⟩)] 85)).drewN n) fun e w' => e = .returned (.string s') ∧ R w')
    (hcf : ∀ W, (callFunc c (#[.string s] ++ caps)).run Try.prog W = .ok (.enter c (#[.string s] ++ caps)) W)
    (hR : ∀ w', R w' → w'.heap[g]? = some (.cells #[.string s, .int .i64 0] 120 (0, 0)) ∧ w'.heap[w.heap.size]? = some (.cells #[.pointer (some ⟨g, 0, none⟩)] 85 (0, 0))) :
    Calls Try.prog 98 #[.pointer (some ⟨g, 0, none⟩), .func (.func c) #[] caps] w fun e w' => e = .returned (.tuple #[]) ∧ ∃ w1, R w1 ∧ w' = w1.setCell ⟨g, 0, none⟩ (.string s') := by
  have hmf : ∀ (fn : Fn) (first cap : Array Value) (w : World), (Instr.makeFunc fn first cap).run Try.prog w = .ok (.func fn first cap) w := fun _ _ _ _ => rfl
  have HI := blk_alloc hI (.cells #[.pointer (some ⟨g, 0, none⟩)] 85)
  have HG := Aside0.mk (blk_lt hI)
  have h0 := cellS120_0 HI
  have h1 := cellS120_1 HI
  have HH := Aside0.mk HI
  clear HI hI
  have HC := Aside0.mk hc
  have HR := Aside0.mk hR
  clear hc hR
  go_enter_defers Try.func98, Try.ntmps98
  go_wp2_with fail
  refine wp_region_noPanic ?_
  refine wp_region_held_drew (S := fun W => W.cell? ⟨w.heap.size, 0, none⟩ = some (.pointer (some ⟨g, 0, none⟩))) (by kernel_rfl) (by go_simp) (fun hHeld => ?_)
  refine wpAnyH_take (i := 0) (v := .pointer (some ⟨g, 0, none⟩)) rfl (by kernel_rfl) (by kernel_rfl) (by kernel_rfl) (fun _ _ _ h => h) (Or.inl ⟨by rfl, fun W hS => by (try dsimp only at hS); go_simp⟩) hHeld ?_
  simp only [Act.put, List.setIfInBounds_toArray, List.set_cons_zero, List.set_cons_succ]
  refine wpAnyH_take (i := 1) (v := .func (.func c) #[] caps) rfl (by kernel_rfl) (by kernel_rfl) (by kernel_rfl) (fun _ _ _ h => h) (Or.inl ⟨by rfl, fun W hS => by go_simp⟩) hHeld ?_
  simp only [Act.put, List.setIfInBounds_toArray, List.set_cons_zero, List.set_cons_succ]
  refine wpAnyH_take (i := 2) (v := .pointer (some ⟨g, 0, none⟩)) rfl (by kernel_rfl) (by kernel_rfl) (by kernel_rfl) (fun _ _ _ h => h) (Or.inl ⟨by rfl, fun W hS => by (try dsimp only at hS); go_simp⟩) hHeld ?_
  simp only [Act.put, List.setIfInBounds_toArray, List.set_cons_zero, List.set_cons_succ]
  refine wpAnyH_take (i := 3) (v := .pointer (some ⟨g, 0, none⟩)) rfl (by kernel_rfl) (by kernel_rfl) (by kernel_rfl) (fun _ _ _ h => h) (Or.inl ⟨by rfl, fun W hS => by go_simp⟩) hHeld ?_
  simp only [Act.put, List.setIfInBounds_toArray, List.set_cons_zero, List.set_cons_succ]
  refine wpAnyH_take (i := 4) (v := .pointer (some ⟨g, 0, none⟩)) rfl (by kernel_rfl) (by kernel_rfl) (by kernel_rfl) (fun _ _ _ h => h) (Or.inl ⟨by rfl, fun W hS => by go_simp⟩) hHeld ?_
  simp only [Act.put, List.setIfInBounds_toArray, List.set_cons_zero, List.set_cons_succ]
  refine wpAnyH_ready (rs := [5]) (by kernel_rfl) (by simp) (AllReadyH.cons rfl (fun K hK => ?_) AllReadyH.nil)
  go_simp
  refine hK.out _ _ hHeld (fun hHeld => ?_)
  clear hK K
  (try simp only [Act.put, List.setIfInBounds_toArray, List.set_cons_zero, List.set_cons_succ])
  refine wpAnyH_ready (rs := [6]) (by kernel_rfl) (by simp) (AllReadyH.cons rfl (fun K hK => ?_) AllReadyH.nil)
  go_simp
  refine Calls.mono (HC.out 1) ?_
  rintro e w' ⟨rfl, hq⟩
  have hz := HR.out _ hq
  have hbox : w'.cell? ⟨w.heap.size, 0, none⟩ = some (.pointer (some ⟨g, 0, none⟩)) := (blk_cell hz.2 0).trans rfl
  have hg0 := cellS120_0 hz.1
  have hgf := blk_frozen hz.1 0
  have hbox2 : ∀ v, (w'.setCell ⟨g, 0, none⟩ v).cell? ⟨w.heap.size, 0, none⟩ = some (.pointer (some ⟨g, 0, none⟩)) := fun v => by
    have hne : (⟨g, 0, none⟩ : Addr) ≠ ⟨w.heap.size, 0, none⟩ := by
      intro h
      injection h with h
      have := HG.out
      omega
    rw [World.cell?_setCell_other _ _ _ _ hne]
    exact hbox
  refine hK.out _ _ hbox (fun hHeld => ?_)
  clear hK K
  (try simp only [Act.put, List.setIfInBounds_toArray, List.set_cons_zero, List.set_cons_succ])
  refine wpAnyH_take (i := 7) (v := .pointer (some ⟨g, 0, none⟩)) rfl (by kernel_rfl) (by kernel_rfl) (by kernel_rfl) (fun _ _ _ h => h) (Or.inl ⟨by rfl, fun W hS => by go_simp⟩) hHeld ?_
  simp only [Act.put, List.setIfInBounds_toArray, List.set_cons_zero, List.set_cons_succ]
  refine wpAnyH_take (i := 8) (v := .pointer (some ⟨g, 0, none⟩)) rfl (by kernel_rfl) (by kernel_rfl) (by kernel_rfl) (fun _ _ _ h => h) (Or.inl ⟨by rfl, fun W hS => by go_simp⟩) hHeld ?_
  simp only [Act.put, List.setIfInBounds_toArray, List.set_cons_zero, List.set_cons_succ]
  refine wpAnyH_ready (rs := [9]) (by kernel_rfl) (by simp) (AllReadyH.cons rfl (fun K hK => ?_) AllReadyH.nil)
  go_simp
  refine hK.out _ _ (hbox2 _) (fun hHeld => ?_)
  clear hK K
  refine wpAnyH_done (by kernel_rfl) ?_ _
  all_goals
    refine NoPanic.normal ?_
    refine leaves_cons (f := 105) (args := #[.pointer (some ⟨w.heap.size, 0, none⟩)]) (by simp) (by simp [go_sem]) ?_
    refine (catch_idle ⟨w.heap.size, 0, none⟩ _).mono ?_
    rintro e u' w'' ⟨rfl, rfl, rfl⟩
    simp [Leaves, settle, results, Try.results98, go_sem]
    exact ⟨w', hq, rfl⟩
def PanicR (D : List Deferred) (R : List PanicEntry → World → Prop) : Exit → Act → World → Prop
  | .panic ch, a, w => a.defers = D ∧ R ch w
  | _, _, _ => False
set_option maxHeartbeats 8000000 in
set_option maxRecDepth 100000 in
theorem read_panics (g : Nat) (s : ByteArray) (c : Nat) (k : Int) (caps : Array Value) (w : World) (R : World → Prop)
    (hI : w.heap[g]? = some (.cells #[.string s, .int .i64 0] 120 (0, 0)))
    (hc : ∀ n, Calls Try.prog c (#[.string s] ++ caps) ((w.alloc (.cells #[.pointer (some ⟨g, 0, none⟩)] 85)).drewN n) fun e w' => e = .panicked [{ v := .iface 126 (.int .i64 k), recovered := false }] ∧ R w')
    (hcf : ∀ W, (callFunc c (#[.string s] ++ caps)).run Try.prog W = .ok (.enter c (#[.string s] ++ caps)) W)
    (hR : ∀ w', R w' → w'.heap[g]? = some (.cells #[.string s, .int .i64 0] 120 (0, 0)) ∧ w'.heap[w.heap.size]? = some (.cells #[.pointer (some ⟨g, 0, none⟩)] 85 (0, 0))) :
    Calls Try.prog 98 #[.pointer (some ⟨g, 0, none⟩), .func (.func c) #[] caps] w fun e w' => e = .returned (.tuple #[]) ∧ ∃ w1 n, R w1 ∧ w' = (World.drewN w1 n).setCell ⟨g, 1, none⟩ (.int .i64 k) := by
  have hmf : ∀ (fn : Fn) (first cap : Array Value) (w : World), (Instr.makeFunc fn first cap).run Try.prog w = .ok (.func fn first cap) w := fun _ _ _ _ => rfl
  have HI := blk_alloc hI (.cells #[.pointer (some ⟨g, 0, none⟩)] 85)
  have HG := Aside0.mk (blk_lt hI)
  have h0 := cellS120_0 HI
  have h1 := cellS120_1 HI
  have HH := Aside0.mk HI
  clear HI hI
  have HC := Aside0.mk hc
  have HR := Aside0.mk hR
  clear hc hR
  go_enter_defers Try.func98, Try.ntmps98
  go_wp2_with fail
  refine Code.wp_mono (Q := PanicR [{ target := .fn (.func 105) #[.pointer (some ⟨w.heap.size, 0, none⟩)], args := #[] }] fun ch w' => ch = [{ v := .iface 126 (.int .i64 k), recovered := false }] ∧ R w') ?_ ?_
  · intro e a w1 hq
    cases e with
    | panic ch =>
      obtain ⟨hd, rfl, hr⟩ := hq
      obtain ⟨tmps, defers⟩ := a
      simp only at hd
      subst hd
      have hz := HR.out _ hr
      refine leaves_cons (f := 105) (args := #[.pointer (some ⟨w.heap.size, 0, none⟩)]) (by simp) (by simp [go_sem]) ?_
      refine (catch_panics ⟨w.heap.size, 0, none⟩ g k s [] _ ((blk_cell hz.2 0).trans rfl) hz.1 (by have := HG.out; simp; omega)).mono ?_
      rintro e u' w'' ⟨rfl, rfl, n, rfl⟩
      simp [Leaves, settle, results, Try.results98, go_sem]
      exact ⟨w1, hr, n, rfl⟩
    | _ => exact hq.elim
  refine wp_region_held_drew (S := fun W => W.cell? ⟨w.heap.size, 0, none⟩ = some (.pointer (some ⟨g, 0, none⟩))) (by kernel_rfl) (by go_simp) (fun hHeld => ?_)
  refine wpAnyH_take (i := 0) (v := .pointer (some ⟨g, 0, none⟩)) rfl (by kernel_rfl) (by kernel_rfl) (by kernel_rfl) (fun _ _ _ h => h) (Or.inl ⟨by rfl, fun W hS => by (try dsimp only at hS); go_simp⟩) hHeld ?_
  simp only [Act.put, List.setIfInBounds_toArray, List.set_cons_zero, List.set_cons_succ]
  refine wpAnyH_take (i := 1) (v := .func (.func c) #[] caps) rfl (by kernel_rfl) (by kernel_rfl) (by kernel_rfl) (fun _ _ _ h => h) (Or.inl ⟨by rfl, fun W hS => by go_simp⟩) hHeld ?_
  simp only [Act.put, List.setIfInBounds_toArray, List.set_cons_zero, List.set_cons_succ]
  refine wpAnyH_take (i := 2) (v := .pointer (some ⟨g, 0, none⟩)) rfl (by kernel_rfl) (by kernel_rfl) (by kernel_rfl) (fun _ _ _ h => h) (Or.inl ⟨by rfl, fun W hS => by (try dsimp only at hS); go_simp⟩) hHeld ?_
  simp only [Act.put, List.setIfInBounds_toArray, List.set_cons_zero, List.set_cons_succ]
  refine wpAnyH_take (i := 3) (v := .pointer (some ⟨g, 0, none⟩)) rfl (by kernel_rfl) (by kernel_rfl) (by kernel_rfl) (fun _ _ _ h => h) (Or.inl ⟨by rfl, fun W hS => by go_simp⟩) hHeld ?_
  simp only [Act.put, List.setIfInBounds_toArray, List.set_cons_zero, List.set_cons_succ]
  refine wpAnyH_take (i := 4) (v := .pointer (some ⟨g, 0, none⟩)) rfl (by kernel_rfl) (by kernel_rfl) (by kernel_rfl) (fun _ _ _ h => h) (Or.inl ⟨by rfl, fun W hS => by go_simp⟩) hHeld ?_
  simp only [Act.put, List.setIfInBounds_toArray, List.set_cons_zero, List.set_cons_succ]
  refine wpAnyH_ready (rs := [5]) (by kernel_rfl) (by simp) (AllReadyH.cons rfl (fun K hK => ?_) AllReadyH.nil)
  go_simp
  refine hK.out _ _ hHeld (fun hHeld => ?_)
  clear hK K
  (try simp only [Act.put, List.setIfInBounds_toArray, List.set_cons_zero, List.set_cons_succ])
  refine wpAnyH_ready (rs := [6]) (by kernel_rfl) (by simp) (AllReadyH.cons rfl (fun K hK => ?_) AllReadyH.nil)
  go_simp
  refine Calls.mono (HC.out 1) ?_
  rintro e w' ⟨rfl, hq⟩
  exact ⟨rfl, rfl, hq⟩
def numL (s : ByteArray) : Nat → Int → Int → Int × Int × Int
  | 0, _, _ => (3, 0, 0)
  | k + 1, i, n => if i < s.size then
      (if (i < 9 ∨ bt s i ≤ 1) ∧ (i = 0 ∨ bt s i ≠ 0) then
        (if bt s i < 128 then (0, n + bt s i % 128 * 128 ^ i.toNat, i + 1) else numL s k (i + 1) (n + bt s i % 128 * 128 ^ i.toNat))
      else (3, 0, 0)) else (2, 0, 0)
theorem pack_wraps_u64 (n : Int) (h₀ : 0 ≤ n) (h₁ : n < 2 ^ 64) : IntKind.u64.wrap n = n := by simp [IntKind.wrap, IntKind.bits, IntKind.signed]; omega
theorem pack_bits_comm (k : IntKind) (x y : Int) : bits .or k x y = bits .or k y x := by simp only [bits]; rw [BitVec.or_comm]
theorem pack_andNot (b : Int) (h0 : 0 ≤ b) (h1 : b ≤ 255) : bits .andNot .u8 b 128 = b % 128 := by
  obtain ⟨n, rfl⟩ := Int.eq_ofNat_of_zero_le h0
  have hn : n < 256 := by omega
  have key : ∀ m : Fin 256, bits .andNot .u8 ((m.val : Nat) : Int) 128 = ((m.val : Nat) : Int) % 128 := by decide +kernel
  exact key ⟨n, hn⟩
theorem pack_pow (i : Int) : (2 : Int) ^ (7 * i).toNat = 128 ^ i.toNat := by
  rw [show (7 * i).toNat = 7 * i.toNat by omega, Int.pow_mul]; rfl
theorem pack_pow9 (i : Int) (hi : i ≤ 9) : (128 : Int) ^ i.toNat ≤ 2 ^ 63 ∧ 0 < (128 : Int) ^ i.toNat := by
  have h : i.toNat ≤ 9 := by omega
  generalize i.toNat = j at h
  rcases j with _ | _ | _ | _ | _ | _ | _ | _ | _ | _ | j
  all_goals first | omega | (constructor <;> decide)
theorem pack_pow8 (i : Int) (hi : i ≤ 8) : (128 : Int) ^ i.toNat ≤ 2 ^ 56 := by
  have h : i.toNat ≤ 8 := by omega
  generalize i.toNat = j at h
  rcases j with _ | _ | _ | _ | _ | _ | _ | _ | _ | j
  all_goals first | omega | decide
theorem num_step (i b n : Int) (h0 : 0 ≤ i) (h9 : i ≤ 9) (hb0 : 0 ≤ b) (hb : b ≤ 255) (h1 : i < 9 ∨ b ≤ 1) (hn0 : 0 ≤ n) (hn : n < 128 ^ i.toNat) :
    bits .or .u64 n (IntKind.u64.wrap (IntKind.u64.wrap (bits .andNot .u8 b 128) * 2 ^ (7 * i).toNat)) = n + b % 128 * 128 ^ i.toNat ∧ n + b % 128 * 128 ^ i.toNat < 2 ^ 64 := by
  rw [pack_andNot b hb0 hb, pack_pow, pack_wraps_u64 (b % 128) (by omega) (by omega)]
  obtain ⟨hp, hq⟩ := pack_pow9 i h9
  have hm : b % 128 * 128 ^ i.toNat ≤ 2 ^ 64 - 128 ^ i.toNat := by
    rcases h1 with h1 | h1
    · have h8 := pack_pow8 i (by omega)
      have : b % 128 * 128 ^ i.toNat ≤ 127 * 128 ^ i.toNat := Int.mul_le_mul_of_nonneg_right (by omega) (by omega)
      omega
    · have : b % 128 * 128 ^ i.toNat ≤ 1 * 128 ^ i.toNat := Int.mul_le_mul_of_nonneg_right (by omega) (by omega)
      omega
  have hm0 : 0 ≤ b % 128 * 128 ^ i.toNat := Int.mul_nonneg (by omega) (by omega)
  rw [pack_wraps_u64 (b % 128 * 128 ^ i.toNat) hm0 (by omega)]
  refine ⟨?_, by omega⟩
  rw [pack_bits_comm, bits_join .u64 64 (by decide) pack_wraps_u64 (7 * i).toNat _ _ hm0 ?_ (by omega) hn0 (by rw [pack_pow]; exact hn) (by omega)]
  · omega
  · rw [pack_pow]; exact Int.mul_emod_left _ _
def NumEnd (R : Int × Int × Int) (s : ByteArray) (po : Addr) (w : World) (e : Ending) (w' : World) : Prop :=
      (R.1 = 0 ∧ e = .returned (.string (s.extract R.2.2.toNat s.size)) ∧ w' = w.setCell po (.int .u64 R.2.1)) ∨
      (R.1 ≠ 0 ∧ e = .panicked [{ v := .iface 126 (.int .i64 R.1), recovered := false }] ∧ w' = w)
set_option maxHeartbeats 8000000 in
set_option maxRecDepth 100000 in
theorem num1_any (s : ByteArray) (po : Addr) (w : World) (x : Int) (hs : s.size ≤ 9223372036854775000) (ho : w.cell? po = some (.int .u64 x)) (hf : w.frozen? po = false) :
    Calls Try.prog 99 #[.string s, .pointer (some po)] w (NumEnd (numL s 10 0 0) s po w) := by
  obtain ⟨R, hR⟩ : ∃ R, numL s 10 0 0 = R := ⟨_, rfl⟩
  rw [hR]
  have HR0 := Aside0.mk hR
  clear hR
  go_enter Try.func99, Try.ntmps99
  go_wp2
  go_loopg [4, 5] 10 (fun gk v4 v5 w' => ∃ (i : Int) (n : Int), v4 = .int .u64 n ∧ v5 = .int .i64 i ∧ 0 ≤ i ∧ i + gk = 10 ∧ 1 ≤ gk ∧ Aside0 (0 ≤ n ∧ n < 128 ^ i.toNat) ∧ Aside0 (numL s gk i n = R) ∧ i ≤ s.size ∧ w = w')
  case atStart => exact ⟨0, 0, rfl, rfl, by omega, by omega, by omega, ⟨by decide⟩, HR0, by omega, rfl⟩
  case round =>
    clear HR0
    obtain ⟨i, n, rfl, rfl, hi0, hi9, hgk, HN, HA, his, rfl⟩ := hrel
    have p7 := eq_true hi0
    have hr := bt_range s i
    cases gk with
    | zero => omega
    | succ k =>
    by_cases hlt : i < s.size
    · have hlt' : decide (i < (s.size : Int)) = true := decide_eq_true hlt
      have q7 := eq_true hlt
      have hx := bt_at s i
      by_cases hok : (i < 9 ∨ bt s i ≤ 1) ∧ (i = 0 ∨ bt s i ≠ 0)
      · obtain ⟨hs1, hs2⟩ := num_step i (bt s i) n hi0 (by omega) hr.1 hr.2 hok.1 HN.out.1 HN.out.2
        have HM := Aside0.mk hs2
        clear hs2
        have hA := HA.out
        simp only [numL, if_pos hlt, if_pos hok] at hA
        by_cases hb : bt s i < 128
        · have hb' := decide_eq_true hb
          rw [if_pos hb] at hA
          have HR := Aside0.mk hA
          clear hA HA
          have s1 := eq_true (show 0 ≤ i + 1 by omega)
          have s2 := eq_true (show i + 1 ≤ (s.size : Int) by omega)
          obtain ⟨hok1, hok2⟩ := hok
          have c : (decide (i < 9) = true ∧ (i == 0) = true) ∨ (decide (i < 9) = true ∧ (i == 0) = false ∧ (bt s i != 0) = true) ∨ (decide (i < 9) = false ∧ decide (bt s i ≤ 1) = true ∧ (i == 0) = false ∧ (bt s i != 0) = true) := by
            simp only [decide_eq_false_iff_not, decide_eq_true_eq, beq_eq_false_iff_ne, bne_iff_ne, beq_iff_eq]
            omega
          clear hok1 hok2
          rcases c with ⟨c1, c2⟩ | ⟨c1, c2, c3⟩ | ⟨c1, c2, c3, c4⟩
          all_goals
            go_wp2_with (go_at_call 100; refine (must_ok _ _).mono ?_; rintro e w' ⟨rfl, rfl⟩)
            go_ret
            exact .inl ⟨by rw [← HR.out], by rw [← HR.out]; rfl, by rw [← HR.out]⟩
        · have hb' := decide_eq_false hb
          rw [if_neg hb] at hA
          have HA' := Aside0.mk hA
          clear hA HA
          obtain ⟨hok1, hok2⟩ := hok
          have h9 : i < 9 := by omega
          have c1 := decide_eq_true h9
          have HP : Aside0 (0 ≤ n + bt s i % 128 * 128 ^ i.toNat ∧ n + bt s i % 128 * 128 ^ i.toNat < 128 ^ (i + 1).toNat) := by
            obtain ⟨hp, hq⟩ := pack_pow9 i (by omega)
            have hn := HN.out
            have hm0 : 0 ≤ bt s i % 128 * 128 ^ i.toNat := Int.mul_nonneg (by omega) (by omega)
            have : bt s i % 128 * 128 ^ i.toNat ≤ 127 * 128 ^ i.toNat := Int.mul_le_mul_of_nonneg_right (by omega) (by omega)
            rw [show (i + 1).toNat = i.toNat + 1 by omega, Int.pow_succ]
            exact ⟨by omega, by omega⟩
          by_cases h0 : i = 0
          all_goals
            first | have c2 := beq_iff_eq.mpr h0 | (have c2 := beq_eq_false_iff_ne.mpr h0; have c2b := bne_iff_ne.mpr (show bt s i ≠ 0 by omega))
            clear hok1 hok2 h0
            go_wp2_with (go_at_call 100; refine (must_ok _ _).mono ?_; rintro e w' ⟨rfl, rfl⟩)
            go_roundg k
            case measure => omega
            case rel => exact ⟨i + 1, n + bt s i % 128 * 128 ^ i.toNat, by first | rfl | simp, rfl, by omega, by omega, by omega, HP, HA', by omega, rfl⟩
      · have hA := HA.out
        simp only [numL, if_pos hlt, if_neg hok] at hA
        have HR := Aside0.mk hA
        clear hA HA
        have c : (decide (i < 9) = false ∧ decide (bt s i ≤ 1) = false) ∨ (decide (i < 9) = true ∧ (i == 0) = false ∧ (bt s i != 0) = false) ∨ (decide (i < 9) = false ∧ decide (bt s i ≤ 1) = true ∧ (i == 0) = false ∧ (bt s i != 0) = false) := by
          simp only [decide_eq_false_iff_not, decide_eq_true_eq, beq_eq_false_iff_ne, bne_eq_false_iff_eq]
          omega
        clear hok
        rcases c with ⟨c1, c2⟩ | ⟨c1, c2, c3⟩ | ⟨c1, c2, c3, c4⟩
        all_goals
          go_wp2_with (first | (go_at_call 100; (with_reducible refine (must_ok 2 _).mono ?_); rintro e w' ⟨rfl, rfl⟩) | (go_at_call 100; (with_reducible refine (must_no 3 _).mono ?_); rintro e w' ⟨rfl, rfl⟩))
          exact ⟨rfl, .inr ⟨by rw [← HR.out]; decide, by rw [← HR.out], rfl⟩⟩
    · have hlt' : decide (i < (s.size : Int)) = false := decide_eq_false hlt
      have hA := HA.out
      simp only [numL, if_neg hlt] at hA
      have HR := Aside0.mk hA
      clear hA HA
      go_wp2_with (go_at_call 100; refine (must_no _ _).mono ?_; rintro e w' ⟨rfl, rfl⟩)
      exact ⟨rfl, .inr ⟨by rw [← HR.out]; decide, by rw [← HR.out], rfl⟩⟩
set_option maxRecDepth 100000 in
theorem read_skip (g : Nat) (s : ByteArray) (c : Nat) (k : Int) (caps : Array Value) (w : World) (hk : k ≠ 0)
    (hI : w.heap[g]? = some (.cells #[.string s, .int .i64 k] 120 (0, 0))) :
    Calls Try.prog 98 #[.pointer (some ⟨g, 0, none⟩), .func (.func c) #[] caps] w fun e w' => e = .returned (.tuple #[]) ∧ w' = w.alloc (.cells #[.pointer (some ⟨g, 0, none⟩)] 85) := by
  have HI := blk_alloc hI (.cells #[.pointer (some ⟨g, 0, none⟩)] 85)
  have h1 := cellS120_1 HI
  have hk' := bne_iff_ne.mpr hk
  clear HI hI hk
  go_enter_defers Try.func98, Try.ntmps98
  go_wp2_with fail
  exact ⟨_, by simp [results, Try.results98, go_sem], rfl, rfl⟩
def pack_Reader_Num.f (s : ByteArray) (k : Int) : Option (Int × ByteArray × Int) :=
  if s.size ≤ 9223372036854775000 then
    (if k = 0 then (if (numL s 10 0 0).1 = 0 then some ((numL s 10 0 0).2.1, s.extract (numL s 10 0 0).2.2.toNat s.size, 0) else some (0, s, (numL s 10 0 0).1))
    else some (0, s, k)) else none
theorem num_fn38 (args : Array Value) (W : World) : (callFunc 99 args).run Try.prog W = .ok (.enter 99 args) W := by
  simp [go_sem, Try.func99]
set_option maxHeartbeats 8000000 in
set_option maxRecDepth 100000 in
theorem pack_Reader_Num.calls (g : Nat) (s0_0 : ByteArray) (s0_1 : Int) (r1 : Int) (r2 : ByteArray) (r3 : Int) (w0 w : World) (hI : IsS120 w0 w g s0_0 s0_1) (hB : Below w0.heap.size w0 w) (h : pack_Reader_Num.f s0_0 s0_1 = some (r1, r2, r3)) :
    Calls Try.prog 81 #[.pointer (some ⟨g, 0, none⟩)] w fun e w' => e = .returned (.int .u64 r1) ∧ IsS120 w0 w' g r2 r3 ∧ Below w0.heap.size w0 w' ∧ KeepBut w w' g none := by
  have hmf : ∀ (fn : Fn) (first cap : Array Value) (w : World), (Instr.makeFunc fn first cap).run Try.prog w = .ok (.func fn first cap) w := fun _ _ _ _ => rfl
  obtain ⟨hg, hge⟩ := hI
  have hlt := blk_lt hg
  have hg1 := blk_alloc hg (.cells #[.int .u64 0] 51)
  have hsz := hB.size
  unfold pack_Reader_Num.f at h
  by_cases hs : s0_0.size ≤ 9223372036854775000
  · rw [if_pos hs] at h
    by_cases hk : s0_1 = 0
    · subst hk
      rw [if_pos rfl] at h
      by_cases hR : (numL s0_0 10 0 0).1 = 0
      · rw [if_pos hR] at h
        simp only [Option.some.injEq, Prod.mk.injEq] at h
        obtain ⟨rfl, rfl, rfl⟩ := h
        have ho : (w.alloc (.cells #[.int .u64 0] 51)).heap[w.heap.size]? = some (.cells #[.int .u64 0] 51 (0, 0)) := blk_new w _
        have ho1 := blk_alloc ho (.cells #[.pointer (some ⟨g, 0, none⟩)] 85)
        have hg2 := blk_alloc hg1 (.cells #[.pointer (some ⟨g, 0, none⟩)] 85)
        have hb2 := blk_new (w.alloc (.cells #[.int .u64 0] 51)) (.cells #[.pointer (some ⟨g, 0, none⟩)] 85)
        have hsA : (w.alloc (.cells #[.int .u64 0] 51)).heap.size = w.heap.size + 1 := by simp
        have hnum := fun n => num1_any s0_0 ⟨w.heap.size, 0, none⟩ (((w.alloc (.cells #[.int .u64 0] 51)).alloc (.cells #[.pointer (some ⟨g, 0, none⟩)] 85)).drewN n) 0 hs ((blk_cell (blk_drewN ho1 n) 0).trans rfl) (blk_frozen (blk_drewN ho1 n) 0)
        have HC := Aside0.mk (read_ret g s0_0 (s0_0.extract (numL s0_0 10 0 0).2.2.toNat s0_0.size) 99 #[.pointer (some ⟨w.heap.size, 0, none⟩)] (w.alloc (.cells #[.int .u64 0] 51))
          (fun w' => ∃ n, w' = ((((w.alloc (.cells #[.int .u64 0] 51)).alloc (.cells #[.pointer (some ⟨g, 0, none⟩)] 85)).drewN n).setCell ⟨w.heap.size, 0, none⟩ (.int .u64 (numL s0_0 10 0 0).2.1))) hg1
          (fun n => (hnum n).mono (by
            rintro e w' (⟨_, rfl, rfl⟩ | ⟨hne, _⟩)
            · exact ⟨rfl, n, rfl⟩
            · exact absurd hR hne))
          (num_fn38 _) (by
            rintro w' ⟨n, rfl⟩
            exact ⟨blk_far (blk_drewN hg2 n) (by simp; omega) _, blk_far (blk_drewN hb2 n) (by simp) _⟩))
        have HB := Aside0.mk hB
        have HG := Aside0.mk hg2
        have HO := Aside0.mk ho1
        have HL := Aside0.mk hlt
        have HE := Aside0.mk hge
        have HZ := Aside0.mk hsz
        clear hB hg hg1 ho ho1 hg2 hb2 hnum hsA hlt hge hsz
        go_enter Try.func81, Try.ntmps81
        go_wp2_with (go_at_call 98; refine HC.out.mono ?_; rintro e w' ⟨rfl, w1, ⟨n, rfl⟩, hw⟩; have hcell : w'.cell? ⟨w.heap.size, 0, none⟩ = some (.int .u64 (numL s0_0 10 0 0).2.1) := (by have := HL.out; rw [hw]; exact (blk_cell (blk_far (blk_set (blk_drewN HO.out n) 0 _) (by simp; omega) _) 0).trans rfl); have HW := Aside0.mk hw; clear hw)
        go_ret
        have hw := HW.out
        have hlt := HL.out
        refine ⟨rfl, ⟨?_, HE.out⟩, ?_, ?_⟩ <;> rw [hw]
        · exact blk_put (blk_far (blk_drewN HG.out n) (by simp; omega) _) 0 _ rfl
        · exact below_set (below_set (pw_below_drewN (below_alloc (below_alloc HB.out _) _) n) HZ.out) HE.out
        · exact KeepBut.set_ (keep_far (keep_drewN (keep_alloc (keep_alloc (KeepBut.refl _ _ _) _) _) n) (Nat.le_refl _) _) 0 _
      · rw [if_neg hR] at h
        simp only [Option.some.injEq, Prod.mk.injEq] at h
        obtain ⟨rfl, rfl, rfl⟩ := h
        have ho : (w.alloc (.cells #[.int .u64 0] 51)).heap[w.heap.size]? = some (.cells #[.int .u64 0] 51 (0, 0)) := blk_new w _
        have ho1 := blk_alloc ho (.cells #[.pointer (some ⟨g, 0, none⟩)] 85)
        have hg2 := blk_alloc hg1 (.cells #[.pointer (some ⟨g, 0, none⟩)] 85)
        have hb2 := blk_new (w.alloc (.cells #[.int .u64 0] 51)) (.cells #[.pointer (some ⟨g, 0, none⟩)] 85)
        have hsA : (w.alloc (.cells #[.int .u64 0] 51)).heap.size = w.heap.size + 1 := by simp
        have hnum := fun n => num1_any s0_0 ⟨w.heap.size, 0, none⟩ (((w.alloc (.cells #[.int .u64 0] 51)).alloc (.cells #[.pointer (some ⟨g, 0, none⟩)] 85)).drewN n) 0 hs ((blk_cell (blk_drewN ho1 n) 0).trans rfl) (blk_frozen (blk_drewN ho1 n) 0)
        have HC := Aside0.mk (read_panics g s0_0 99 (numL s0_0 10 0 0).1 #[.pointer (some ⟨w.heap.size, 0, none⟩)] (w.alloc (.cells #[.int .u64 0] 51))
          (fun w' => ∃ n, w' = ((w.alloc (.cells #[.int .u64 0] 51)).alloc (.cells #[.pointer (some ⟨g, 0, none⟩)] 85)).drewN n) hg1
          (fun n => (hnum n).mono (by
            rintro e w' (⟨hne, _⟩ | ⟨_, rfl, rfl⟩)
            · exact absurd hne hR
            · exact ⟨rfl, n, rfl⟩))
          (num_fn38 _) (by
            rintro w' ⟨n, rfl⟩
            exact ⟨blk_drewN hg2 n, blk_drewN hb2 n⟩))
        have HB := Aside0.mk hB
        have HG := Aside0.mk hg2
        have HO := Aside0.mk ho1
        have HL := Aside0.mk hlt
        have HE := Aside0.mk hge
        have HZ := Aside0.mk hsz
        clear hB hg hg1 ho ho1 hg2 hb2 hnum hsA hlt hge hsz
        go_enter Try.func81, Try.ntmps81
        go_wp2_with (go_at_call 98; refine HC.out.mono ?_; rintro e w' ⟨rfl, w1, m, ⟨n, rfl⟩, hw⟩; have hcell : w'.cell? ⟨w.heap.size, 0, none⟩ = some (.int .u64 0) := (by have := HL.out; rw [hw]; exact (blk_cell (blk_far (blk_drewN (blk_drewN HO.out n) m) (by simp; omega) _) 0).trans rfl); have HW := Aside0.mk hw; clear hw)
        go_ret
        have hw := HW.out
        have hlt := HL.out
        refine ⟨rfl, ⟨?_, HE.out⟩, ?_, ?_⟩ <;> rw [hw]
        · exact blk_put (blk_drewN (blk_drewN HG.out n) m) 1 _ rfl
        · exact below_set (pw_below_drewN (pw_below_drewN (below_alloc (below_alloc HB.out _) _) n) m) HE.out
        · exact KeepBut.set_ (keep_drewN (keep_drewN (keep_alloc (keep_alloc (KeepBut.refl _ _ _) _) _) n) m) 1 _
    · rw [if_neg hk] at h
      simp only [Option.some.injEq, Prod.mk.injEq] at h
      obtain ⟨rfl, rfl, rfl⟩ := h
      have HB := Aside0.mk hB
      have HG := Aside0.mk hg
      have HG1 := Aside0.mk hg1
      have HC := Aside0.mk (read_skip g s0_0 99 s0_1 #[.pointer (some ⟨w.heap.size, 0, none⟩)] _ hk hg1)
      clear hB hg hg1
      go_enter Try.func81, Try.ntmps81
      go_wp2_with (go_at_call 98; refine HC.out.mono ?_; rintro e w' ⟨rfl, rfl⟩)
      go_ret
      refine ⟨by simp, ⟨?_, hge⟩, ?_, ?_⟩
      · exact blk_alloc HG1.out _
      · exact below_alloc (below_alloc HB.out _) _
      · exact keep_alloc (keep_alloc (KeepBut.refl _ _ _) _) _
  · rw [if_neg hs] at h
    cases h
theorem pack_Reader_Err_any (g : Nat) (s : ByteArray) (k : Int) (w : World) (hI : w.heap[g]? = some (.cells #[.string s, .int .i64 k] 120 (0, 0))) :
    Calls Try.prog 82 #[.pointer (some ⟨g, 0, none⟩)] w fun e w' => e = .returned (.int .i64 k) ∧ w' = w := by
  have h1 := cellS120_1 hI
  go_enter Try.func82, Try.ntmps82
  go_wp2
  go_ret
  exact ⟨rfl, rfl⟩
def pack_Reader_Err.f (s : ByteArray) (k : Int) : Option (Int × ByteArray × Int) := some (k, s, k)
theorem pack_Reader_Err.calls (g : Nat) (s0_0 : ByteArray) (s0_1 : Int) (r1 : Int) (r2 : ByteArray) (r3 : Int) (w0 w : World) (hI : IsS120 w0 w g s0_0 s0_1) (hB : Below w0.heap.size w0 w) (h : pack_Reader_Err.f s0_0 s0_1 = some (r1, r2, r3)) :
    Calls Try.prog 82 #[.pointer (some ⟨g, 0, none⟩)] w fun e w' => e = .returned (.int .i64 r1) ∧ IsS120 w0 w' g r2 r3 ∧ Below w0.heap.size w0 w' ∧ KeepBut w w' g none := by
  simp only [pack_Reader_Err.f, Option.some.injEq, Prod.mk.injEq] at h
  obtain ⟨rfl, rfl, rfl⟩ := h
  refine (pack_Reader_Err_any g s0_0 s0_1 w hI.1).mono ?_
  rintro e w' ⟨rfl, rfl⟩
  exact ⟨rfl, hI, hB, KeepBut.refl _ _ _⟩
theorem pack_Reader_Left_any (g : Nat) (s : ByteArray) (k : Int) (w : World) (hI : w.heap[g]? = some (.cells #[.string s, .int .i64 k] 120 (0, 0))) :
    Calls Try.prog 83 #[.pointer (some ⟨g, 0, none⟩)] w fun e w' => e = .returned (.int .i64 s.size) ∧ w' = w := by
  have h1 := cellS120_0 hI
  go_enter Try.func83, Try.ntmps83
  go_wp2
  go_ret
  exact ⟨rfl, rfl⟩
def pack_Reader_Left.f (s : ByteArray) (k : Int) : Option (Int × ByteArray × Int) := some ((s.size : Int), s, k)
theorem pack_Reader_Left.calls (g : Nat) (s0_0 : ByteArray) (s0_1 : Int) (r1 : Int) (r2 : ByteArray) (r3 : Int) (w0 w : World) (hI : IsS120 w0 w g s0_0 s0_1) (hB : Below w0.heap.size w0 w) (h : pack_Reader_Left.f s0_0 s0_1 = some (r1, r2, r3)) :
    Calls Try.prog 83 #[.pointer (some ⟨g, 0, none⟩)] w fun e w' => e = .returned (.int .i64 r1) ∧ IsS120 w0 w' g r2 r3 ∧ Below w0.heap.size w0 w' ∧ KeepBut w w' g none := by
  simp only [pack_Reader_Left.f, Option.some.injEq, Prod.mk.injEq] at h
  obtain ⟨rfl, rfl, rfl⟩ := h
  refine (pack_Reader_Left_any g s0_0 s0_1 w hI.1).mono ?_
  rintro e w' ⟨rfl, rfl⟩
  exact ⟨rfl, hI, hB, KeepBut.refl _ _ _⟩
end Go.Proofs.Ytbgjoiccehiglaa.Print
end
namespace Go.Proofs.Ytbgjoiccehiglaa.Print
end Go.Proofs.Ytbgjoiccehiglaa.Print
section
namespace Go.Proofs.Ytbgjoiccehiglaa.Print
open Go.RowKit Go.Proofs.YtbgjoiccehiglaaW.PrintWords Go.Proofs.YtbgjoiccehiglaaW.PrintLast Go.Proofs.YtbgjoiccehiglaaW.PrintMore
attribute [local go_sem] max2_int min2_int max_two min_two max_three min_three max_four min_four
set_option linter.unusedVariables false
set_option linter.unusedSimpArgs false
def bonsairef04_sign.f (s : ByteArray) (i : Int) : Option Int := if 0 ≤ i ∧ i < s.size ∧ s.size ≤ 9223372036854775000 then some ((sgStep s i).getD 0) else none
end Go.Proofs.Ytbgjoiccehiglaa.Print
end
section
namespace Go.Proofs.Ytbgjoiccehiglaa.Print
open Go.RowKit Go.Proofs.YtbgjoiccehiglaaW.PrintWords Go.Proofs.YtbgjoiccehiglaaW.PrintLast Go.Proofs.YtbgjoiccehiglaaW.PrintMore
attribute [local go_sem] max2_int min2_int max_two min_two max_three min_three max_four min_four
set_option linter.unusedVariables false
set_option linter.unusedSimpArgs false
def bonsairef04_Count.l0 : Nat → ByteArray → Int → Int → Option (Int × Bool)
  | 0, _, _, _ => none
  | k + 1, x0, x4, x5 => if x5 < (x0.size : Int) then ((bonsairef04_sign.f x0 x5).bind fun t168 => (bonsairef04_Count.l0 k x0 (wrap64 (x4 + 1)) (wrap64 (x5 + t168)))) else (some (x4, true))
end Go.Proofs.Ytbgjoiccehiglaa.Print
end
namespace Go.Proofs.Ytbgjoiccehiglaa.Print
end Go.Proofs.Ytbgjoiccehiglaa.Print
namespace Go.Proofs.Ytbgjoiccehiglaa.Print
end Go.Proofs.Ytbgjoiccehiglaa.Print
section
namespace Go.Proofs.Ytbgjoiccehiglaa.Print
open Go.RowKit Go.Proofs.YtbgjoiccehiglaaW.PrintWords Go.Proofs.YtbgjoiccehiglaaW.PrintLast Go.Proofs.YtbgjoiccehiglaaW.PrintMore
attribute [local go_sem] max2_int min2_int max_two min_two max_three min_three max_four min_four
set_option linter.unusedVariables false
set_option linter.unusedSimpArgs false
theorem flags_turn_calls (g : Nat) (b : Bool) (w : World) (hg : w.heap[g]? = some (.cells #[.bool b] 4 (0, 0))) :
    Calls Try.prog 104 #[.pointer (some ⟨g, 0, none⟩)] w fun e w' => e = .returned (.bool (!b)) ∧ w' = w.setCell ⟨g, 0, none⟩ (.bool (!b)) := by
  have h0 : w.cell? ⟨g, 0, none⟩ = some (.bool b) := (blk_cell hg 0).trans rfl
  have h1 := blk_frozen hg 0
  clear hg
  go_enter Try.func104, Try.ntmps104
  go_wp2
  go_ret
  exact ⟨rfl, rfl⟩
theorem flags_turns_calls (w : World) :
    Calls Try.prog 92 #[] w fun e w' => e = .returned (.func (.func 104) #[] #[.pointer (some ⟨w.heap.size, 0, none⟩)]) ∧ w' = w.alloc (.cells #[.bool true] 4) := by
  have hmf : ∀ (fn : Fn) (first cap : Array Value) (w : World), (Instr.makeFunc fn first cap).run Try.prog w = .ok (.func fn first cap) w := fun _ _ _ _ => rfl
  go_enter Try.func92, Try.ntmps92
  go_wp2
  go_ret
  exact ⟨rfl, rfl⟩
def slices_Repeat_bool_bool.f (l0 : List Bool) (a1 : Int) : Option (List Bool) := if l0.length = 1 then (if 0 ≤ a1 ∧ a1 ≤ 1000000 then some (List.replicate a1.toNat (rdOf false l0 0)) else none) else none
set_option maxHeartbeats 8000000 in
set_option maxRecDepth 100000 in
theorem slices_Repeat_bool_bool.calls (A0 : Option Addr) (c0 : Nat) (l0 : List Bool) (a1 : Int) (r : List Bool) (w : World) (hr0 : Kd.C Kd.bool w A0 l0.length l0) (hc0 : l0.length ≤ c0) (h : slices_Repeat_bool_bool.f l0 a1 = some r) :
    Calls Try.prog 93 #[.slice A0 l0.length c0, .int .i64 a1] w fun e w' => ∃ v0_ : Value, e = .returned (v0_) ∧ Kd.R Kd.bool 4 w' w.heap.size (fun _ => True) v0_ r ∧ Below w.heap.size w w' := by
  unfold slices_Repeat_bool_bool.f at h
  by_cases hl : l0.length = 1
  case neg => rw [if_neg hl] at h; exact absurd h (by simp)
  rw [if_pos hl] at h
  by_cases ha : 0 ≤ a1 ∧ a1 ≤ 1000000
  case neg => rw [if_neg ha] at h; exact absurd h (by simp)
  rw [if_pos ha] at h
  obtain rfl := Option.some.inj h
  clear h
  have c1 : decide (a1 < 0) = false := decide_eq_false (by omega)
  have hm : ∀ w : World, Calls Try.prog 102 #[.int .u64 1, .int .u64 a1] w fun e w' => e = .returned (.tuple #[.int .u64 0, .int .u64 a1]) ∧ w' = w := fun w => by
    have m := Try.bits_Mul 1 a1.toNat (by omega) (by omega) w
    rw [show 1 * a1.toNat / 18446744073709551616 = 0 by omega, show 1 * a1.toNat % 18446744073709551616 = a1.toNat by omega] at m
    rw [Int.toNat_of_nonneg ha.1] at m
    exact m
  have c2 : decide (9223372036854775807 < a1) = false := decide_eq_false (by omega)
  obtain ⟨i0, hi, hz0, hz1, hz2⟩ := info_parts info4
  obtain ⟨N, hN⟩ : ∃ N, N = a1.toNat := ⟨_, rfl⟩
  have hmk : ∀ w, (Instr.makeSlice 55 (.int .i64 a1) (.int .i64 a1)).run Try.prog w = .ok (.slice (some ⟨w.heap.size, 0, none⟩) N N) (w.alloc (.cells (List.replicate N (Value.bool false)).toArray 4)) := fun w => by
    have h := run_make (P := Try.prog) w 55 4 i0 _ Try.underlying55 hi hz0 .i64 .i64 a1 a1 ha.1 (Int.le_refl _) (by rw [hz2]; omega) (by omega)
    rw [h, ← hN, hz1]
    congr 2
    congr 1
    apply Array.ext
    · simp [madeCells]
    · intro j h1 h2
      simp [madeCells, Value.cells, Nat.mod_one]
  have hN' := Aside0.mk hN
  have HMK := Aside0.mk hmk
  clear hmk
  have hszE : (Try.prog.info? 4).map (·.size) = some 1 := by rw [hi]; simp [hz1]
  obtain ⟨X, rfl⟩ := List.length_eq_one_iff.mp hl
  obtain ⟨A, hA⟩ : ∃ A, A0 = some A ∧ w.cell? A = some (.bool X) := by
    obtain ⟨ad, e, hx⟩ := Kd.at_bool hr0 0 (by omega) (by simp)
    exact ⟨ad, e, by simpa [Addr.add, rdOf] using hx⟩
  obtain ⟨rfl, hcell⟩ := hA
  clear hN hl
  have hu55 := Try.underlying55
  have hAlt : A.block < w.heap.size := by
    rcases Nat.lt_or_ge A.block w.heap.size with h' | h'
    · exact h'
    · simp [World.cell?, Array.getElem?_eq_none h'] at hcell
  have hcp : ∀ w3, Below w.heap.size w w3 → ∀ (j : Nat) v, (List.replicate (Nat.min 1 N) (Value.bool X))[j]? = some v → w3.cell? (A.add j) = some v := fun w3 hb j v hv => by
    rw [List.getElem?_replicate] at hv
    split at hv
    · rename_i hj
      obtain rfl : j = 0 := by have h_ : Nat.min 1 N ≤ 1 := Nat.min_le_left 1 N; omega
      obtain rfl := Option.some.inj hv
      rw [show A.add 0 = A by simp [Addr.add], hb.cell hAlt]
      exact hcell
    · cases hv
  show Calls Try.prog 93 #[.slice (some A) 1 c0, .int .i64 a1] w _
  go_enter Try.func93, Try.ntmps93
  go_wp2_with (first | (go_at_call 102; (with_reducible refine (hm _).mono ?_); rintro e w2 ⟨rfl, rfl⟩) | ((with_reducible refine gate_dst (N := 30) rfl ?_); (refine Build.make_event rfl (D := 30) rfl (cs := (List.replicate N (Value.bool false)).toArray) (t := 4) N N ?hr ?_); (case hr => (have h_ := HMK.out w2); first | (go_simp; done) | (go_simp; rfl) | (go_simp; rw [h_]; rfl)); intro g hg w3 hblk hb; subst hg) | ((with_reducible refine gate_dst (N := 33) rfl ?_); (refine wpList_copy_splice rfl (.tmp 31) (.tmp 32) 55 55 rfl 4 Try.underlying55 hszE _ _ _ _ _ _ rfl rfl w2.heap.size 0 (List.replicate N (.bool false)) 4 (by first | exact hblk | simpa using hblk) (List.replicate (Nat.min 1 N) (.bool X)) (by simp) ?hpos ?hfit ?h1 w2.heap.size w2 hb (Nat.le_refl _) ?_); (case hpos => intro h0_; exact ⟨rfl, A, rfl, fun j v hv => hcp w3 hb j v hv⟩); (case hfit => simp only [List.length_replicate, Nat.zero_add]; exact Nat.min_le_right 1 N); (case h1 => intro v hv; rw [List.eq_of_mem_replicate hv]; rfl); intro w4 hblk4 hb4))
  have HBK := Aside0.mk hblk4
  have HB4 := Aside0.mk hb4
  clear hblk4 hb4 hcp hblk hb
  obtain ⟨Z, hZ⟩ : ∃ Z, Z = Value.bool false := ⟨_, rfl⟩
  go_loopg [8] (N + 1) (fun kq v8 w' => ∃ n9 : Int, v8 = .int .i64 n9 ∧ Aside0 (0 ≤ n9 ∧ n9 ≤ N ∧ (N : Int) + 1 ≤ kq + n9 ∧ (0 < N → 1 ≤ n9)) ∧ Aside0 (w'.heap[w2.heap.size]? = some (.cells (List.replicate n9.toNat (Value.bool X) ++ List.replicate (N - n9.toNat) (Value.bool false)).toArray 4 (0, 0))) ∧ Aside0 (Below w2.heap.size w2 w'))
  case atStart =>
    refine ⟨((Nat.min 1 N : Nat) : Int), (by first | rfl | (simp; done) | (simp [goInt]; done)), ⟨by have h1_ : Nat.min 1 N ≤ N := Nat.min_le_right 1 N; have h2_ : 0 < N → Nat.min 1 N = 1 := fun h => Nat.min_eq_left h; omega⟩, ⟨?_⟩, HB4⟩
    refine Eq.trans HBK.out ?_
    congr 2
    simp [splice]
  case round =>
    clear HBK HB4
    obtain ⟨n9, rfl, HK, HBK, HB⟩ := hrel
    cases gk with
    | zero => have := HK.out; exact absurd this (by omega)
    | succ k1 =>
      by_cases hi9 : n9 < (N : Int)
      · have d5 : decide (n9 < (N : Int)) = true := decide_eq_true hi9
        have hk9 := HK.out
        have p9 : 0 ≤ n9 := by omega
        have q9 : n9 ≤ (N : Int) := by omega
        have hne := eq_false (show ¬ N = n9.toNat by omega)
        have hm1 : Nat.min n9.toNat (N - n9.toNat) ≤ n9.toNat := Nat.min_le_left _ _
        have hm2 : Nat.min n9.toNat (N - n9.toNat) ≤ N - n9.toNat := Nat.min_le_right _ _
        have hm3 : 0 < Nat.min n9.toNat (N - n9.toNat) := by rw [show ∀ a b, Nat.min a b = min a b from fun _ _ => rfl]; omega
        have hsrc : ∀ (j : Nat) v, (List.replicate (Nat.min n9.toNat (N - n9.toNat)) (Value.bool X))[j]? = some v → wr.cell? (Addr.add ⟨w2.heap.size, 0, none⟩ j) = some v := fun j v hv => by
          rw [List.getElem?_replicate] at hv
          split at hv
          · rename_i hj
            obtain rfl := Option.some.inj hv
            rw [show Addr.add ⟨w2.heap.size, 0, none⟩ j = ⟨w2.heap.size, j, none⟩ by unfold Addr.add; split <;> simp_all]
            unfold World.cell?
            simp only [HBK.out]
            have hjn : j < n9.toNat := by omega
            simp [List.getElem?_append_left, hjn]
          · cases hv
        obtain ⟨M, hM⟩ : ∃ M, M = Nat.min n9.toNat (N - n9.toNat) := ⟨_, rfl⟩
        rw [← hM] at hm1 hm2 hm3 hsrc
        have hM' := Aside0.mk hM
        clear hM
        go_wp2
        go_region_law (refine step_copy_splice rfl (.tmp 41) (.tmp 44) 55 55 rfl 4 Try.underlying55 hszE (some ⟨w2.heap.size, n9.toNat, none⟩) (some ⟨w2.heap.size, 0, none⟩) (N - n9.toNat) (N - n9.toNat) n9.toNat N (by simp [Act.eval, Act.put, hne]) (by simp [Act.eval, Act.put]) w2.heap.size n9.toNat (List.replicate n9.toNat (Value.bool X) ++ List.replicate (N - n9.toNat) (Value.bool false)) 4 HBK.out (List.replicate M (Value.bool X)) (by rw [List.length_replicate]; exact hM'.out) (fun _ => ⟨rfl, _, rfl, hsrc⟩) (by simp only [List.length_append, List.length_replicate]; omega) (fun v hv => by rw [List.eq_of_mem_replicate hv]; rfl) w2.heap.size w2 (by first | exact HB.out | exact below_drew1 HB.out) (Nat.le_refl _) ?_; intro w4 hg4 hb4)
        have hw : IntKind.i64.wrap (n9 + (M : Int)) = n9 + (M : Int) := by rw [IntKind.wrap_i64]; have := hN'.out; omega
        go_wp2
        go_roundg k1
        case measure => omega
        case rel =>
          refine ⟨n9 + (M : Int), (by first | rfl | (simp; done) | (simp [hw]; done) | (simp [goInt, hw]; done)), ⟨by omega⟩, ⟨Eq.trans hg4 ?_⟩, ⟨hb4⟩⟩
          have e1 : (n9 + (M : Int)).toNat = n9.toNat + M := by omega
          rw [e1]
          congr 2
          unfold splice
          rw [List.length_replicate, List.take_left' (List.length_replicate ..), ← List.drop_drop, List.drop_left' (List.length_replicate ..), List.drop_replicate, ← List.append_assoc, List.replicate_append_replicate, show N - n9.toNat - M = N - (n9.toNat + M) by omega]
      · have d5 : decide (n9 < (N : Int)) = false := decide_eq_false hi9
        have hk9 := HK.out
        go_wp2
        go_ret
        have hn9 : n9.toNat = N := by omega
        refine ⟨_, rfl, Kd.R_of_own (enc := Value.bool) (h1 := fun _ => rfl) ?_ (fun _ _ => trivial), HB.out⟩
        have hb9 := HBK.out
        rw [hn9, Nat.sub_self] at hb9
        have hNN := hN'.out
        refine ⟨by simp [encs], .inr ⟨w2.heap.size, N, _, by simp [← hNN], Nat.le_refl _, hb9, by simp [← hNN], by unfold maxLen; omega, by simp, by simp [encs, ← hNN, rdOf]⟩⟩
def flags_Spread.l0 : Nat → List Int → Int → Bool → Int → List Bool → Option (List Bool × Bool)
  | 0, _, _, _, _, _ => none
  | k + 1, n, most, b, i, out => if i < (n.length : Int) then (if 0 ≤ i then (if rd n i < mn i 1 then some ([], false) else if rd n i > wrap64 (most - (out.length : Int)) then some ([], false) else ((slices_Repeat_bool_bool.f [!b] (rd n i)).bind fun t => if out.length + t.length < 17592186044416 then flags_Spread.l0 k n most (!b) (wrap64 (i + 1)) (out ++ t) else none)) else none) else some (out, true)
def flags_Spread.f (k : Nat) (l0 : List Int) (a1 : Int) : Option (List Bool × Bool) := if a1 < 0 then some ([], false) else if l0.length = 1 ∧ rd l0 0 = 0 then some ([], false) else flags_Spread.l0 k l0 a1 true 0 []
theorem flags_Spread.mono_l : ∀ k n most b i out, LeO (flags_Spread.l0 k n most b i out) (flags_Spread.l0 (k + 1) n most b i out)
  | 0, _, _, _, _, _ => fun r h => by simp [flags_Spread.l0] at h
  | k + 1, n, most, b, i, out => by
    have ih := flags_Spread.mono_l k
    unfold flags_Spread.l0
    exact LeO.ite (LeO.ite (LeO.ite (LeO.refl _) (LeO.ite (LeO.refl _) (LeO.bind (LeO.refl _) fun t => LeO.ite (ih _ _ _ _ _) (LeO.refl _)))) (LeO.refl _)) (LeO.refl _)
theorem flags_Spread.mono : ∀ a0 a1 k, LeO (flags_Spread.f k a0 a1) (flags_Spread.f (k + 1) a0 a1) := fun a0 a1 k => LeO.ite (LeO.refl _) (LeO.ite (LeO.refl _) (flags_Spread.mono_l k _ _ _ _ _))
set_option maxHeartbeats 8000000 in
set_option maxRecDepth 100000 in
theorem flags_Spread.calls (k : Nat) (A0 : Option Addr) (c0 : Nat) (l0 : List Int) (a1 : Int) (r1 : List Bool) (r2 : Bool) (w : World) (hr0 : Kd.C (Kd.int .i64) w A0 l0.length l0) (hc0 : l0.length ≤ c0) (h : flags_Spread.f k l0 a1 = some (r1, r2)) :
    Calls Try.prog 52 #[.slice A0 l0.length c0, .int .i64 a1] w fun e w' => ∃ v0_ : Value, e = .returned (.tuple #[v0_, .bool r2]) ∧ Kd.R Kd.bool 4 w' w.heap.size (fun _ => True) v0_ r1 ∧ Below w.heap.size w w' := by
  have HR0 := Aside0.mk hr0
  have HC0 := Aside0.mk hc0
  have HB0 := Aside0.mk (Below.refl w.heap.size w)
  have H := h
  clear hr0 hc0 h
  unfold flags_Spread.f at H
  have HH := Aside0.mk H
  clear H
  go_enter Try.func52, Try.ntmps52
  go_upto_region 1 with (fail)
  go_cut [22] (fun v22 wc => ∃ x : Bool, v22 = .bool x ∧ Aside0 ((x = true ∧ r1 = [] ∧ r2 = false) ∨ (x = false ∧ flags_Spread.l0 k l0 a1 true 0 [] = some (r1, r2))) ∧ Aside0 (Below w.heap.size w wc))
  case first =>
    have H := HH.out
    clear HH
    by_cases c1 : a1 < 0
    · rw [if_pos c1] at H
      have c1b : decide (a1 < 0) = true := decide_eq_true c1
      clear c1
      simp only [Option.some.injEq, Prod.mk.injEq] at H
      obtain ⟨rfl, rfl⟩ := H
      go_wp2
      go_meet
      case rel => exact ⟨true, rfl, ⟨.inl (by simp)⟩, HB0⟩
    · rw [if_neg c1] at H
      have c1b : decide (a1 < 0) = false := decide_eq_false c1
      clear c1
      by_cases c2 : l0.length = 1
      · have c2b : (l0.length == 1) = true := by simp [c2]
        have c2c : ((l0.length : Int) == 1) = true := by simp [c2]
        have p0 : (0 : Int) < (l0.length : Int) := by omega
        obtain ⟨ad, e0, hx⟩ := Kd.at_int HR0.out 0 (by omega) p0
        have hx' : w.cell? ad = some (.int .i64 (rd l0 0)) := by simpa [Addr.add] using hx
        subst e0
        have p0b := eq_true (show 0 < l0.length by omega)
        clear hx p0
        by_cases c3 : rd l0 0 = 0
        · rw [if_pos ⟨c2, c3⟩] at H
          simp only [Option.some.injEq, Prod.mk.injEq] at H
          obtain ⟨rfl, rfl⟩ := H
          have c3b : (rd l0 0 == 0) = true := beq_iff_eq.mpr c3
          clear c2 c3
          go_wp2
          go_meet
          case rel => exact ⟨true, rfl, ⟨.inl (by simp)⟩, HB0⟩
        · rw [if_neg (fun h => c3 h.2)] at H
          have c3b : (rd l0 0 == 0) = false := beq_eq_false_iff_ne.mpr c3
          clear c2 c3
          have H' := Aside0.mk H
          clear H
          go_wp2
          go_meet
          case rel => exact ⟨false, rfl, ⟨.inr ⟨rfl, H'.out⟩⟩, HB0⟩
      · rw [if_neg (fun h => c2 h.1)] at H
        have c2b : (l0.length == 1) = false := beq_eq_false_iff_ne.mpr c2
        have c2c : ((l0.length : Int) == 1) = false := beq_eq_false_iff_ne.mpr (by omega)
        clear c2
        have H' := Aside0.mk H
        clear H
        go_wp2
        go_meet
        case rel => exact ⟨false, rfl, ⟨.inr ⟨rfl, H'.out⟩⟩, HB0⟩
  case rest =>
    clear HH HB0
    obtain ⟨x, rfl, HX, HB⟩ := hcut
    cases x with
    | true =>
      obtain ⟨rfl, rfl⟩ : r1 = [] ∧ r2 = false := by
        rcases HX.out with ⟨_, h1, h2⟩ | ⟨h, _⟩
        · exact ⟨h1, h2⟩
        · cases h
      go_wp2
      go_ret2
      exact ⟨_, rfl, Kd.R_nil _ _ _ _ _, HB.out⟩
    | false =>
      have H' := Aside0.mk (show flags_Spread.l0 k l0 a1 true 0 [] = some (r1, r2) by
        rcases HX.out with ⟨h, _⟩ | ⟨_, h⟩
        · cases h
        · exact h)
      clear HX
      go_wp2_with (go_at_call 92; (with_reducible refine (flags_turns_calls _).mono ?_); rintro e w2 ⟨rfl, hw2⟩; have HG2 := Aside0.mk (show w2.heap[wc.heap.size]? = some (.cells #[.bool true] 4 (0, 0)) from by rw [hw2]; exact blk_new wc _); have HB2 := Aside0.mk (show Below w.heap.size w w2 from by rw [hw2]; exact below_alloc HB.out _); have HGE := Aside0.mk (below_size HB.out); clear hw2 HB)
      go_loopg [6, 26] k (fun kq v6 v26 w' => ∃ (i : Int) (b : Bool) (out : List Bool), v26 = .int .i64 i ∧ Aside0 (flags_Spread.l0 kq l0 a1 b i out = some (r1, r2)) ∧ Aside0 (kq ≤ k) ∧ Aside0 (Kd.R Kd.bool 4 w' w.heap.size (fun k_ => k_ ≠ wc.heap.size) v6 out) ∧ Aside0 (w'.heap[wc.heap.size]? = some (.cells #[.bool b] 4 (0, 0))) ∧ Aside0 (Below w.heap.size w w'))
      case atStart => exact ⟨0, true, [], by simp, H', ⟨Nat.le_refl _⟩, ⟨Kd.R_nil _ _ _ _ _⟩, HG2, HB2⟩
      case round =>
        clear H' HG2 HB2
        obtain ⟨i, b, out, rfl, HA, HK, HO, HG, HB⟩ := hrel
        cases gk with
        | zero => exact absurd HA.out (by simp [flags_Spread.l0])
        | succ k1 =>
          have H := HA.out
          clear HA
          simp only [flags_Spread.l0] at H
          by_cases c3 : i < (l0.length : Int)
          · rw [if_pos c3] at H
            have c3b : decide (i < (l0.length : Int)) = true := decide_eq_true c3
            by_cases c4 : 0 ≤ i
            · rw [if_pos c4] at H
              have c4b : decide (0 ≤ i) = true := decide_eq_true c4
              obtain ⟨ad, e0, hx0⟩ := Kd.at_int HR0.out i c4 c3
              subst e0
              have hx := (HB.out.cell (World.block_lt_of_cell? w _ hx0)).trans hx0
              obtain ⟨m, hm⟩ : ∃ m, m = rd l0 i := ⟨_, rfl⟩
              rw [← hm] at hx H
              obtain ⟨m1, hm1⟩ : ∃ m1, mn i 1 = m1 := ⟨_, rfl⟩
              have hm1' : (if 1 < i then 1 else i) = m1 := hm1
              rw [hm1] at H
              replace c3 := eq_true c3
              replace c4 := eq_true c4
              obtain ⟨Ao, co, eo⟩ := Kd.R_slice HO.out
              subst eo
              clear hm hm1
              by_cases c5 : m < m1
              · rw [if_pos c5] at H
                have c5b : decide (m < m1) = true := decide_eq_true c5
                clear c5
                simp only [Option.some.injEq, Prod.mk.injEq] at H
                obtain ⟨rfl, rfl⟩ := H
                go_wp2
                go_ret2
                exact ⟨_, rfl, Kd.R_nil _ _ _ _ _, HB.out⟩
              · rw [if_neg c5] at H
                have c5b : decide (m < m1) = false := decide_eq_false c5
                clear c5
                by_cases c6 : m > wrap64 (a1 - (out.length : Int))
                · rw [if_pos c6] at H
                  have c6b : decide (wrap64 (a1 - (out.length : Int)) < m) = true := decide_eq_true c6
                  clear c6
                  simp only [Option.some.injEq, Prod.mk.injEq] at H
                  obtain ⟨rfl, rfl⟩ := H
                  go_wp2
                  go_ret2
                  exact ⟨_, rfl, Kd.R_nil _ _ _ _ _, HB.out⟩
                · rw [if_neg c6] at H
                  have c6b : decide (wrap64 (a1 - (out.length : Int)) < m) = false := decide_eq_false c6
                  clear c6
                  obtain ⟨t, A160, H⟩ := Option.bind_eq_some_iff.mp H
                  have A16 := Aside0.mk A160
                  clear A160
                  by_cases c7 : out.length + t.length < 17592186044416
                  · rw [if_pos c7] at H
                    have LM := Aside0.mk c7
                    clear c7
                    have H' := Aside0.mk H
                    clear H
                    go_wp2_with (first | (go_at_call 104; (with_reducible refine (flags_turn_calls wc.heap.size b _ HG.out).mono ?_); rintro e w3 ⟨rfl, hw3⟩; have n0_ := Aside0.mk (show w3.heap[wc.heap.size]? = some (.cells #[.bool !b] 4 (0, 0)) from by rw [hw3]; exact blk_put HG.out 0 _ rfl); have n1_ := Aside0.mk (show Kd.R Kd.bool 4 w3 w.heap.size (fun k_ => k_ ≠ wc.heap.size) (.slice Ao out.length co) out from by rw [hw3]; exact Kd.R_far (p := ⟨wc.heap.size, 0, none⟩) HO.out (fun _ hk => hk) _); have n2_ := Aside0.mk (show Below w.heap.size w w3 from by rw [hw3]; exact below_set HB.out HGE.out); clear HG HO HB hw3 hx; have HG := n0_; have HO := n1_; have HB := n2_; clear n0_ n1_ n2_) | ((with_reducible refine gate_dst (N := 46) rfl ?_); refine Kd.R_lit Kd.bool _ 4 ?hg (N := 46) ?hd (xs := ([!b] : List Bool)) (inner := [.bool !b]) (ok := fun _ => True) (okp := fun _ => True) ?hr ?hp (fun _ hk => hk) trivial (Below.refl _ _) (Nat.le_refl _) (by simp) ?_; (case hd => rfl); (case hg => rfl); (case hr => first | (go_simp; done) | (go_simp; rfl)); (case hp => exact (Reps.one (show Kd.M Kd.bool _ _ _ (!b) [.bool !b] from rfl) (Reps.none _ _))); intro v273 w21 ho22 hb hg_ hnew_; have n0_ := Aside0.mk (Kd.R_below HO.out hb); have n1_ := Aside0.mk (blk_below HG.out hb); have n2_ := Aside0.mk (below_step HB.out hb); clear HO HG HB hg_ hnew_; have HO := n0_; have HG := n1_; have HB := n2_; clear n0_ n1_ n2_; have HL := Aside0.mk ho22; clear hb ho22; obtain ⟨Ao24, co24, eo24⟩ := Kd.R_slice HL.out; subst eo24) | (go_at_call 93; refine (slices_Repeat_bool_bool.calls Ao24 co24 [!b] m t _ (Kd.R_reads' HL.out).2.2 (Kd.R_reads' HL.out).2.1 A16.out).mono ?_; rintro e w25 ⟨v276, rfl, ho0, hb⟩; have n0_ := Aside0.mk (Kd.R_below HO.out hb); have n1_ := Aside0.mk (blk_below HG.out hb); have n2_ := Aside0.mk (below_step HB.out hb); clear HO HG HB HL; have HO := n0_; have HG := n1_; have HB := n2_; clear n0_ n1_ n2_; have HL := Aside0.mk ho0; clear hb ho0; obtain ⟨Ao27, co27, eo27⟩ := Kd.R_slice HL.out; subst eo27) | ((with_reducible refine gate_builtin (b := .append) (xs := #[.tmp 43, .tmp 48]) rfl ?_); at_builtin; refine Kd.R_append_rows Kd.bool (w0 := w) w.heap.size rfl (.tmp 43) (.tmp 48) 55 4 (.bool false) 1 rfl Try.underlying55 info4 rfl (by decide) (by omega) (.slice Ao out.length co) out t _ _ _ (fun k_ => k_ ≠ wc.heap.size) (fun _ => False) rfl rfl HO.out (Kd.R_reads' HL.out).2.2 (fun _ _ h => h) (fun _ h => h.elim) (fun k_ hk he_ => by have := blk_lt HG.out; omega) HB.out (below_size HB.out) (by have := LM.out; omega) ?_; intro v279 w26 ho hb hg hat; have n0_ := Aside0.mk (blk_grown HG.out hg (fun he_ => HO.out.1 _ he_.symm rfl)); have n1_ := Aside0.mk ho; have n2_ := Aside0.mk hb; clear HO HG HB HL; have HO := n1_; have HG := n0_; have HB := n2_; clear n0_ n1_ n2_ ho hb hg hat))
                    go_roundg k1
                    case measure => have := HK.out; omega
                    case rel => exact ⟨wrap64 (i + 1), !b, out ++ t, (by first | rfl | (simp; done) | (simp [*]; done)), H', ⟨by have := HK.out; omega⟩, HO, HG, HB⟩
                  · rw [if_neg c7] at H
                    exact absurd H (by simp)
            · rw [if_neg c4] at H
              exact absurd H (by simp)
          · rw [if_neg c3] at H
            have c3b : decide (i < (l0.length : Int)) = false := decide_eq_false c3
            clear c3
            simp only [Option.some.injEq, Prod.mk.injEq] at H
            obtain ⟨rfl, rfl⟩ := H
            go_wp2
            go_ret2
            exact ⟨_, rfl, Kd.R_mono HO.out (fun _ _ => trivial), HB.out⟩
def bonsairef05_Same.l0 : Nat → List Int → List Int → Int → Option (Bool)
  | 0, _, _, _ => none
  | k + 1, x0, x1, x5 => if x5 < (x0.length : Int) then (if 0 ≤ x5 then (if x5 < (x1.length : Int) then (if (rd x0 x5) = (rd x1 x5) then (bonsairef05_Same.l0 k x0 x1 (wrap64 (x5 + 1))) else (some false)) else (none)) else (none)) else (some true)
def bonsairef05_Same.f (k : Nat) (l0 : List Int) (l1 : List Int) : Option (Bool) := if (l0.length : Int) = (l1.length : Int) then (bonsairef05_Same.l0 k l0 l1 0) else (some false)
theorem bonsairef05_Same.mono_l : ∀ k, (∀ y0 y1 y2, LeO (bonsairef05_Same.l0 k y0 y1 y2) (bonsairef05_Same.l0 (k + 1) y0 y1 y2))
  | 0 => fun _ _ _ r h => by simp [bonsairef05_Same.l0] at h
  | k + 1 => by
    have ih0 := bonsairef05_Same.mono_l k
    · intro y0 y1 y2
      unfold bonsairef05_Same.l0
      repeat' first
      | (with_reducible exact ih0 _ _ _)
      | (with_reducible exact LeO.refl _)
      | (with_reducible exact LeO.none _)
      | (with_reducible refine LeO.ite ?_ ?_)
      | (with_reducible refine LeO.bind ?_ (fun _ => ?_))
      | exact ih0 _ _ _
      | exact LeO.none _
      | refine LeO.ite ?_ ?_
      | refine LeO.bind ?_ (fun _ => ?_)
theorem bonsairef05_Same.mono : ∀ a0 a1 k, LeO (bonsairef05_Same.f k a0 a1) (bonsairef05_Same.f (k + 1) a0 a1) := by
  intro a0 a1 k
  have ih0 := bonsairef05_Same.mono_l k
  unfold bonsairef05_Same.f
  repeat' first
      | (with_reducible exact ih0 _ _ _)
      | (with_reducible exact LeO.refl _)
      | (with_reducible exact LeO.none _)
      | (with_reducible refine LeO.ite ?_ ?_)
      | (with_reducible refine LeO.bind ?_ (fun _ => ?_))
      | exact ih0 _ _ _
      | exact LeO.none _
      | refine LeO.ite ?_ ?_
      | refine LeO.bind ?_ (fun _ => ?_)
set_option maxHeartbeats 8000000 in
set_option maxRecDepth 100000 in
theorem bonsairef05_Same.calls (k : Nat) (A0 : Option Addr) (c0 : Nat) (l0 : List Int) (A1 : Option Addr) (c1 : Nat) (l1 : List Int) (r : Bool) (w : World) (hr0 : Kd.C (Kd.int .i64) w A0 l0.length l0) (hc0 : l0.length ≤ c0) (hr1 : Kd.C (Kd.int .i64) w A1 l1.length l1) (hc1 : l1.length ≤ c1) (h : bonsairef05_Same.f k l0 l1 = some r) :
    Calls Try.prog 54 #[.slice A0 l0.length c0, .slice A1 l1.length c1] w fun e w' => e = .returned (.bool r) ∧ Drawn0 w w' := by
  have HR0 := Aside0.mk hr0
  have HC0 := Aside0.mk hc0
  clear hr0 hc0
  have HR1 := Aside0.mk hr1
  have HC1 := Aside0.mk hc1
  clear hr1 hc1
  have H : (if (l0.length : Int) = (l1.length : Int) then (bonsairef05_Same.l0 k l0 l1 0) else (some false)) = some r := h
  clear h
  by_cases c3 : (l0.length : Int) = (l1.length : Int)
  · rw [if_pos c3] at H
    have c3b0 : ((l0.length : Int) == (l1.length : Int)) = true := beq_iff_eq.mpr c3
    have c3b1 : ((l0.length : Int) != (l1.length : Int)) = false := bne_eq_false_iff_eq.mpr c3
    have c3b2 : (l0.length == l1.length) = true := by first | simpa using c3 | (simp at c3 ⊢; omega)
    clear c3
    have H' := Aside0.mk H
    clear H
    go_enter Try.func54, Try.ntmps54
    go_wp2
    repeat (go_quiet (fail); try go_wp2)
    go_loopg [5] k (fun kq v5 w' => ∃ (x5_1 : Int), v5 = .int .i64 x5_1 ∧ Aside0 (bonsairef05_Same.l0 kq l0 l1 x5_1 = some r) ∧ Aside0 (kq ≤ k) ∧ Drawn0 w w')
    case atStart => exact ⟨(0), (by first | rfl | (simp; done) | (simp [*]; done)), H', ⟨Nat.le_refl _⟩, by repeat (first | exact Drawn0.refl _ | apply Drawn0.step)⟩
    case round =>
      clear H'
      try clear c1
      try clear p2
      try clear c3
      try clear c3b0
      try clear c3b1
      try clear c3b2
      obtain ⟨x5_1, rfl, HA, HK1, ⟨m1, rfl⟩⟩ := hrel
      cases gk with
      | zero => exact absurd HA.out (by simp [bonsairef05_Same.l0])
      | succ k1 =>
        have H := HA.out
        clear HA
        simp only [bonsairef05_Same.l0] at H
        by_cases c4 : x5_1 < (l0.length : Int)
        · rw [if_pos c4] at H
          have c4b0 : decide (x5_1 < (l0.length : Int)) = true := decide_eq_true c4
          clear c4
          by_cases c5 : 0 ≤ x5_1
          · rw [if_pos c5] at H
            have c5b0 : decide (0 ≤ x5_1) = true := decide_eq_true c5
            clear c5
            by_cases c6 : x5_1 < (l1.length : Int)
            · rw [if_pos c6] at H
              have c6b0 : decide (x5_1 < (l1.length : Int)) = true := decide_eq_true c6
              clear c6
              by_cases c7 : (rd l0 x5_1) = (rd l1 x5_1)
              · rw [if_pos c7] at H
                have c7b0 : ((rd l0 x5_1) == (rd l1 x5_1)) = true := beq_iff_eq.mpr c7
                have c7b1 : ((rd l0 x5_1) != (rd l1 x5_1)) = false := bne_eq_false_iff_eq.mpr c7
                clear c7
                have H' := Aside0.mk H
                clear H
                have p554 : 0 ≤ (x5_1 : Int) := of_decide_eq_true (by first | (with_reducible assumption) | assumption)
                have q554 : x5_1 < (l0.length : Int) := of_decide_eq_true (by first | (with_reducible assumption) | assumption)
                obtain ⟨ad554, e554, hx554_0⟩ := Kd.at_int HR0.out x5_1 p554 q554
                cases e554
                replace p554 := eq_true p554
                replace q554 := eq_true q554
                have p555 : 0 ≤ (x5_1 : Int) := of_decide_eq_true (by first | (with_reducible assumption) | assumption)
                have q555 : x5_1 < (l1.length : Int) := of_decide_eq_true (by first | (with_reducible assumption) | assumption)
                obtain ⟨ad555, e555, hx555_0⟩ := Kd.at_int HR1.out x5_1 p555 q555
                cases e555
                replace p555 := eq_true p555
                replace q555 := eq_true q555
                go_wp2
                repeat (go_quiet (fail); try go_wp2)
                go_roundg k1
                case measure => have := HK1.out; omega
                case rel => exact ⟨(wrap64 (x5_1 + 1)), (by first | rfl | (simp; done) | (simp [*]; done)), H', ⟨by have := HK1.out; omega⟩, by repeat (first | exact Drawn0.refl _ | apply Drawn0.step)⟩
              · rw [if_neg c7] at H
                have c7b0 : ((rd l0 x5_1) == (rd l1 x5_1)) = false := beq_eq_false_iff_ne.mpr c7
                have c7b1 : ((rd l0 x5_1) != (rd l1 x5_1)) = true := bne_iff_ne.mpr c7
                obtain rfl := Option.some.inj H
                have p554 : 0 ≤ (x5_1 : Int) := of_decide_eq_true (by first | (with_reducible assumption) | assumption)
                have q554 : x5_1 < (l0.length : Int) := of_decide_eq_true (by first | (with_reducible assumption) | assumption)
                obtain ⟨ad554, e554, hx554_0⟩ := Kd.at_int HR0.out x5_1 p554 q554
                cases e554
                replace p554 := eq_true p554
                replace q554 := eq_true q554
                have p555 : 0 ≤ (x5_1 : Int) := of_decide_eq_true (by first | (with_reducible assumption) | assumption)
                have q555 : x5_1 < (l1.length : Int) := of_decide_eq_true (by first | (with_reducible assumption) | assumption)
                obtain ⟨ad555, e555, hx555_0⟩ := Kd.at_int HR1.out x5_1 p555 q555
                cases e555
                replace p555 := eq_true p555
                replace q555 := eq_true q555
                go_wp2
                repeat (go_quiet (fail); try go_wp2)
                go_ret
                exact ⟨by first | rfl | (simp; done) | (simp [*]; done), by repeat (first | exact Drawn0.refl _ | apply Drawn0.step)⟩
            · rw [if_neg c6] at H
              exact absurd H (by simp)
          · rw [if_neg c5] at H
            exact absurd H (by simp)
        · rw [if_neg c4] at H
          have c4b0 : decide (x5_1 < (l0.length : Int)) = false := decide_eq_false c4
          clear c4
          obtain rfl := Option.some.inj H
          go_wp2
          repeat (go_quiet (fail); try go_wp2)
          go_ret
          exact ⟨by first | rfl | (simp; done) | (simp [*]; done), by repeat (first | exact Drawn0.refl _ | apply Drawn0.step)⟩
  · rw [if_neg c3] at H
    have c3b0 : ((l0.length : Int) == (l1.length : Int)) = false := beq_eq_false_iff_ne.mpr c3
    have c3b1 : ((l0.length : Int) != (l1.length : Int)) = true := bne_iff_ne.mpr c3
    have c3b2 : (l0.length == l1.length) = false := by first | simpa using c3 | (simp at c3 ⊢; omega)
    obtain rfl := Option.some.inj H
    go_enter Try.func54, Try.ntmps54
    go_wp2
    repeat (go_quiet (fail); try go_wp2)
    go_ret
    exact ⟨by first | rfl | (simp; done) | (simp [*]; done), by repeat (first | exact Drawn0.refl _ | apply Drawn0.step)⟩
def slices_Index_bool_bool.l0 : Nat → List Bool → Bool → Int → Int → Option (Int)
  | 0, _, _, _, _ => none
  | k + 1, x0, x1, x7, x8 => if x8 < x7 then (if 0 ≤ x8 then (if x8 < (x0.length : Int) then (if (x1 == (rdOf false x0 x8)) = true then (some x8) else (slices_Index_bool_bool.l0 k x0 x1 x7 (wrap64 (x8 + 1)))) else (none)) else (none)) else (some (-1))
def slices_Index_bool_bool.f (k : Nat) (l0 : List Bool) (a1 : Bool) : Option (Int) := slices_Index_bool_bool.l0 k l0 a1 (l0.length : Int) 0
theorem slices_Index_bool_bool.mono_l : ∀ k, (∀ y0 y1 y2 y3, LeO (slices_Index_bool_bool.l0 k y0 y1 y2 y3) (slices_Index_bool_bool.l0 (k + 1) y0 y1 y2 y3))
  | 0 => fun _ _ _ _ r h => by simp [slices_Index_bool_bool.l0] at h
  | k + 1 => by
    have ih0 := slices_Index_bool_bool.mono_l k
    · intro y0 y1 y2 y3
      unfold slices_Index_bool_bool.l0
      repeat' first
      | (with_reducible exact ih0 _ _ _ _)
      | (with_reducible exact LeO.refl _)
      | (with_reducible exact LeO.none _)
      | (with_reducible refine LeO.ite ?_ ?_)
      | (with_reducible refine LeO.bind ?_ (fun _ => ?_))
      | exact ih0 _ _ _ _
      | exact LeO.none _
      | refine LeO.ite ?_ ?_
      | refine LeO.bind ?_ (fun _ => ?_)
theorem slices_Index_bool_bool.mono : ∀ a0 a1 k, LeO (slices_Index_bool_bool.f k a0 a1) (slices_Index_bool_bool.f (k + 1) a0 a1) := by
  intro a0 a1 k
  have ih0 := slices_Index_bool_bool.mono_l k
  unfold slices_Index_bool_bool.f
  repeat' first
      | (with_reducible exact ih0 _ _ _ _)
      | (with_reducible exact LeO.refl _)
      | (with_reducible exact LeO.none _)
      | (with_reducible refine LeO.ite ?_ ?_)
      | (with_reducible refine LeO.bind ?_ (fun _ => ?_))
      | exact ih0 _ _ _ _
      | exact LeO.none _
      | refine LeO.ite ?_ ?_
      | refine LeO.bind ?_ (fun _ => ?_)
set_option maxHeartbeats 8000000 in
set_option maxRecDepth 100000 in
theorem slices_Index_bool_bool.calls (k : Nat) (A0 : Option Addr) (c0 : Nat) (l0 : List Bool) (a1 : Bool) (r : Int) (w : World) (hr0 : Kd.C Kd.bool w A0 l0.length l0) (hc0 : l0.length ≤ c0) (h : slices_Index_bool_bool.f k l0 a1 = some r) :
    Calls Try.prog 94 #[.slice A0 l0.length c0, .bool a1] w fun e w' => e = .returned (.int .i64 r) ∧ Drawn0 w w' := by
  have HR0 := Aside0.mk hr0
  have HC0 := Aside0.mk hc0
  clear hr0 hc0
  have H : (slices_Index_bool_bool.l0 k l0 a1 (l0.length : Int) 0) = some r := h
  clear h
  have H' := Aside0.mk H
  clear H
  go_enter Try.func94, Try.ntmps94
  go_wp2
  go_loopg [8] k (fun kq v8 w' => ∃ (x8_1 : Int), v8 = .int .i64 x8_1 ∧ Aside0 (slices_Index_bool_bool.l0 kq l0 a1 (l0.length : Int) x8_1 = some r) ∧ Aside0 (kq ≤ k) ∧ Drawn0 w w')
  case atStart => exact ⟨(0), (by first | rfl | (simp; done) | (simp [*]; done)), H', ⟨Nat.le_refl _⟩, by repeat (first | exact Drawn0.refl _ | apply Drawn0.step)⟩
  case round =>
    clear H'
    try clear p2
    obtain ⟨x8_1, rfl, HA, HK1, ⟨m1, rfl⟩⟩ := hrel
    cases gk with
    | zero => exact absurd HA.out (by simp [slices_Index_bool_bool.l0])
    | succ k1 =>
      have H := HA.out
      clear HA
      simp only [slices_Index_bool_bool.l0] at H
      by_cases c3 : x8_1 < (l0.length : Int)
      · rw [if_pos c3] at H
        have c3b0 : decide (x8_1 < (l0.length : Int)) = true := decide_eq_true c3
        clear c3
        by_cases c4 : 0 ≤ x8_1
        · rw [if_pos c4] at H
          have c4b0 : decide (0 ≤ x8_1) = true := decide_eq_true c4
          clear c4
          by_cases c5 : x8_1 < (l0.length : Int)
          · rw [if_pos c5] at H
            have c5b0 : decide (x8_1 < (l0.length : Int)) = true := decide_eq_true c5
            clear c5
            by_cases c6 : (a1 == (rdOf false l0 x8_1)) = true
            · rw [if_pos c6] at H
              have c6b0 : (a1 == (rdOf false l0 x8_1)) = true := c6
              (try (have c6b1 : decide (a1 = (rdOf false l0 x8_1)) = true := by simpa using c6))
              (try (have c6b2 : (a1 == (rdOf false l0 x8_1)) = true := by simpa using c6))
              clear c6
              obtain rfl := Option.some.inj H
              have p556 : 0 ≤ (x8_1 : Int) := of_decide_eq_true (by first | (with_reducible assumption) | assumption)
              have q556 : x8_1 < (l0.length : Int) := of_decide_eq_true (by first | (with_reducible assumption) | assumption)
              obtain ⟨ad556, e556, hx556_0⟩ := Kd.at_bool HR0.out x8_1 p556 q556
              cases e556
              replace p556 := eq_true p556
              replace q556 := eq_true q556
              go_wp2
              go_ret
              exact ⟨by first | rfl | (simp; done) | (simp [*]; done), by repeat (first | exact Drawn0.refl _ | apply Drawn0.step)⟩
            · rw [if_neg c6] at H
              have c6b0 : (a1 == (rdOf false l0 x8_1)) = false := by simpa using c6
              (try (have c6b1 : decide (a1 = (rdOf false l0 x8_1)) = false := by simpa using c6))
              (try (have c6b2 : (a1 == (rdOf false l0 x8_1)) = false := by simpa using c6))
              (try (have c6b3 : ¬ (a1 = (rdOf false l0 x8_1)) := by simpa using c6))
              clear c6
              have H' := Aside0.mk H
              clear H
              have p556 : 0 ≤ (x8_1 : Int) := of_decide_eq_true (by first | (with_reducible assumption) | assumption)
              have q556 : x8_1 < (l0.length : Int) := of_decide_eq_true (by first | (with_reducible assumption) | assumption)
              obtain ⟨ad556, e556, hx556_0⟩ := Kd.at_bool HR0.out x8_1 p556 q556
              cases e556
              replace p556 := eq_true p556
              replace q556 := eq_true q556
              go_wp2
              go_roundg k1
              case measure => have := HK1.out; omega
              case rel => exact ⟨(wrap64 (x8_1 + 1)), (by first | rfl | (simp; done) | (simp [*]; done)), H', ⟨by have := HK1.out; omega⟩, by repeat (first | exact Drawn0.refl _ | apply Drawn0.step)⟩
          · rw [if_neg c5] at H
            exact absurd H (by simp)
        · rw [if_neg c4] at H
          exact absurd H (by simp)
      · rw [if_neg c3] at H
        have c3b0 : decide (x8_1 < (l0.length : Int)) = false := decide_eq_false c3
        clear c3
        obtain rfl := Option.some.inj H
        go_wp2
        go_ret
        exact ⟨by first | rfl | (simp; done) | (simp [*]; done), by repeat (first | exact Drawn0.refl _ | apply Drawn0.step)⟩
def flags_Lengths.l0 : Nat → Bool → List Bool → List Int → Option (List Int)
  | 0, _, _, _ => none
  | k + 1, b, l, out => if 0 < l.length then ((slices_Index_bool_bool.f k l b).bind fun n => if n < 0 then (if out.length < 17592186044415 then flags_Lengths.l0 k (!b) (l.drop l.length) (out ++ [(l.length : Int)]) else none) else if n ≤ l.length then (if out.length < 17592186044415 then flags_Lengths.l0 k (!b) (l.drop n.toNat) (out ++ [n]) else none) else none) else some out
def flags_Lengths.f (k : Nat) (l0 : List Bool) : Option (List Int) := flags_Lengths.l0 k true l0 []
theorem flags_Lengths.mono_l : ∀ k b l out, LeO (flags_Lengths.l0 k b l out) (flags_Lengths.l0 (k + 1) b l out)
  | 0, _, _, _ => fun r h => by simp [flags_Lengths.l0] at h
  | k + 1, b, l, out => by
    have ih := flags_Lengths.mono_l k
    unfold flags_Lengths.l0
    refine LeO.ite (LeO.bind (slices_Index_bool_bool.mono _ _ _) fun n => LeO.ite (LeO.ite (ih _ _ _) (LeO.refl _)) (LeO.ite (LeO.ite (ih _ _ _) (LeO.refl _)) (LeO.refl _))) (LeO.refl _)
theorem flags_Lengths.mono : ∀ a0 k, LeO (flags_Lengths.f k a0) (flags_Lengths.f (k + 1) a0) := fun a0 k => flags_Lengths.mono_l k _ _ _
set_option maxHeartbeats 8000000 in
set_option maxRecDepth 100000 in
theorem flags_Lengths.calls (k : Nat) (A0 : Option Addr) (c0 : Nat) (l0 : List Bool) (r : List Int) (w : World) (hr0 : Kd.C Kd.bool w A0 l0.length l0) (hc0 : l0.length ≤ c0) (h : flags_Lengths.f k l0 = some r) :
    Calls Try.prog 55 #[.slice A0 l0.length c0] w fun e w' => ∃ v0_ : Value, e = .returned (v0_) ∧ Kd.R (Kd.int .i64) 3 w' w.heap.size (fun _ => True) v0_ r ∧ Below w.heap.size w w' := by
  have H' := Aside0.mk (show flags_Lengths.l0 k true l0 [] = some r from h)
  have HR0 := Aside0.mk hr0
  have HC0 := Aside0.mk hc0
  clear h hr0 hc0
  go_enter Try.func55, Try.ntmps55
  go_wp2_with (go_at_call 92; (with_reducible refine (flags_turns_calls _).mono ?_); rintro e w2 ⟨rfl, hw2⟩; have HG2 := Aside0.mk (show w2.heap[w.heap.size]? = some (.cells #[.bool true] 4 (0, 0)) from by rw [hw2]; exact blk_new w _); have HB2 := Aside0.mk (show Below w.heap.size w w2 from by rw [hw2]; exact below_alloc (Below.refl _ _) _); clear hw2)
  go_loopg [0, 3] k (fun kq v0 v3 w' => ∃ (A : Option Addr) (c : Nat) (b : Bool) (l : List Bool) (out : List Int), v0 = .slice A l.length c ∧ Aside0 (l.length ≤ c) ∧ Aside0 (Kd.C Kd.bool w A l.length l) ∧ Aside0 (flags_Lengths.l0 kq b l out = some r) ∧ Aside0 (kq ≤ k) ∧ Aside0 (Kd.R (Kd.int .i64) 3 w' w.heap.size (fun _ => True) v3 out) ∧ Aside0 (w'.heap[w.heap.size]? = some (.cells #[.bool b] 4 (0, 0))) ∧ Aside0 (Below w.heap.size w w'))
  case atStart => exact ⟨A0, c0, true, l0, [], by simp, HC0, HR0, H', ⟨Nat.le_refl _⟩, ⟨Kd.R_nil _ _ _ _ _⟩, HG2, HB2⟩
  case round =>
    clear H' HR0 HC0 HG2 HB2
    obtain ⟨A, c, b, l, out, rfl, HC, HR, HA, HK, HO, HG, HB⟩ := hrel
    cases gk with
    | zero => exact absurd HA.out (by simp [flags_Lengths.l0])
    | succ k1 =>
      have H := HA.out
      clear HA
      simp only [flags_Lengths.l0] at H
      by_cases c1 : 0 < l.length
      · rw [if_pos c1] at H
        have c1b : decide (0 < l.length) = true := decide_eq_true c1
        clear c1
        obtain ⟨n, A70, H⟩ := Option.bind_eq_some_iff.mp H
        have A7 := Aside0.mk A70
        clear A70
        obtain ⟨Ao, co, eo⟩ := Kd.R_slice HO.out
        subst eo
        by_cases c2 : n < 0
        · rw [if_pos c2] at H
          have c2b : decide (n < 0) = true := decide_eq_true c2
          clear c2
          by_cases c3 : out.length < 17592186044415
          · rw [if_pos c3] at H
            have H' := Aside0.mk H
            have LM := Aside0.mk c3
            clear H c3
            go_wp2_with (first | (go_at_call 104; (with_reducible refine (flags_turn_calls w.heap.size b _ HG.out).mono ?_); rintro e w3 ⟨rfl, hw3⟩; have n0_ := Aside0.mk (show w3.heap[w.heap.size]? = some (.cells #[.bool !b] 4 (0, 0)) from by rw [hw3]; exact blk_put HG.out 0 _ rfl); have n1_ := Aside0.mk (show Kd.R (Kd.int .i64) 3 w3 w.heap.size (fun _ => True) (.slice Ao out.length co) out from by rw [hw3]; exact Kd.R_set HO.out HG.out (by decide) 0 _); have n2_ := Aside0.mk (show Below w.heap.size w w3 from by rw [hw3]; exact below_set HB.out (Nat.le_refl _)); clear HG HO HB hw3; have HG := n0_; have HO := n1_; have HB := n2_; clear n0_ n1_ n2_) | (go_at_call 94; (with_reducible refine (slices_Index_bool_bool.calls k1 A c l b n _ (Kd.C_below HR.out HB.out) HC.out A7.out).mono ?_); rintro e w4 ⟨rfl, nd, rfl⟩; have n0_ := Aside0.mk (blk_drewN HG.out nd); have n1_ := Aside0.mk (Kd.R_drewN HO.out nd); have n2_ := Aside0.mk (pw_below_drewN HB.out nd); clear HG HO HB; have HG := n0_; have HO := n1_; have HB := n2_; clear n0_ n1_ n2_))
            have hm0 : (0 : Int) ≤ (l.length : Int) := by omega
            have hm1 : (l.length : Int) ≤ l.length := Int.le_refl _
            obtain ⟨i0, hi0, _, hsz0, _⟩ := info_parts info4
            have hcut := cut_from (P := Try.prog) 55 4 .i64 Try.underlying55 hi0 1 hsz0 A l.length c (l.length : Int) hm0 hm1
            have hCd := Kd.C_drop (m := (l.length : Int).toNat) (c := c) HR.out (by omega) HC.out
            obtain ⟨A', hA'⟩ : ∃ A1, A1 = (if c = (l.length : Int).toNat then A else A.map (·.add ((l.length : Int).toNat * 1))) := ⟨_, rfl⟩
            obtain ⟨c', hc'⟩ : ∃ c1, c1 = c - (l.length : Int).toNat := ⟨_, rfl⟩
            have hdl : (l.drop (l.length : Int).toNat).length = l.length - (l.length : Int).toNat := List.length_drop
            have HCd := Aside0.mk (show Kd.C Kd.bool w A' (l.drop (l.length : Int).toNat).length (l.drop (l.length : Int).toNat) from by rw [hA']; exact hCd)
            have HCc := Aside0.mk (show (l.drop (l.length : Int).toNat).length ≤ c' from by rw [hdl, hc']; exact Nat.sub_le_sub_right HC.out _)
            rw [← hdl, ← hA', ← hc'] at hcut
            clear hCd hA' hc' hi0 hsz0 hm0 hm1 hdl
            try go_wp2
            go_region_law (refine Kd.R_append_step (Kd.int .i64) (w0 := w) w.heap.size (by simp [Region.wanted]) (.tmp 21) (.tmp 23) 56 3 (.int .i64 0) 8 rfl Try.underlying56 info3 rfl (by decide) (by decide) (.slice Ao out.length co) out (l.length : Int) [.int .i64 (l.length : Int)] (fun _ => True) (fun _ => False) (by simp [Act.eval, Act.put]) (by simp [Act.eval, Act.put]) rfl (fun _ hk => hk.elim) (fun _ _ => trivial) (Kd.R_drew HO.out) (below_drew1 HB.out) (below_size (below_drew1 HB.out)) (by have := LM.out; omega) ?_; intro v1 w1 ho hb hg hat)
            have n0_ := Aside0.mk (blk_grown (blk_drew HG.out) hg (Kd.R_ne (Kd.R_drew HO.out) (blk_drew HG.out) (by decide)))
            have n1_ := Aside0.mk ho
            have n2_ := Aside0.mk hb
            clear HG HO HB ho hb hg hat
            try go_wp2
            go_roundg k1
            case measure => have := HK.out; omega
            case rel => exact ⟨A', c', !b, l.drop l.length, out ++ [(l.length : Int)], (by first | rfl | (simp; done) | (simp [*]; done)), HCc, HCd, H', ⟨by have := HK.out; omega⟩, n1_, n0_, n2_⟩
          · rw [if_neg c3] at H
            exact absurd H (by simp)
        · rw [if_neg c2] at H
          have c2b : decide (n < 0) = false := decide_eq_false c2
          clear c2
          by_cases c4 : n ≤ l.length
          · rw [if_pos c4] at H
            by_cases c3 : out.length < 17592186044415
            · rw [if_pos c3] at H
              have H' := Aside0.mk H
              have LM := Aside0.mk c3
              clear H c3
              go_wp2_with (first | (go_at_call 104; (with_reducible refine (flags_turn_calls w.heap.size b _ HG.out).mono ?_); rintro e w3 ⟨rfl, hw3⟩; have n0_ := Aside0.mk (show w3.heap[w.heap.size]? = some (.cells #[.bool !b] 4 (0, 0)) from by rw [hw3]; exact blk_put HG.out 0 _ rfl); have n1_ := Aside0.mk (show Kd.R (Kd.int .i64) 3 w3 w.heap.size (fun _ => True) (.slice Ao out.length co) out from by rw [hw3]; exact Kd.R_set HO.out HG.out (by decide) 0 _); have n2_ := Aside0.mk (show Below w.heap.size w w3 from by rw [hw3]; exact below_set HB.out (Nat.le_refl _)); clear HG HO HB hw3; have HG := n0_; have HO := n1_; have HB := n2_; clear n0_ n1_ n2_) | (go_at_call 94; (with_reducible refine (slices_Index_bool_bool.calls k1 A c l b n _ (Kd.C_below HR.out HB.out) HC.out A7.out).mono ?_); rintro e w4 ⟨rfl, nd, rfl⟩; have n0_ := Aside0.mk (blk_drewN HG.out nd); have n1_ := Aside0.mk (Kd.R_drewN HO.out nd); have n2_ := Aside0.mk (pw_below_drewN HB.out nd); clear HG HO HB; have HG := n0_; have HO := n1_; have HB := n2_; clear n0_ n1_ n2_))
              have hm0 : (0 : Int) ≤ n := by have := of_decide_eq_false c2b; omega
              have hm1 : n ≤ l.length := c4
              clear c4
              obtain ⟨i0, hi0, _, hsz0, _⟩ := info_parts info4
              have hcut := cut_from (P := Try.prog) 55 4 .i64 Try.underlying55 hi0 1 hsz0 A l.length c n hm0 hm1
              have hCd := Kd.C_drop (m := n.toNat) (c := c) HR.out (by omega) HC.out
              obtain ⟨A', hA'⟩ : ∃ A1, A1 = (if c = n.toNat then A else A.map (·.add (n.toNat * 1))) := ⟨_, rfl⟩
              obtain ⟨c', hc'⟩ : ∃ c1, c1 = c - n.toNat := ⟨_, rfl⟩
              have hdl : (l.drop n.toNat).length = l.length - n.toNat := List.length_drop
              have HCd := Aside0.mk (show Kd.C Kd.bool w A' (l.drop n.toNat).length (l.drop n.toNat) from by rw [hA']; exact hCd)
              have HCc := Aside0.mk (show (l.drop n.toNat).length ≤ c' from by rw [hdl, hc']; exact Nat.sub_le_sub_right HC.out _)
              rw [← hdl, ← hA', ← hc'] at hcut
              clear hCd hA' hc' hi0 hsz0 hm0 hm1 hdl
              try go_wp2
              go_region_law (refine Kd.R_append_step (Kd.int .i64) (w0 := w) w.heap.size (by simp [Region.wanted]) (.tmp 21) (.tmp 23) 56 3 (.int .i64 0) 8 rfl Try.underlying56 info3 rfl (by decide) (by decide) (.slice Ao out.length co) out n [.int .i64 n] (fun _ => True) (fun _ => False) (by simp [Act.eval, Act.put]) (by simp [Act.eval, Act.put]) rfl (fun _ hk => hk.elim) (fun _ _ => trivial) (Kd.R_drew HO.out) (below_drew1 HB.out) (below_size (below_drew1 HB.out)) (by have := LM.out; omega) ?_; intro v1 w1 ho hb hg hat)
              have n0_ := Aside0.mk (blk_grown (blk_drew HG.out) hg (Kd.R_ne (Kd.R_drew HO.out) (blk_drew HG.out) (by decide)))
              have n1_ := Aside0.mk ho
              have n2_ := Aside0.mk hb
              clear HG HO HB ho hb hg hat
              try go_wp2
              go_roundg k1
              case measure => have := HK.out; omega
              case rel => exact ⟨A', c', !b, l.drop n.toNat, out ++ [n], (by first | rfl | (simp; done) | (simp [*]; done)), HCc, HCd, H', ⟨by have := HK.out; omega⟩, n1_, n0_, n2_⟩
            · rw [if_neg c3] at H
              exact absurd H (by simp)
          · rw [if_neg c4] at H
            exact absurd H (by simp)
      · rw [if_neg c1] at H
        have c1b : decide (0 < l.length) = false := decide_eq_false c1
        obtain rfl := Option.some.inj H
        clear H c1
        go_wp2
        go_ret
        exact ⟨_, rfl, HO.out, HB.out⟩
def flags_Encode.g (k : Nat) : List Int → ByteArray → Option ByteArray
  | [], acc => some acc
  | x :: xs, acc => (pack_Put.f k (IntKind.u64.wrap x)).bind fun a => if acc.size + a.size ≤ 140737488355328 then flags_Encode.g k xs (acc ++ a) else none
def flags_Encode.f (k : Nat) (l0 : List Bool) : Option ByteArray := (flags_Lengths.f k l0).bind fun t => if t.length < 4611686018427387904 then flags_Encode.g k t ByteArray.empty else none
theorem flags_Encode.mono : ∀ a0 k, LeO (flags_Encode.f k a0) (flags_Encode.f (k + 1) a0) := by
  have hg : ∀ (k : Nat) (l : List Int) (acc : ByteArray), LeO (flags_Encode.g k l acc) (flags_Encode.g (k + 1) l acc) := by
    intro k l
    induction l with
    | nil => intro acc; exact LeO.refl _
    | cons x xs ih =>
      intro acc
      unfold flags_Encode.g
      refine LeO.bind (pack_Put.mono _ _) fun a => LeO.ite (ih _) (LeO.refl _)
  intro a0 k
  exact LeO.bind (flags_Lengths.mono _ _) fun t => LeO.ite (hg k t _) (LeO.refl _)
set_option maxHeartbeats 8000000 in
set_option maxRecDepth 100000 in
theorem flags_Encode.calls (k : Nat) (A0 : Option Addr) (c0 : Nat) (l0 : List Bool) (r : ByteArray) (w : World) (hr0 : Kd.C Kd.bool w A0 l0.length l0) (hc0 : l0.length ≤ c0) (h : flags_Encode.f k l0 = some r) :
    Calls Try.prog 57 #[.slice A0 l0.length c0] w fun e w' => e = .returned (.string r) ∧ Below w.heap.size w w' := by
  have H := h
  clear h
  unfold flags_Encode.f at H
  obtain ⟨t, A20, H⟩ := Option.bind_eq_some_iff.mp H
  have A2 := Aside0.mk A20
  by_cases hlen : t.length < 4611686018427387904
  case neg => rw [if_neg hlen] at H; exact absurd H (by simp)
  rw [if_pos hlen] at H
  have LM := Aside0.mk hlen
  clear hlen
  have H' := Aside0.mk H
  have HR0 := Aside0.mk hr0
  have HC0 := Aside0.mk hc0
  clear A20 H hr0 hc0
  have HB := Aside0.mk (Below.refl w.heap.size w)
  go_enter Try.func57, Try.ntmps57
  go_wp2_with (go_at_call 55; (with_reducible refine (flags_Lengths.calls k _ _ l0 t _ ?side1 ?side2 A2.out).mono ?_); (case side1 => (with_reducible refine Kd.C_alloc ?_ _); exact HR0.out); (case side2 => exact HC0.out); rintro e w3 ⟨v0, rfl, ho0, hb⟩; obtain ⟨Ao4, co4, eo4⟩ := Kd.R_slice ho0; subst eo4)
  have hbb : w3.heap[w.heap.size]? = some (.cells #[.pointer none, .slice none 0 0] 102 (0, 0)) := by rw [hb.block _ (by show _ < (w.heap.push _).size; simp)]; show (w.heap.push _)[w.heap.size]? = _; simp
  have hBld : Build.Bld w.heap.size w.heap.size ByteArray.empty w3 := (Build.Bld.fresh w).below hb
  have HO := Aside0.mk (Kd.R_lower ho0 (show w.heap.size ≤ (w.alloc (.cells #[.pointer none, .slice none 0 0] 102)).heap.size from by show _ ≤ (w.heap.push _).size; simp))
  have HB3 := Aside0.mk (below_step (by repeat (first | (with_reducible first | exact HB.out | apply below_alloc | apply pw_below_drewN | apply below_drew1) | exact HB.out)) hb)
  have HBl := Aside0.mk hBld
  clear hb ho0 hBld hbb HB
  go_loopg [9] (t.length + 1) (fun kq v9 w' => ∃ (x9 : Int) (acc : ByteArray), v9 = .int .i64 x9 ∧ Aside0 (0 ≤ x9 ∧ x9 ≤ t.length ∧ (kq : Int) + x9 = t.length + 1) ∧ Aside0 (flags_Encode.g k (t.drop x9.toNat) acc = some r) ∧ Aside0 (Build.Bld w.heap.size w.heap.size acc w') ∧ Aside0 (Kd.R (Kd.int .i64) 3 w' w.heap.size (fun _ => True) (.slice Ao4 t.length co4) t) ∧ Aside0 (Below w.heap.size w w'))
  case atStart => exact ⟨0, ByteArray.empty, by simp, ⟨by omega⟩, H', HBl, HO, HB3⟩
  case round =>
    clear HO HB3 HBl H'
    obtain ⟨x9, acc, rfl, HK, HG, HBl, HO, HB⟩ := hrel
    cases gk with
    | zero => have := HK.out; exact absurd this (by omega)
    | succ k1 =>
      by_cases hi : x9 < (t.length : Int)
      · have c5b0 : decide (x9 < (t.length : Int)) = true := decide_eq_true (by omega)
        have hk9 := HK.out
        have hdrop : t.drop x9.toNat = rd t x9 :: t.drop (x9.toNat + 1) := by
          rw [List.drop_eq_getElem_cons (show x9.toNat < t.length by omega)]
          congr 1
          unfold rd
          simp [List.getD_eq_getElem?_getD, show x9.toNat < t.length by omega]
        have hG := HG.out
        clear HG
        rw [hdrop] at hG
        unfold flags_Encode.g at hG
        obtain ⟨a, A30, hG⟩ := Option.bind_eq_some_iff.mp hG
        by_cases hz : acc.size + a.size ≤ 140737488355328
        · rw [if_pos hz] at hG
          have H' := Aside0.mk hG
          have A3 := Aside0.mk A30
          clear hG A30 hdrop
          have p290 : 0 ≤ x9 := by omega
          have q290 : x9 < (t.length : Int) := by omega
          obtain ⟨ad290, e290, hx290_0⟩ := Kd.at_int (Kd.R_reads' HO.out).2.2 x9 p290 q290
          cases e290
          have hi0 := Aside0.mk hi
          clear hi hk9
          replace p290 := eq_true p290
          replace q290 := eq_true q290
          go_wp2_with (go_at_call 78; (with_reducible refine (pack_Put.calls k _ a _ A3.out).mono ?_); rintro e w5 ⟨rfl, hb⟩; have n0_ := Aside0.mk (HBl.out.below hb); have n1_ := Aside0.mk (Kd.R_below HO.out hb); have n2_ := Aside0.mk (below_step HB.out hb); clear HBl HO HB hb hx290_0; have HBl := n0_; have HO := n1_; have HB := n2_; clear n0_ n1_ n2_)
          go_wp2_with (go_at_call 90; (with_reducible refine (Build.write w.heap.size w.heap.size acc a _ HBl.out (by omega) (below_size HB.out)).mono ?_); rintro e w6 ⟨rfl, hbl, hb, hk⟩; have n0_ := Aside0.mk (Build.R_kept HO.out hk HBl.out.block (by decide)); have n2_ := Aside0.mk (HB.out.trans hb); clear HBl HO HB hb hk; have HBl := Aside0.mk hbl; have HO := n0_; have HB := n2_; clear n0_ n2_ hbl)
          go_roundg k1
          case measure => have := HK.out; omega
          case rel => exact ⟨wrap64 (x9 + 1), acc ++ a, (by first | rfl | (simp; done) | (simp [*]; done)), ⟨by have := HK.out; have := hi0.out; have := LM.out; unfold wrap64; omega⟩, ⟨by rw [show (wrap64 (x9 + 1)).toNat = x9.toNat + 1 by have := HK.out; have := LM.out; unfold wrap64; omega]; exact H'.out⟩, HBl, HO, HB⟩
        · rw [if_neg hz] at hG
          exact absurd hG (by simp)
      · have c5b0 : decide (x9 < (t.length : Int)) = false := decide_eq_false hi
        have hk9 := HK.out
        have hG := HG.out
        rw [List.drop_eq_nil_of_le (by omega)] at hG
        unfold flags_Encode.g at hG
        obtain rfl := Option.some.inj hG
        clear hG HG hi hk9
        go_wp2_with (go_at_call 91; (with_reducible refine (Build.string w.heap.size w.heap.size acc _ HBl.out (below_size HB.out)).mono ?_); rintro e w9 ⟨rfl, hb, hk⟩; have n2_ := Aside0.mk (HB.out.trans hb); clear HB; have HB := n2_; clear n2_)
        go_ret
        exact ⟨rfl, HB.out⟩
end Go.Proofs.Ytbgjoiccehiglaa.Print
end
