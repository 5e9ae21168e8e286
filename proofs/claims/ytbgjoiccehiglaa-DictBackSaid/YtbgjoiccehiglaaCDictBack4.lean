/- Part 4 of what DictBack stands on: merged by a program of this session out of its texts. -/
import Derived.Test.YtbgjoiccehiglaaCDictBack3
section
namespace Go.Proofs.Ytbgjoiccehiglaa.Print
open Go.RowKit Go.Proofs.YtbgjoiccehiglaaW.PrintWords Go.Proofs.YtbgjoiccehiglaaW.PrintLast Go.Proofs.YtbgjoiccehiglaaW.PrintMore
attribute [local go_sem] max2_int min2_int max_two min_two max_three min_three max_four min_four
set_option linter.unusedVariables false
set_option linter.unusedSimpArgs false
def dictM (n : Int) : List Int → Int → Option Int
  | [], met => some met
  | k :: ks, met => if k > met then none else if k ≥ n then none else dictM n ks (mx met (k + 1))
def uniq : List ByteArray → List ByteArray → List ByteArray
  | [], w => w
  | s :: l, w => match wordAt s w 0 with
    | some _ => uniq l w
    | none => uniq l (w ++ [s])
structure MapsB (D : DataW Unit) (words : List ByteArray) : Prop where
  isMap : Maps.IsMap D
  size_ : Maps.size D = words.length
  has_ : ∀ s, Maps.has D (sKey s) = (wordAt s words 0).isSome
theorem mapsB_nil : MapsB (.map []) [] := ⟨Maps.isMap_empty, rfl, fun s => rfl⟩
theorem mapsB_new {D : DataW Unit} {words : List ByteArray} (h : MapsB D words) (hT : Maps.Tidy D) (s : ByteArray) (hs : wordAt s words 0 = none) (d : DataW Unit) : MapsB (D.put (sKey s) d) (words ++ [s]) := by
  have hk : WideAt.IsKeyLit (sKey s) := by unfold sKey WideAt.IsKeyLit; trivial
  refine ⟨h.isMap.put _ _, ?_, fun t => ?_⟩
  · rw [Maps.size_put hT, h.has_, hs, h.size_]; simp
  · rw [wordAt_snoc]
    by_cases hst : s.data.toList = t.data.toList
    · have e : sKey t = sKey s := by unfold sKey; rw [hst]
      rw [e, Maps.has_put_same h.isMap hk]
      cases hw : wordAt t words 0 with
      | some j => rfl
      | none => simp only [if_pos hst]; rfl
    · have e : sKey t ≠ sKey s := by unfold sKey; intro h; injection h with h; exact hst h.symm
      rw [Maps.has_put_other e, h.has_]
      cases hw : wordAt t words 0 with
      | some j => rfl
      | none => simp only [if_neg hst]
theorem wordAt_congr {s t : ByteArray} (h : s.data.toList = t.data.toList) : ∀ (l : List ByteArray) (i : Nat), wordAt s l i = wordAt t l i := by
  intro l
  induction l with
  | nil => intro i; rfl
  | cons x xs ih => intro i; unfold wordAt; rw [h, ih]
theorem mapsB_old {D : DataW Unit} {words : List ByteArray} (h : MapsB D words) (hT : Maps.Tidy D) (s : ByteArray) {k : Nat} (hs : wordAt s words 0 = some k) (d : DataW Unit) : MapsB (D.put (sKey s) d) words := by
  have hk : WideAt.IsKeyLit (sKey s) := by unfold sKey WideAt.IsKeyLit; trivial
  refine ⟨h.isMap.put _ _, ?_, fun t => ?_⟩
  · rw [Maps.size_put hT, h.has_, hs, h.size_]; simp
  · by_cases hst : s.data.toList = t.data.toList
    · have e : sKey t = sKey s := by unfold sKey; rw [hst]
      rw [e, Maps.has_put_same h.isMap hk, wordAt_congr hst.symm, hs]; rfl
    · have e : sKey t ≠ sKey s := by unfold sKey; intro h; injection h with h; exact hst h.symm
      rw [Maps.has_put_other e, h.has_]
theorem uniq_len : ∀ (l w : List ByteArray), (uniq l w).length ≤ w.length + l.length
  | [], w => Nat.le_refl _
  | s :: l, w => by
    unfold uniq
    split
    · have := uniq_len l w; simp only [List.length_cons]; omega
    · have := uniq_len l (w ++ [s]); simp only [List.length_append, List.length_cons, List.length_nil] at this ⊢; omega
def dict_May.f (l0 : List ByteArray) (l1 : List Int) : Option Bool := if l0.length ≤ 1000000000000 ∧ (∀ s ∈ l0, s.size ≤ 140737488355328) ∧ l1.length ≤ 1000000000000 ∧ (∀ x ∈ l1, 0 ≤ x) then (match dictM (l0.length : Int) l1 0 with
  | none => some false
  | some met => if met = (l0.length : Int) then some (decide ((uniq l0 []).length = l0.length)) else some false) else none
set_option maxHeartbeats 8000000 in
set_option maxRecDepth 100000 in
theorem dict_May.calls (A0 : Option Addr) (c0 : Nat) (l0 : List ByteArray) (A1 : Option Addr) (c1 : Nat) (l1 : List Int) (r : Bool) (w : World) (hr0 : Kd.C Kd.string w A0 l0.length l0) (hc0 : l0.length ≤ c0) (hr1 : Kd.C (Kd.int .u64) w A1 l1.length l1) (hc1 : l1.length ≤ c1) (h : dict_May.f l0 l1 = some r) :
    Calls Try.prog 72 #[.slice A0 l0.length c0, .slice A1 l1.length c1] w fun e w' => e = .returned (.bool r) ∧ Below w.heap.size w w' := by
  have HR0 := Aside0.mk hr0
  have HC0 := Aside0.mk hc0
  have HR1 := Aside0.mk hr1
  have HC1 := Aside0.mk hc1
  unfold dict_May.f at h
  by_cases hlen : l0.length ≤ 1000000000000 ∧ (∀ s ∈ l0, s.size ≤ 140737488355328) ∧ l1.length ≤ 1000000000000 ∧ (∀ x ∈ l1, 0 ≤ x)
  case neg => rw [if_neg hlen] at h; exact absurd h (by simp)
  rw [if_pos hlen] at h
  obtain ⟨U, hU⟩ : ∃ U, U = uniq l0 [] := ⟨_, rfl⟩
  rw [← hU] at h
  have HU := Aside0.mk hU.symm
  clear hU
  have H' := Aside0.mk h
  have LM := Aside0.mk hlen
  clear hr0 hc0 hr1 hc1 h hlen
  have hmm : ∀ w : World, (Instr.makeMap 114 none).run Try.prog w = .ok (.map (some w.heap.size)) (w.alloc (.map #[] 0)) := fun _ => rfl
  have hwr0 : IntKind.u64.wrap (l0.length : Int) = (l0.length : Int) := by have := LM.out.1; simp [IntKind.wrap, IntKind.bits, IntKind.signed]; omega
  have HB := Aside0.mk (Below.refl w.heap.size w)
  go_enter Try.func72, Try.ntmps72
  go_wp2
  go_loopg [5, 13] (l1.length + 1) (fun kq v5 v13 w' => ∃ (i met : Int), v5 = .int .u64 met ∧ v13 = .int .i64 i ∧ Aside0 (0 ≤ i ∧ i ≤ l1.length ∧ (kq : Int) + i = l1.length + 1 ∧ 0 ≤ met ∧ met ≤ l0.length) ∧ Aside0 ((match dictM (l0.length : Int) (l1.drop i.toNat) met with
    | none => some false
    | some met => if met = (l0.length : Int) then some (decide (U.length = l0.length)) else some false) = some r) ∧ Aside0 (Below w.heap.size w w'))
  case atStart => exact ⟨0, 0, by simp, by simp, ⟨by simp⟩, H', HB⟩
  case round =>
    clear H' HB
    obtain ⟨i, met, rfl, rfl, HK, HG, HB⟩ := hrel
    cases gk with
    | zero => have := HK.out; exact absurd this (by omega)
    | succ k1 =>
      by_cases hi : i < (l1.length : Int)
      · have hib : decide (i < (l1.length : Int)) = true := decide_eq_true hi
        have hk9 := HK.out
        have hG := HG.out
        clear HG
        obtain ⟨x, hx1⟩ : ∃ x, x = rd l1 i := ⟨_, rfl⟩
        have hdrop : l1.drop i.toNat = x :: l1.drop (i.toNat + 1) := by
          rw [List.drop_eq_getElem_cons (show i.toNat < l1.length by omega), hx1]
          congr 1
          unfold rd
          simp [List.getD_eq_getElem?_getD, show i.toNat < l1.length by omega]
        have hx9 : 0 ≤ x := LM.out.2.2.2 x (List.mem_of_mem_drop (i := i.toNat) (by rw [hdrop]; exact List.mem_cons_self))
        rw [hdrop] at hG
        unfold dictM at hG
        have p29 : 0 ≤ i := by omega
        obtain ⟨ad, e0, hx0⟩ := Kd.at_int HR1.out i p29 hi
        subst e0
        have hx := (HB.out.cell (World.block_lt_of_cell? w _ hx0)).trans hx0
        rw [← hx1] at hx
        have HI := Aside0.mk hi
        have HX := Aside0.mk hx9
        have hi1 : (i + 1).toNat = i.toNat + 1 := by omega
        have hwi : wrap64 (i + 1) = i + 1 := by have := LM.out.2.2.1; unfold wrap64; omega
        replace p29 := eq_true p29
        replace hi := eq_true hi
        clear hdrop hx0 hx1 hx9 hk9
        by_cases c1 : x > met
        · rw [if_pos c1] at hG
          have c1b : decide (met < x) = true := decide_eq_true c1
          clear c1
          obtain rfl := Option.some.inj hG
          go_wp2
          go_ret
          exact ⟨rfl, HB.out⟩
        · rw [if_neg c1] at hG
          have c1b : decide (met < x) = false := decide_eq_false c1
          clear c1
          by_cases c2 : x ≥ (l0.length : Int)
          · rw [if_pos c2] at hG
            have c2b : decide ((l0.length : Int) ≤ x) = true := decide_eq_true c2
            clear c2
            obtain rfl := Option.some.inj hG
            go_wp2
            go_ret
            exact ⟨rfl, HB.out⟩
          · rw [if_neg c2] at hG
            have c2b : decide ((l0.length : Int) ≤ x) = false := decide_eq_false c2
            have H' := Aside0.mk hG
            have hwx : IntKind.u64.wrap (x + 1) = x + 1 := by have := HX.out; have := LM.out.1; simp [IntKind.wrap, IntKind.bits, IntKind.signed]; omega
            have hmx : (if met < x + 1 then x + 1 else met) = mx met (x + 1) := rfl
            have HM := Aside0.mk (show 0 ≤ mx met (x + 1) ∧ mx met (x + 1) ≤ l0.length by have := HK.out; have := HX.out; unfold mx; split <;> omega)
            clear c2 hG
            go_wp2
            go_roundg k1
            case measure => have := HK.out; omega
            case rel => exact ⟨i + 1, mx met (x + 1), (by first | rfl | (simp; done) | (simp [*]; done)), (by first | rfl | (simp; done) | (simp [*]; done)), ⟨by have := HK.out; have := HI.out; have := HM.out; omega⟩, ⟨by rw [hi1]; exact H'.out⟩, HB⟩
      · have hib : decide (i < (l1.length : Int)) = false := decide_eq_false hi
        have hk9 := HK.out
        have hG := HG.out
        rw [List.drop_eq_nil_of_le (by omega)] at hG
        unfold dictM at hG
        have H' := Aside0.mk hG
        have HMET := Aside0.mk (show 0 ≤ met ∧ met ≤ l0.length by omega)
        clear hG HG hi hk9 HK
        go_wp2
        have HM := Aside0.mk (World.ownsMap_made (H := Unit) wr Try.prog 9 (plainElem Try.prog 4))
        have HGE := Aside0.mk (below_size HB.out)
        have HB2 := Aside0.mk (below_alloc HB.out (.map #[] 0))
        clear HB
        generalize hbm : wr.heap.size = bm at HM HGE ⊢
        clear hbm
        go_loopg [35] (l0.length + 1) (fun kq v35 w' => ∃ (i : Int) (n : Nat) (D : DataW Unit) (words : List ByteArray), v35 = .int .i64 i ∧ Aside0 (0 ≤ i ∧ i ≤ l0.length ∧ (kq : Int) + i = l0.length + 1 ∧ n ≤ i) ∧ Aside0 (uniq (l0.drop i.toNat) words = U) ∧ Aside0 (MapsB D words) ∧ Aside0 (w'.ownsMap Try.prog 9 (plainElem Try.prog 4) bm n D) ∧ Aside0 (Below w.heap.size w w'))
        case atStart => exact ⟨0, 0, .map [], [], by simp, ⟨by simp⟩, ⟨by simpa using HU.out⟩, ⟨mapsB_nil⟩, HM, HB2⟩
        case round =>
          clear HM HB2
          obtain ⟨i, n, D, words, rfl, HK, HG, HD, HM, HB⟩ := hrel
          cases gk with
          | zero => have := HK.out; exact absurd this (by omega)
          | succ k1 =>
            by_cases hi : i < (l0.length : Int)
            · have hib : decide (i < (l0.length : Int)) = true := decide_eq_true hi
              have hk9 := HK.out
              have hG := HG.out
              clear HG
              obtain ⟨s, hs⟩ : ∃ s, s = rdOf ByteArray.empty l0 i := ⟨_, rfl⟩
              have hdrop : l0.drop i.toNat = s :: l0.drop (i.toNat + 1) := by
                rw [List.drop_eq_getElem_cons (show i.toNat < l0.length by omega), hs]
                congr 1
                unfold rdOf
                simp [List.getD_eq_getElem?_getD, show i.toNat < l0.length by omega]
              have hsz : s.size ≤ 140737488355328 := LM.out.2.1 s (List.mem_of_mem_drop (i := i.toNat) (by rw [hdrop]; exact List.mem_cons_self))
              rw [hdrop] at hG
              have p29 : 0 ≤ i := by omega
              obtain ⟨ad, e0, hx0⟩ := Kd.at_string HR0.out i p29 hi
              subst e0
              have hx := (HB.out.cell (World.block_lt_of_cell? w _ hx0)).trans hx0
              rw [← hs] at hx
              have HKEY := Aside0.mk (Go.WideMaps.keyOf_string_mk (P := Try.prog) (k := 9) Try.underlying9 (s := s) (by have h_ : (140737488355328 : Nat) ≤ maxLen := (by decide); omega))
              have HI := Aside0.mk hi
              have hi1 : (i + 1).toNat = i.toNat + 1 := by omega
              have hwi : wrap64 (i + 1) = i + 1 := by have := LM.out.1; unfold wrap64; omega
              replace p29 := eq_true p29
              replace hi := eq_true hi
              have HG := Aside0.mk hG
              clear hdrop hx0 hs hk9 hG
              go_wp2_with (at_mapUpdate; refine wpList_mapUpdate_own _ rfl _ _ _ 114 rfl 9 4 (Maps.string_keyed Try.underlying9) Try.underlying114 (plainElem Try.prog 4) bm n D rfl HM.out (by have := HK.out; have := LM.out.1; have : (1000000000000 : Nat) < maxLen := (by decide); omega) _ _ (.string s.data.toList) rfl rfl HKEY.out (.lit (.bool true)) [] (plainElem_bool Try.underlying4 true) ?_; intro w3 hown hgr; have HT := Aside0.mk (World.ownsMap.tidy HM.out (Maps.string_keyed Try.underlying9)); have n2_ := Aside0.mk (HB.out.grown hgr (below_size HB.out) (fun k_ hk => by have h_ := Option.some.inj hk; have := HGE.out; omega)); clear HM HB; have HM := Aside0.mk hown; have HB := n2_; clear n2_ hown hgr)
              go_roundg k1
              case measure => have := HK.out; omega
              case rel =>
                have hk := HK.out
                have hi2 := HI.out
                have hG := HG.out
                unfold uniq at hG
                cases hw : wordAt s words 0 with
                | some k =>
                  rw [hw] at hG
                  exact ⟨i + 1, n + 1, _, words, (by first | rfl | (simp; done) | (simp [*]; done)), ⟨by omega⟩, ⟨by rw [hi1]; exact hG⟩, ⟨mapsB_old HD.out HT.out s hw _⟩, HM, HB⟩
                | none =>
                  rw [hw] at hG
                  exact ⟨i + 1, n + 1, _, words ++ [s], (by first | rfl | (simp; done) | (simp [*]; done)), ⟨by omega⟩, ⟨by rw [hi1]; exact hG⟩, ⟨mapsB_new HD.out HT.out s hw _⟩, HM, HB⟩
            · have hib : decide (i < (l0.length : Int)) = false := decide_eq_false hi
              have hk9 := HK.out
              have hG := HG.out
              rw [List.drop_eq_nil_of_le (by omega)] at hG
              have hU : words = U := hG
              have hsize : Maps.size D = U.length := by rw [HD.out.size_, hU]
              clear hG HG hi hk9 hU HD
              by_cases c3 : met = (l0.length : Int)
              · have H3 : some (decide (U.length = l0.length)) = some r := by have := H'.out; simp only [if_pos c3] at this; exact this
                have c3b : (met == (l0.length : Int)) = true := beq_iff_eq.mpr c3
                have hres := Option.some.inj H3
                clear H' H3
                subst c3
                go_wp2_with ((try (refine gate_guard (by rfl) ?_; dsimp only)); at_len; refine wpList_len_own _ rfl _ _ rfl 9 4 Try.underlying114 (plainElem Try.prog 4) bm n D rfl HM.out ?_)
                go_ret
                refine ⟨?_, HB.out⟩
                rw [← hres]
                congr 2
                by_cases h : U.length = l0.length
                · simp [h]
                · rw [decide_eq_false h]; simp; omega
              · have H3 : some false = some r := by have := H'.out; simp only [if_neg c3] at this; exact this
                have c3b : (met == (l0.length : Int)) = false := beq_eq_false_iff_ne.mpr c3
                obtain rfl := Option.some.inj H3
                clear H' H3 c3
                go_wp2
                go_ret
                exact ⟨rfl, HB.out⟩
def dict_Decode.l0 : Nat → ByteArray → Int → Int → List ByteArray → Int → Int → Int → Option (List ByteArray × Int)
  | 0, _, _, _, _, _, _, _ => none
  | k + 1, x0, x1, x2, x11, x12, x46, x47 => if x47 < x46 then ((word_Take.f k x0 x12 x2).bind fun bt793 => (if bt793.2.2 = 0 then (if x11.length < 8796093022208 then (dict_Decode.l0 k x0 x1 x2 (x11 ++ [bt793.1]) bt793.2.1 x46 (IntKind.u64.wrap (x47 + 1))) else (none)) else (some (([] : List ByteArray), bt793.2.2)))) else (if 0 ≤ x12 then (if x12 ≤ (x0.size : Int) then ((runs_Decode.f k (x0.extract (x12 : Int).toNat x0.size) x1).bind fun bt799 => (if bt799.2 = 0 then ((dict_May.f x11 bt799.1).bind fun t803 => (if t803 = true then ((dict_Pick.f x11 bt799.1).bind fun bt804 => (some (bt804.1, 0))) else (some (([] : List ByteArray), 5)))) else (some (([] : List ByteArray), bt799.2)))) else (none)) else (none))
def dict_Decode.f (k : Nat) (a0 : ByteArray) (a1 : Int) (a2 : Int) : Option (List ByteArray × Int) := if a1 < 0 then (some (([] : List ByteArray), 1)) else (if a1 > 4096 then (some (([] : List ByteArray), 10)) else ((pack_New.f a0).bind fun bt781 => ((pack_Reader_Num.f bt781.1 bt781.2).bind fun bt784 => ((pack_Reader_Err.f bt784.2.1 bt784.2.2).bind fun bt787 => (if bt787.1 = 0 then (if bt784.1 > (IntKind.u64.wrap (a1)) then (some (([] : List ByteArray), 10)) else ((pack_Reader_Left.f bt787.2.1 bt787.2.2).bind fun bt790 => (dict_Decode.l0 k a0 a1 a2 ([] : List ByteArray) (wrap64 ((a0.size : Int) - bt790.1)) bt784.1 0))) else (some (([] : List ByteArray), bt787.1)))))))
theorem dict_Decode.mono_l : ∀ k, (∀ y0 y1 y2 y3 y4 y5 y6, LeO (dict_Decode.l0 k y0 y1 y2 y3 y4 y5 y6) (dict_Decode.l0 (k + 1) y0 y1 y2 y3 y4 y5 y6))
  | 0 => fun _ _ _ _ _ _ _ r h => by simp [dict_Decode.l0] at h
  | k + 1 => by
    have ih0 := dict_Decode.mono_l k
    · intro y0 y1 y2 y3 y4 y5 y6
      unfold dict_Decode.l0
      repeat' first
      | (with_reducible exact ih0 _ _ _ _ _ _ _)
      | (with_reducible exact runs_Decode.mono _ _ _)
      | (with_reducible exact word_Take.mono _ _ _ _)
      | (with_reducible exact LeO.refl _)
      | (with_reducible exact LeO.none _)
      | (with_reducible refine LeO.ite ?_ ?_)
      | (with_reducible refine LeO.bind ?_ (fun _ => ?_))
      | exact ih0 _ _ _ _ _ _ _
      | exact runs_Decode.mono _ _ _
      | exact word_Take.mono _ _ _ _
      | exact LeO.none _
      | refine LeO.ite ?_ ?_
      | refine LeO.bind ?_ (fun _ => ?_)
theorem dict_Decode.mono : ∀ a0 a1 a2 k, LeO (dict_Decode.f k a0 a1 a2) (dict_Decode.f (k + 1) a0 a1 a2) := by
  intro a0 a1 a2 k
  have ih0 := dict_Decode.mono_l k
  unfold dict_Decode.f
  repeat' first
      | (with_reducible exact ih0 _ _ _ _ _ _ _)
      | (with_reducible exact runs_Decode.mono _ _ _)
      | (with_reducible exact word_Take.mono _ _ _ _)
      | (with_reducible exact LeO.refl _)
      | (with_reducible exact LeO.none _)
      | (with_reducible refine LeO.ite ?_ ?_)
      | (with_reducible refine LeO.bind ?_ (fun _ => ?_))
      | exact ih0 _ _ _ _ _ _ _
      | exact runs_Decode.mono _ _ _
      | exact word_Take.mono _ _ _ _
      | exact LeO.none _
      | refine LeO.ite ?_ ?_
      | refine LeO.bind ?_ (fun _ => ?_)
set_option maxHeartbeats 8000000 in
set_option maxRecDepth 100000 in
theorem dict_Decode.calls (k : Nat) (a0 : ByteArray) (a1 : Int) (a2 : Int) (r1 : List ByteArray) (r2 : Int) (w : World) (h : dict_Decode.f k a0 a1 a2 = some (r1, r2)) :
    Calls Try.prog 74 #[.string a0, .int .i64 a1, .int .i64 a2] w fun e w' => ∃ v0_ : Value, e = .returned (.tuple #[v0_, .int .i64 r2]) ∧ Kd.R Kd.string 9 w' w.heap.size (fun _ => True) v0_ r1 ∧ Below w.heap.size w w' := by
  have HB := Aside0.mk (Below.refl w.heap.size w)
  have H : (if a1 < 0 then (some (([] : List ByteArray), 1)) else (if a1 > 4096 then (some (([] : List ByteArray), 10)) else ((pack_New.f a0).bind fun bt781 => ((pack_Reader_Num.f bt781.1 bt781.2).bind fun bt784 => ((pack_Reader_Err.f bt784.2.1 bt784.2.2).bind fun bt787 => (if bt787.1 = 0 then (if bt784.1 > (IntKind.u64.wrap (a1)) then (some (([] : List ByteArray), 10)) else ((pack_Reader_Left.f bt787.2.1 bt787.2.2).bind fun bt790 => (dict_Decode.l0 k a0 a1 a2 ([] : List ByteArray) (wrap64 ((a0.size : Int) - bt790.1)) bt784.1 0))) else (some (([] : List ByteArray), bt787.1)))))))) = some (r1, r2) := h
  clear h
  by_cases c4 : a1 < 0
  · rw [if_pos c4] at H
    have c4b0 : decide (a1 < 0) = true := decide_eq_true c4
    clear c4
    simp only [Option.some.injEq, Prod.mk.injEq] at H
    obtain ⟨rfl, rfl⟩ := H
    go_enter Try.func74, Try.ntmps74
    go_wp2
    go_ret2
    exact ⟨_, by first | rfl | (simp [errW_none, errW_some] <;> rfl) | (simp [*, errW_none, errW_some] <;> rfl), by first | exact Kd.R_nil _ _ _ _ _ | exact Kd.N_nil _ _ _ _ _ | exact Kd.V_nil _ _ _ _ _ | exact Kd.Q_nil _ _ _ _ _ | exact Kd.S_nil _ _ _ _ _, by repeat (first | (with_reducible first | exact HB.out | apply below_alloc | apply pw_below_drewN | apply below_drew1) | exact HB.out)⟩
  · rw [if_neg c4] at H
    have c4b0 : decide (a1 < 0) = false := decide_eq_false c4
    clear c4
    by_cases c5 : a1 > 4096
    · rw [if_pos c5] at H
      have c5b0 : decide (4096 < a1) = true := decide_eq_true c5
      clear c5
      simp only [Option.some.injEq, Prod.mk.injEq] at H
      obtain ⟨rfl, rfl⟩ := H
      go_enter Try.func74, Try.ntmps74
      go_wp2
      go_ret2
      exact ⟨_, by first | rfl | (simp [errW_none, errW_some] <;> rfl) | (simp [*, errW_none, errW_some] <;> rfl), by first | exact Kd.R_nil _ _ _ _ _ | exact Kd.N_nil _ _ _ _ _ | exact Kd.V_nil _ _ _ _ _ | exact Kd.Q_nil _ _ _ _ _ | exact Kd.S_nil _ _ _ _ _, by repeat (first | (with_reducible first | exact HB.out | apply below_alloc | apply pw_below_drewN | apply below_drew1) | exact HB.out)⟩
    · rw [if_neg c5] at H
      have c5b0 : decide (4096 < a1) = false := decide_eq_false c5
      clear c5
      replace H := Option.bind_eq_some_iff.mp H
      obtain ⟨⟨t781, t782⟩, A60, H⟩ := H
      replace H : ((pack_Reader_Num.f t781 t782).bind fun bt784 => ((pack_Reader_Err.f bt784.2.1 bt784.2.2).bind fun bt787 => (if bt787.1 = 0 then (if bt784.1 > (IntKind.u64.wrap (a1)) then (some (([] : List ByteArray), 10)) else ((pack_Reader_Left.f bt787.2.1 bt787.2.2).bind fun bt790 => (dict_Decode.l0 k a0 a1 a2 ([] : List ByteArray) (wrap64 ((a0.size : Int) - bt790.1)) bt784.1 0))) else (some (([] : List ByteArray), bt787.1))))) = some (r1, r2) := H
      have A6 := Aside0.mk A60
      clear A60
      replace H := Option.bind_eq_some_iff.mp H
      obtain ⟨⟨t784, t785, t786⟩, A70, H⟩ := H
      replace H : ((pack_Reader_Err.f t785 t786).bind fun bt787 => (if bt787.1 = 0 then (if t784 > (IntKind.u64.wrap (a1)) then (some (([] : List ByteArray), 10)) else ((pack_Reader_Left.f bt787.2.1 bt787.2.2).bind fun bt790 => (dict_Decode.l0 k a0 a1 a2 ([] : List ByteArray) (wrap64 ((a0.size : Int) - bt790.1)) t784 0))) else (some (([] : List ByteArray), bt787.1)))) = some (r1, r2) := H
      have A7 := Aside0.mk A70
      clear A70
      replace H := Option.bind_eq_some_iff.mp H
      obtain ⟨⟨t787, t788, t789⟩, A80, H⟩ := H
      replace H : (if t787 = 0 then (if t784 > (IntKind.u64.wrap (a1)) then (some (([] : List ByteArray), 10)) else ((pack_Reader_Left.f t788 t789).bind fun bt790 => (dict_Decode.l0 k a0 a1 a2 ([] : List ByteArray) (wrap64 ((a0.size : Int) - bt790.1)) t784 0))) else (some (([] : List ByteArray), t787))) = some (r1, r2) := H
      have A8 := Aside0.mk A80
      clear A80
      by_cases c9 : t787 = 0
      · rw [if_pos c9] at H
        have c9b0 : (t787 == 0) = true := beq_iff_eq.mpr c9
        have c9b1 : (t787 != 0) = false := bne_eq_false_iff_eq.mpr c9
        clear c9
        by_cases c10 : t784 > (IntKind.u64.wrap (a1))
        · rw [if_pos c10] at H
          have c10b0 : decide ((IntKind.u64.wrap (a1)) < t784) = true := decide_eq_true c10
          clear c10
          simp only [Option.some.injEq, Prod.mk.injEq] at H
          obtain ⟨rfl, rfl⟩ := H
          go_enter Try.func74, Try.ntmps74
          go_wp2_with (first | ((with_reducible refine gate_callee (f := 80) rfl ?_); refine goesL_ (some 27) rfl rfl Try.func80 (by kernel_rfl) rfl #[.string a0] rfl (by (try simp only [List.map_toArray, List.map_cons, List.map_nil]); first | done | rfl | (simp only [List.length_drop, List.length_take]; rfl)) ?_; (with_reducible refine (pack_New.calls a0 t781 t782 w _ ?side1 A6.out).mono ?_); (case side1 => repeat (first | (with_reducible first | exact HB.out | apply below_alloc | apply pw_below_drewN | apply below_drew1) | exact HB.out)); rintro e w11 ⟨g783, rfl, hi, hb, hb2⟩; refine ⟨_, rfl, ?_⟩; have n0_ := Aside0.mk (hb); have n1_ := Aside0.mk (hi); clear HB; have HB := n0_; have HI783 := n1_; clear n0_ n1_; (try clear hb); (try clear hb2); (try clear hk); (try clear hi)) | ((with_reducible refine gate_callee (f := 81) rfl ?_); refine goesL_ (some 29) rfl rfl Try.func81 (by kernel_rfl) rfl #[.pointer (some ⟨g783, 0, none⟩)] rfl (by (try simp only [List.map_toArray, List.map_cons, List.map_nil]); first | done | rfl | (simp only [List.length_drop, List.length_take]; rfl)) ?_; (with_reducible refine (pack_Reader_Num.calls g783 t781 t782 t784 t785 t786 w _ ?side1 ?side2 A7.out).mono ?_); (case side1 => repeat (first | (with_reducible first | exact HI783.out | apply IsS120.alloc | apply IsS120.drewN | apply IsS120.drew | apply IsS120.set_0 | apply IsS120.set_1) | exact HI783.out)); (case side2 => repeat (first | (with_reducible first | exact HB.out | apply below_alloc | apply pw_below_drewN | apply below_drew1 | refine below_set ?_ (IsS120.ge HI783.out)) | exact HB.out)); rintro e w12 ⟨rfl, hi, hb, hk⟩; refine ⟨_, rfl, ?_⟩; have n0_ := Aside0.mk (hb); have n1_ := Aside0.mk (hi); clear HB; clear HI783; have HB := n0_; have HI783 := n1_; clear n0_ n1_; (try clear hb); (try clear hb2); (try clear hk); (try clear hi)) | ((with_reducible refine gate_callee (f := 82) rfl ?_); refine goesL_ (some 31) rfl rfl Try.func82 (by kernel_rfl) rfl #[.pointer (some ⟨g783, 0, none⟩)] rfl (by (try simp only [List.map_toArray, List.map_cons, List.map_nil]); first | done | rfl | (simp only [List.length_drop, List.length_take]; rfl)) ?_; (with_reducible refine (pack_Reader_Err.calls g783 t785 t786 t787 t788 t789 w _ ?side1 ?side2 A8.out).mono ?_); (case side1 => repeat (first | (with_reducible first | exact HI783.out | apply IsS120.alloc | apply IsS120.drewN | apply IsS120.drew | apply IsS120.set_0 | apply IsS120.set_1) | exact HI783.out)); (case side2 => repeat (first | (with_reducible first | exact HB.out | apply below_alloc | apply pw_below_drewN | apply below_drew1 | refine below_set ?_ (IsS120.ge HI783.out)) | exact HB.out)); rintro e w13 ⟨rfl, hi, hb, hk⟩; refine ⟨_, rfl, ?_⟩; have n0_ := Aside0.mk (hb); have n1_ := Aside0.mk (hi); clear HB; clear HI783; have HB := n0_; have HI783 := n1_; clear n0_ n1_; (try clear hb); (try clear hb2); (try clear hk); (try clear hi)))
          go_ret2
          exact ⟨_, by first | rfl | (simp [errW_none, errW_some] <;> rfl) | (simp [*, errW_none, errW_some] <;> rfl), by first | exact Kd.R_nil _ _ _ _ _ | exact Kd.N_nil _ _ _ _ _ | exact Kd.V_nil _ _ _ _ _ | exact Kd.Q_nil _ _ _ _ _ | exact Kd.S_nil _ _ _ _ _, by repeat (first | (with_reducible first | exact HB.out | apply below_alloc | apply pw_below_drewN | apply below_drew1 | refine below_set ?_ (IsS120.ge HI783.out)) | exact HB.out)⟩
        · rw [if_neg c10] at H
          have c10b0 : decide ((IntKind.u64.wrap (a1)) < t784) = false := decide_eq_false c10
          clear c10
          replace H := Option.bind_eq_some_iff.mp H
          obtain ⟨⟨t790, t791, t792⟩, A140, H⟩ := H
          replace H : (dict_Decode.l0 k a0 a1 a2 ([] : List ByteArray) (wrap64 ((a0.size : Int) - t790)) t784 0) = some (r1, r2) := H
          have A14 := Aside0.mk A140
          clear A140
          have H' := Aside0.mk H
          clear H
          go_enter Try.func74, Try.ntmps74
          go_wp2_with (first | ((with_reducible refine gate_callee (f := 80) rfl ?_); refine goesL_ (some 27) rfl rfl Try.func80 (by kernel_rfl) rfl #[.string a0] rfl (by (try simp only [List.map_toArray, List.map_cons, List.map_nil]); first | done | rfl | (simp only [List.length_drop, List.length_take]; rfl)) ?_; (with_reducible refine (pack_New.calls a0 t781 t782 w _ ?side1 A6.out).mono ?_); (case side1 => repeat (first | (with_reducible first | exact HB.out | apply below_alloc | apply pw_below_drewN | apply below_drew1) | exact HB.out)); rintro e w15 ⟨g783, rfl, hi, hb, hb2⟩; refine ⟨_, rfl, ?_⟩; have n0_ := Aside0.mk (hb); have n1_ := Aside0.mk (hi); clear HB; have HB := n0_; have HI783 := n1_; clear n0_ n1_; (try clear hb); (try clear hb2); (try clear hk); (try clear hi)) | ((with_reducible refine gate_callee (f := 81) rfl ?_); refine goesL_ (some 29) rfl rfl Try.func81 (by kernel_rfl) rfl #[.pointer (some ⟨g783, 0, none⟩)] rfl (by (try simp only [List.map_toArray, List.map_cons, List.map_nil]); first | done | rfl | (simp only [List.length_drop, List.length_take]; rfl)) ?_; (with_reducible refine (pack_Reader_Num.calls g783 t781 t782 t784 t785 t786 w _ ?side1 ?side2 A7.out).mono ?_); (case side1 => repeat (first | (with_reducible first | exact HI783.out | apply IsS120.alloc | apply IsS120.drewN | apply IsS120.drew | apply IsS120.set_0 | apply IsS120.set_1) | exact HI783.out)); (case side2 => repeat (first | (with_reducible first | exact HB.out | apply below_alloc | apply pw_below_drewN | apply below_drew1 | refine below_set ?_ (IsS120.ge HI783.out)) | exact HB.out)); rintro e w16 ⟨rfl, hi, hb, hk⟩; refine ⟨_, rfl, ?_⟩; have n0_ := Aside0.mk (hb); have n1_ := Aside0.mk (hi); clear HB; clear HI783; have HB := n0_; have HI783 := n1_; clear n0_ n1_; (try clear hb); (try clear hb2); (try clear hk); (try clear hi)) | ((with_reducible refine gate_callee (f := 82) rfl ?_); refine goesL_ (some 31) rfl rfl Try.func82 (by kernel_rfl) rfl #[.pointer (some ⟨g783, 0, none⟩)] rfl (by (try simp only [List.map_toArray, List.map_cons, List.map_nil]); first | done | rfl | (simp only [List.length_drop, List.length_take]; rfl)) ?_; (with_reducible refine (pack_Reader_Err.calls g783 t785 t786 t787 t788 t789 w _ ?side1 ?side2 A8.out).mono ?_); (case side1 => repeat (first | (with_reducible first | exact HI783.out | apply IsS120.alloc | apply IsS120.drewN | apply IsS120.drew | apply IsS120.set_0 | apply IsS120.set_1) | exact HI783.out)); (case side2 => repeat (first | (with_reducible first | exact HB.out | apply below_alloc | apply pw_below_drewN | apply below_drew1 | refine below_set ?_ (IsS120.ge HI783.out)) | exact HB.out)); rintro e w17 ⟨rfl, hi, hb, hk⟩; refine ⟨_, rfl, ?_⟩; have n0_ := Aside0.mk (hb); have n1_ := Aside0.mk (hi); clear HB; clear HI783; have HB := n0_; have HI783 := n1_; clear n0_ n1_; (try clear hb); (try clear hb2); (try clear hk); (try clear hi)) | ((with_reducible refine gate_callee (f := 83) rfl ?_); refine goesL_ (some 44) rfl rfl Try.func83 (by kernel_rfl) rfl #[.pointer (some ⟨g783, 0, none⟩)] rfl (by (try simp only [List.map_toArray, List.map_cons, List.map_nil]); first | done | rfl | (simp only [List.length_drop, List.length_take]; rfl)) ?_; (with_reducible refine (pack_Reader_Left.calls g783 t788 t789 t790 t791 t792 w _ ?side1 ?side2 A14.out).mono ?_); (case side1 => repeat (first | (with_reducible first | exact HI783.out | apply IsS120.alloc | apply IsS120.drewN | apply IsS120.drew | apply IsS120.set_0 | apply IsS120.set_1) | exact HI783.out)); (case side2 => repeat (first | (with_reducible first | exact HB.out | apply below_alloc | apply pw_below_drewN | apply below_drew1 | refine below_set ?_ (IsS120.ge HI783.out)) | exact HB.out)); rintro e w18 ⟨rfl, hi, hb, hk⟩; refine ⟨_, rfl, ?_⟩; have n0_ := Aside0.mk (hb); have n1_ := Aside0.mk (hi); clear HB; clear HI783; have HB := n0_; have HI783 := n1_; clear n0_ n1_; (try clear hb); (try clear hb2); (try clear hk); (try clear hi)))
          go_loopg [11, 12, 47] k (fun kq v11 v12 v47 w' => ∃ (x11_1 : List ByteArray) (x12_1 : Int) (x47_1 : Int), v12 = .int .i64 x12_1 ∧ v47 = .int .u64 x47_1 ∧ Aside0 (dict_Decode.l0 kq a0 a1 a2 x11_1 x12_1 t784 x47_1 = some (r1, r2)) ∧ Aside0 (kq ≤ k) ∧ Aside0 (Kd.R Kd.string 9 w' w.heap.size (fun _ => True) v11 x11_1) ∧ Aside0 (Below w.heap.size w w'))
          case atStart => exact ⟨(([] : List ByteArray)), (wrap64 ((a0.size : Int) - t790)), (0), (by first | rfl | (simp; done) | (simp [*]; done)), (by first | rfl | (simp; done) | (simp [*]; done)), H', ⟨Nat.le_refl _⟩, ⟨by first | exact Kd.R_nil _ _ _ _ _ | exact Kd.N_nil _ _ _ _ _ | exact Kd.V_nil _ _ _ _ _ | exact Kd.Q_nil _ _ _ _ _ | exact Kd.S_nil _ _ _ _ _⟩, ⟨by repeat (first | (with_reducible first | exact HB.out | apply below_alloc | apply pw_below_drewN | apply below_drew1 | refine below_set ?_ (IsS120.ge HI783.out)) | exact HB.out)⟩⟩
          case round =>
            clear H'
            try clear c1
            try clear p2
            try clear c4
            try clear c4b0
            try clear c5
            try clear c5b0
            try clear p6
            try clear c7
            try clear c8
            try clear c9
            try clear c9b0
            try clear c9b1
            try clear c10
            try clear c10b0
            obtain ⟨x11_1, x12_1, x47_1, rfl, rfl, HA, HK1, HO_11, HB⟩ := hrel
            cases gk with
            | zero => exact absurd HA.out (by simp [dict_Decode.l0])
            | succ k1 =>
              have H := HA.out
              clear HA
              simp only [dict_Decode.l0] at H
              by_cases c19 : x47_1 < t784
              · rw [if_pos c19] at H
                have c19b0 : decide (x47_1 < t784) = true := decide_eq_true c19
                clear c19
                replace H := Option.bind_eq_some_iff.mp H
                obtain ⟨⟨t793, t794, t795⟩, A200, H⟩ := H
                replace H : (if t795 = 0 then (if x11_1.length < 8796093022208 then (dict_Decode.l0 k1 a0 a1 a2 (x11_1 ++ [t793]) t794 t784 (IntKind.u64.wrap (x47_1 + 1))) else (none)) else (some (([] : List ByteArray), t795))) = some (r1, r2) := H
                have A20 := Aside0.mk A200
                clear A200
                by_cases c21 : t795 = 0
                · rw [if_pos c21] at H
                  have c21b0 : (t795 == 0) = true := beq_iff_eq.mpr c21
                  have c21b1 : (t795 != 0) = false := bne_eq_false_iff_eq.mpr c21
                  clear c21
                  by_cases c22 : x11_1.length < 8796093022208
                  · rw [if_pos c22] at H
                    have LMc22 := Aside0.mk c22
                    clear c22
                    obtain ⟨y796, hy796⟩ : ∃ y_ : List ByteArray, y_ = (x11_1 ++ [t793]) := ⟨_, rfl⟩
                    replace H : (dict_Decode.l0 k1 a0 a1 a2 y796 t794 t784 (IntKind.u64.wrap (x47_1 + 1))) = some (r1, r2) := by first | (rw [hy796]; with_reducible exact H) | (have H2_ := (Option.bind_some _ _).symm.trans H; rw [hy796]; with_reducible exact H2_) | (have H2_ := (Option.bind_some _ _).symm.trans H; with_reducible exact H2_) | with_reducible exact H | (rw [hy796]; exact H) | exact H
                    have Ny796 := Aside0.mk hy796
                    clear hy796
                    have H' := Aside0.mk H
                    clear H
                    go_wp2_with (first | ((with_reducible refine gate_callee (f := 35) rfl ?_); refine goesL_ (some 53) rfl rfl Try.func35 (by kernel_rfl) rfl #[.string a0, .int .i64 x12_1, .int .i64 a2] rfl (by (try simp only [List.map_toArray, List.map_cons, List.map_nil]); first | done | rfl | (simp only [List.length_drop, List.length_take]; rfl)) ?_; (with_reducible refine (word_Take.calls k1 a0 x12_1 a2 t793 t794 t795 _ A20.out).mono ?_); rintro e w23 ⟨rfl, hb⟩; refine ⟨_, rfl, ?_⟩; have n0_ := Aside0.mk (Kd.R_below (by (with_reducible repeat (first | apply Kd.R_alloc | apply Kd.R_drewN | apply Kd.R_drew)); exact HO_11.out) hb); have n1_ := Aside0.mk (below_step (by repeat (first | (with_reducible first | exact HB.out | apply below_alloc | apply pw_below_drewN | apply below_drew1) | exact HB.out)) hb); clear HO_11; clear HB; have HO_11 := n0_; have HB := n1_; clear n0_ n1_; (try clear hb); (try clear hb2); (try clear hk); (try clear hi)) | ((with_reducible refine gate_builtin (b := .append) (xs := #[.tmp 60, .tmp 62]) rfl ?_); at_builtin; refine Kd.R_append Kd.string (w0 := w) w.heap.size rfl (.tmp 60) (.tmp 62) 35 9 (.string ⟨#[]⟩) 16 rfl Try.underlying35 info9 rfl (by decide) (by omega) u11 x11_1 t793 [.string t793] (fun _ => True) (fun _ => False) rfl rfl ?aP (fun _ hk => hk.elim) ?aF ?aO ?aB ?aS ?aL ?_; (case aP => exact rfl); (case aB => exact (by repeat (first | (with_reducible first | exact HB.out | apply below_alloc | apply pw_below_drewN | apply below_drew1) | exact HB.out))); (case aF => exact (fun _ _ => trivial)); (case aO => exact (by (with_reducible repeat (first | apply Kd.R_alloc | apply Kd.R_drewN | apply Kd.R_drew)); exact HO_11.out)); (case aS => exact (below_size (by repeat (first | (with_reducible first | exact HB.out | apply below_alloc | apply pw_below_drewN | apply below_drew1) | exact HB.out)))); (case aL => have := LMc22.out; omega); intro v797 w24 ho hb hg hat; rw [← Ny796.out] at ho; have n0_ := Aside0.mk (hb); have n1_ := Aside0.mk (ho); clear HB; clear HO_11; have HB := n0_; have HO798 := n1_; clear n0_ n1_; clear ho hb hg hat))
                    go_roundg k1
                    case measure => have := HK1.out; omega
                    case rel => exact ⟨(y796), (t794), (IntKind.u64.wrap (x47_1 + 1)), (by first | rfl | (simp; done) | (simp [*]; done)), (by first | rfl | (simp; done) | (simp [*]; done)), H', ⟨by have := HK1.out; omega⟩, ⟨by (with_reducible repeat (first | apply Kd.R_alloc | apply Kd.R_drewN | apply Kd.R_drew)); exact HO798.out⟩, ⟨by repeat (first | (with_reducible first | exact HB.out | apply below_alloc | apply pw_below_drewN | apply below_drew1) | exact HB.out)⟩⟩
                  · rw [if_neg c22] at H
                    exact absurd H (by simp)
                · rw [if_neg c21] at H
                  have c21b0 : (t795 == 0) = false := beq_eq_false_iff_ne.mpr c21
                  have c21b1 : (t795 != 0) = true := bne_iff_ne.mpr c21
                  simp only [Option.some.injEq, Prod.mk.injEq] at H
                  obtain ⟨rfl, rfl⟩ := H
                  go_wp2_with (first | ((with_reducible refine gate_callee (f := 35) rfl ?_); refine goesL_ (some 53) rfl rfl Try.func35 (by kernel_rfl) rfl #[.string a0, .int .i64 x12_1, .int .i64 a2] rfl (by (try simp only [List.map_toArray, List.map_cons, List.map_nil]); first | done | rfl | (simp only [List.length_drop, List.length_take]; rfl)) ?_; (with_reducible refine (word_Take.calls k1 a0 x12_1 a2 t793 t794 t795 _ A20.out).mono ?_); rintro e w25 ⟨rfl, hb⟩; refine ⟨_, rfl, ?_⟩; have n0_ := Aside0.mk (Kd.R_below (by (with_reducible repeat (first | apply Kd.R_alloc | apply Kd.R_drewN | apply Kd.R_drew)); exact HO_11.out) hb); have n1_ := Aside0.mk (below_step (by repeat (first | (with_reducible first | exact HB.out | apply below_alloc | apply pw_below_drewN | apply below_drew1) | exact HB.out)) hb); clear HO_11; clear HB; have HO_11 := n0_; have HB := n1_; clear n0_ n1_; (try clear hb); (try clear hb2); (try clear hk); (try clear hi)))
                  go_ret2
                  exact ⟨_, by first | rfl | (simp [errW_none, errW_some] <;> rfl) | (simp [*, errW_none, errW_some] <;> rfl), by first | exact Kd.R_nil _ _ _ _ _ | exact Kd.N_nil _ _ _ _ _ | exact Kd.V_nil _ _ _ _ _ | exact Kd.Q_nil _ _ _ _ _ | exact Kd.S_nil _ _ _ _ _, by repeat (first | (with_reducible first | exact HB.out | apply below_alloc | apply pw_below_drewN | apply below_drew1) | exact HB.out)⟩
              · rw [if_neg c19] at H
                have c19b0 : decide (x47_1 < t784) = false := decide_eq_false c19
                clear c19
                by_cases c26 : 0 ≤ x12_1
                · rw [if_pos c26] at H
                  have c26b0 := eq_true c26
                  have c26b1 : decide (0 ≤ x12_1) = true := decide_eq_true c26
                  clear c26
                  by_cases c27 : x12_1 ≤ (a0.size : Int)
                  · rw [if_pos c27] at H
                    have c27b0 := eq_true c27
                    have c27b1 : decide (x12_1 ≤ (a0.size : Int)) = true := decide_eq_true c27
                    clear c27
                    replace H := Option.bind_eq_some_iff.mp H
                    obtain ⟨⟨t799, t800⟩, A280, H⟩ := H
                    replace H : (if t800 = 0 then ((dict_May.f x11_1 t799).bind fun t803 => (if t803 = true then ((dict_Pick.f x11_1 t799).bind fun bt804 => (some (bt804.1, 0))) else (some (([] : List ByteArray), 5)))) else (some (([] : List ByteArray), t800))) = some (r1, r2) := H
                    have A28 := Aside0.mk A280
                    clear A280
                    by_cases c29 : t800 = 0
                    · rw [if_pos c29] at H
                      have c29b0 : (t800 == 0) = true := beq_iff_eq.mpr c29
                      have c29b1 : (t800 != 0) = false := bne_eq_false_iff_eq.mpr c29
                      clear c29
                      replace H := Option.bind_eq_some_iff.mp H
                      obtain ⟨t803, A300, H⟩ := H
                      replace H : (if t803 = true then ((dict_Pick.f x11_1 t799).bind fun bt804 => (some (bt804.1, 0))) else (some (([] : List ByteArray), 5))) = some (r1, r2) := H
                      have A30 := Aside0.mk A300
                      clear A300
                      by_cases c31 : t803 = true
                      · subst c31
                        have H1 : ((dict_Pick.f x11_1 t799).bind fun bt804 => (some (bt804.1, 0))) = some (r1, r2) := by rw [if_pos rfl] at H; exact H
                        clear H
                        have H := H1
                        clear H1
                        replace H := Option.bind_eq_some_iff.mp H
                        obtain ⟨⟨t804, t805⟩, A320, H⟩ := H
                        replace H : (some (t804, 0)) = some (r1, r2) := H
                        have A32 := Aside0.mk A320
                        clear A320
                        simp only [Option.some.injEq, Prod.mk.injEq] at H
                        obtain ⟨rfl, rfl⟩ := H
                        go_wp2_with (first | ((with_reducible refine gate_callee (f := 49) rfl ?_); refine goesL_ (some 71) rfl rfl Try.func49 (by kernel_rfl) rfl #[.string (a0.extract (x12_1 : Int).toNat a0.size), .int .i64 a1] rfl (by (try simp only [List.map_toArray, List.map_cons, List.map_nil]); first | done | rfl | (simp only [List.length_drop, List.length_take]; rfl)) ?_; (with_reducible refine (runs_Decode.calls k1 (a0.extract (x12_1 : Int).toNat a0.size) a1 t799 t800 _ A28.out).mono ?_); rintro e w33 ⟨v801, rfl, ho0, hb⟩; refine ⟨_, rfl, ?_⟩; have n0_ := Aside0.mk (Kd.R_below (by (with_reducible repeat (first | apply Kd.R_alloc | apply Kd.R_drewN | apply Kd.R_drew)); exact HO_11.out) hb); have n1_ := Aside0.mk (Kd.R_lower ho0 (below_size (by repeat (first | (with_reducible first | exact HB.out | apply below_alloc | apply pw_below_drewN | apply below_drew1) | exact HB.out)))); have n2_ := Aside0.mk (below_step (by repeat (first | (with_reducible first | exact HB.out | apply below_alloc | apply pw_below_drewN | apply below_drew1) | exact HB.out)) hb); clear HO_11; clear HB; have HO_11 := n0_; have HO802 := n1_; have HB := n2_; clear n0_ n1_ n2_; (try clear hb); (try clear hb2); (try clear hk); (try clear hi); (try clear ho0); obtain ⟨Ao34, co34, eo34⟩ := Kd.R_slice HO_11.out; subst eo34; obtain ⟨Ao35, co35, eo35⟩ := Kd.R_slice HO802.out; subst eo35) | ((with_reducible refine gate_callee (f := 72) rfl ?_); refine goesL_ (some 79) rfl rfl Try.func72 (by kernel_rfl) rfl #[.slice Ao34 x11_1.length co34, .slice Ao35 t799.length co35] rfl (by (try simp only [List.map_toArray, List.map_cons, List.map_nil]); first | done | rfl | (simp only [List.length_drop, List.length_take]; rfl)) ?_; (with_reducible refine (dict_May.calls _ _ x11_1 _ _ t799 true _ ?side1 ?side2 ?side3 ?side4 A30.out).mono ?_); (case side1 => repeat (first | exact (Kd.R_reads' HO_11.out).2.2 | (with_reducible refine Kd.C_alloc ?_ _) | (with_reducible refine Kd.C_drewN ?_ _) | (with_reducible refine Kd.C_drew ?_))); (case side2 => exact (Kd.R_reads' HO_11.out).2.1); (case side3 => repeat (first | exact (Kd.R_reads' HO802.out).2.2 | (with_reducible refine Kd.C_alloc ?_ _) | (with_reducible refine Kd.C_drewN ?_ _) | (with_reducible refine Kd.C_drew ?_))); (case side4 => exact (Kd.R_reads' HO802.out).2.1); rintro e w36 ⟨rfl, hb⟩; refine ⟨_, rfl, ?_⟩; have n0_ := Aside0.mk (Kd.R_below (by (with_reducible repeat (first | apply Kd.R_alloc | apply Kd.R_drewN | apply Kd.R_drew)); exact HO_11.out) hb); have n1_ := Aside0.mk (Kd.R_below (by (with_reducible repeat (first | apply Kd.R_alloc | apply Kd.R_drewN | apply Kd.R_drew)); exact HO802.out) hb); have n2_ := Aside0.mk (below_step (by repeat (first | (with_reducible first | exact HB.out | apply below_alloc | apply pw_below_drewN | apply below_drew1) | exact HB.out)) hb); clear HO_11; clear HO802; clear HB; have HO_11 := n0_; have HO802 := n1_; have HB := n2_; clear n0_ n1_ n2_; (try clear hb); (try clear hb2); (try clear hk); (try clear hi)) | ((with_reducible refine gate_callee (f := 67) rfl ?_); refine goesL_ (some 84) rfl rfl Try.func67 (by kernel_rfl) rfl #[.slice Ao34 x11_1.length co34, .slice Ao35 t799.length co35] rfl (by (try simp only [List.map_toArray, List.map_cons, List.map_nil]); first | done | rfl | (simp only [List.length_drop, List.length_take]; rfl)) ?_; (with_reducible refine (dict_Pick.calls _ _ x11_1 _ _ t799 t804 t805 _ ?side1 ?side2 ?side3 ?side4 A32.out).mono ?_); (case side1 => repeat (first | exact (Kd.R_reads' HO_11.out).2.2 | (with_reducible refine Kd.C_alloc ?_ _) | (with_reducible refine Kd.C_drewN ?_ _) | (with_reducible refine Kd.C_drew ?_))); (case side2 => exact (Kd.R_reads' HO_11.out).2.1); (case side3 => repeat (first | exact (Kd.R_reads' HO802.out).2.2 | (with_reducible refine Kd.C_alloc ?_ _) | (with_reducible refine Kd.C_drewN ?_ _) | (with_reducible refine Kd.C_drew ?_))); (case side4 => exact (Kd.R_reads' HO802.out).2.1); rintro e w37 ⟨v806, rfl, ho0, hb⟩; refine ⟨_, rfl, ?_⟩; have n0_ := Aside0.mk (Kd.R_elder' (by (with_reducible repeat (first | apply Kd.R_alloc | apply Kd.R_drewN | apply Kd.R_drew)); exact HO_11.out) (Kd.R_base ho0) hb); have n1_ := Aside0.mk (Kd.R_below (by (with_reducible repeat (first | apply Kd.R_alloc | apply Kd.R_drewN | apply Kd.R_drew)); exact HO802.out) hb); have n2_ := Aside0.mk (Kd.R_lower (Kd.R_new' ho0 (Kd.R_lt (by (with_reducible repeat (first | apply Kd.R_alloc | apply Kd.R_drewN | apply Kd.R_drew)); exact HO_11.out))) (below_size (by repeat (first | (with_reducible first | exact HB.out | apply below_alloc | apply pw_below_drewN | apply below_drew1) | exact HB.out)))); have n3_ := Aside0.mk (below_step (by repeat (first | (with_reducible first | exact HB.out | apply below_alloc | apply pw_below_drewN | apply below_drew1) | exact HB.out)) hb); clear HO_11; clear HO802; clear HB; have HO_11 := n0_; have HO802 := n1_; have HO807 := n2_; have HB := n3_; clear n0_ n1_ n2_ n3_; (try clear hb); (try clear hb2); (try clear hk); (try clear hi); (try clear ho0)))
                        go_ret2
                        exact ⟨_, by first | rfl | (simp [errW_none, errW_some] <;> rfl) | (simp [*, errW_none, errW_some] <;> rfl), by (with_reducible repeat (first | apply Kd.R_alloc | apply Kd.R_drewN | apply Kd.R_drew)); exact Kd.R_mono HO807.out (fun _ hk => trivial), by repeat (first | (with_reducible first | exact HB.out | apply below_alloc | apply pw_below_drewN | apply below_drew1) | exact HB.out)⟩
                      · replace c31 := Bool.eq_false_iff.mpr c31
                        subst c31
                        have H1 : (some (([] : List ByteArray), 5)) = some (r1, r2) := by rw [if_neg (show ¬ (false = true) by decide)] at H; exact H
                        clear H
                        have H := H1
                        clear H1
                        simp only [Option.some.injEq, Prod.mk.injEq] at H
                        obtain ⟨rfl, rfl⟩ := H
                        go_wp2_with (first | ((with_reducible refine gate_callee (f := 49) rfl ?_); refine goesL_ (some 71) rfl rfl Try.func49 (by kernel_rfl) rfl #[.string (a0.extract (x12_1 : Int).toNat a0.size), .int .i64 a1] rfl (by (try simp only [List.map_toArray, List.map_cons, List.map_nil]); first | done | rfl | (simp only [List.length_drop, List.length_take]; rfl)) ?_; (with_reducible refine (runs_Decode.calls k1 (a0.extract (x12_1 : Int).toNat a0.size) a1 t799 t800 _ A28.out).mono ?_); rintro e w38 ⟨v801, rfl, ho0, hb⟩; refine ⟨_, rfl, ?_⟩; have n0_ := Aside0.mk (Kd.R_below (by (with_reducible repeat (first | apply Kd.R_alloc | apply Kd.R_drewN | apply Kd.R_drew)); exact HO_11.out) hb); have n1_ := Aside0.mk (Kd.R_lower ho0 (below_size (by repeat (first | (with_reducible first | exact HB.out | apply below_alloc | apply pw_below_drewN | apply below_drew1) | exact HB.out)))); have n2_ := Aside0.mk (below_step (by repeat (first | (with_reducible first | exact HB.out | apply below_alloc | apply pw_below_drewN | apply below_drew1) | exact HB.out)) hb); clear HO_11; clear HB; have HO_11 := n0_; have HO802 := n1_; have HB := n2_; clear n0_ n1_ n2_; (try clear hb); (try clear hb2); (try clear hk); (try clear hi); (try clear ho0); obtain ⟨Ao39, co39, eo39⟩ := Kd.R_slice HO_11.out; subst eo39; obtain ⟨Ao40, co40, eo40⟩ := Kd.R_slice HO802.out; subst eo40) | ((with_reducible refine gate_callee (f := 72) rfl ?_); refine goesL_ (some 79) rfl rfl Try.func72 (by kernel_rfl) rfl #[.slice Ao39 x11_1.length co39, .slice Ao40 t799.length co40] rfl (by (try simp only [List.map_toArray, List.map_cons, List.map_nil]); first | done | rfl | (simp only [List.length_drop, List.length_take]; rfl)) ?_; (with_reducible refine (dict_May.calls _ _ x11_1 _ _ t799 false _ ?side1 ?side2 ?side3 ?side4 A30.out).mono ?_); (case side1 => repeat (first | exact (Kd.R_reads' HO_11.out).2.2 | (with_reducible refine Kd.C_alloc ?_ _) | (with_reducible refine Kd.C_drewN ?_ _) | (with_reducible refine Kd.C_drew ?_))); (case side2 => exact (Kd.R_reads' HO_11.out).2.1); (case side3 => repeat (first | exact (Kd.R_reads' HO802.out).2.2 | (with_reducible refine Kd.C_alloc ?_ _) | (with_reducible refine Kd.C_drewN ?_ _) | (with_reducible refine Kd.C_drew ?_))); (case side4 => exact (Kd.R_reads' HO802.out).2.1); rintro e w41 ⟨rfl, hb⟩; refine ⟨_, rfl, ?_⟩; have n0_ := Aside0.mk (Kd.R_below (by (with_reducible repeat (first | apply Kd.R_alloc | apply Kd.R_drewN | apply Kd.R_drew)); exact HO_11.out) hb); have n1_ := Aside0.mk (Kd.R_below (by (with_reducible repeat (first | apply Kd.R_alloc | apply Kd.R_drewN | apply Kd.R_drew)); exact HO802.out) hb); have n2_ := Aside0.mk (below_step (by repeat (first | (with_reducible first | exact HB.out | apply below_alloc | apply pw_below_drewN | apply below_drew1) | exact HB.out)) hb); clear HO_11; clear HO802; clear HB; have HO_11 := n0_; have HO802 := n1_; have HB := n2_; clear n0_ n1_ n2_; (try clear hb); (try clear hb2); (try clear hk); (try clear hi)))
                        go_ret2
                        exact ⟨_, by first | rfl | (simp [errW_none, errW_some] <;> rfl) | (simp [*, errW_none, errW_some] <;> rfl), by first | exact Kd.R_nil _ _ _ _ _ | exact Kd.N_nil _ _ _ _ _ | exact Kd.V_nil _ _ _ _ _ | exact Kd.Q_nil _ _ _ _ _ | exact Kd.S_nil _ _ _ _ _, by repeat (first | (with_reducible first | exact HB.out | apply below_alloc | apply pw_below_drewN | apply below_drew1) | exact HB.out)⟩
                    · rw [if_neg c29] at H
                      have c29b0 : (t800 == 0) = false := beq_eq_false_iff_ne.mpr c29
                      have c29b1 : (t800 != 0) = true := bne_iff_ne.mpr c29
                      simp only [Option.some.injEq, Prod.mk.injEq] at H
                      obtain ⟨rfl, rfl⟩ := H
                      go_wp2_with (first | ((with_reducible refine gate_callee (f := 49) rfl ?_); refine goesL_ (some 71) rfl rfl Try.func49 (by kernel_rfl) rfl #[.string (a0.extract (x12_1 : Int).toNat a0.size), .int .i64 a1] rfl (by (try simp only [List.map_toArray, List.map_cons, List.map_nil]); first | done | rfl | (simp only [List.length_drop, List.length_take]; rfl)) ?_; (with_reducible refine (runs_Decode.calls k1 (a0.extract (x12_1 : Int).toNat a0.size) a1 t799 t800 _ A28.out).mono ?_); rintro e w42 ⟨v801, rfl, ho0, hb⟩; refine ⟨_, rfl, ?_⟩; have n0_ := Aside0.mk (Kd.R_below (by (with_reducible repeat (first | apply Kd.R_alloc | apply Kd.R_drewN | apply Kd.R_drew)); exact HO_11.out) hb); have n1_ := Aside0.mk (Kd.R_lower ho0 (below_size (by repeat (first | (with_reducible first | exact HB.out | apply below_alloc | apply pw_below_drewN | apply below_drew1) | exact HB.out)))); have n2_ := Aside0.mk (below_step (by repeat (first | (with_reducible first | exact HB.out | apply below_alloc | apply pw_below_drewN | apply below_drew1) | exact HB.out)) hb); clear HO_11; clear HB; have HO_11 := n0_; have HO802 := n1_; have HB := n2_; clear n0_ n1_ n2_; (try clear hb); (try clear hb2); (try clear hk); (try clear hi); (try clear ho0)))
                      go_ret2
                      exact ⟨_, by first | rfl | (simp [errW_none, errW_some] <;> rfl) | (simp [*, errW_none, errW_some] <;> rfl), by first | exact Kd.R_nil _ _ _ _ _ | exact Kd.N_nil _ _ _ _ _ | exact Kd.V_nil _ _ _ _ _ | exact Kd.Q_nil _ _ _ _ _ | exact Kd.S_nil _ _ _ _ _, by repeat (first | (with_reducible first | exact HB.out | apply below_alloc | apply pw_below_drewN | apply below_drew1) | exact HB.out)⟩
                  · rw [if_neg c27] at H
                    exact absurd H (by simp)
                · rw [if_neg c26] at H
                  exact absurd H (by simp)
      · rw [if_neg c9] at H
        have c9b0 : (t787 == 0) = false := beq_eq_false_iff_ne.mpr c9
        have c9b1 : (t787 != 0) = true := bne_iff_ne.mpr c9
        simp only [Option.some.injEq, Prod.mk.injEq] at H
        obtain ⟨rfl, rfl⟩ := H
        go_enter Try.func74, Try.ntmps74
        go_wp2_with (first | ((with_reducible refine gate_callee (f := 80) rfl ?_); refine goesL_ (some 27) rfl rfl Try.func80 (by kernel_rfl) rfl #[.string a0] rfl (by (try simp only [List.map_toArray, List.map_cons, List.map_nil]); first | done | rfl | (simp only [List.length_drop, List.length_take]; rfl)) ?_; (with_reducible refine (pack_New.calls a0 t781 t782 w _ ?side1 A6.out).mono ?_); (case side1 => repeat (first | (with_reducible first | exact HB.out | apply below_alloc | apply pw_below_drewN | apply below_drew1) | exact HB.out)); rintro e w43 ⟨g783, rfl, hi, hb, hb2⟩; refine ⟨_, rfl, ?_⟩; have n0_ := Aside0.mk (hb); have n1_ := Aside0.mk (hi); clear HB; have HB := n0_; have HI783 := n1_; clear n0_ n1_; (try clear hb); (try clear hb2); (try clear hk); (try clear hi)) | ((with_reducible refine gate_callee (f := 81) rfl ?_); refine goesL_ (some 29) rfl rfl Try.func81 (by kernel_rfl) rfl #[.pointer (some ⟨g783, 0, none⟩)] rfl (by (try simp only [List.map_toArray, List.map_cons, List.map_nil]); first | done | rfl | (simp only [List.length_drop, List.length_take]; rfl)) ?_; (with_reducible refine (pack_Reader_Num.calls g783 t781 t782 t784 t785 t786 w _ ?side1 ?side2 A7.out).mono ?_); (case side1 => repeat (first | (with_reducible first | exact HI783.out | apply IsS120.alloc | apply IsS120.drewN | apply IsS120.drew | apply IsS120.set_0 | apply IsS120.set_1) | exact HI783.out)); (case side2 => repeat (first | (with_reducible first | exact HB.out | apply below_alloc | apply pw_below_drewN | apply below_drew1 | refine below_set ?_ (IsS120.ge HI783.out)) | exact HB.out)); rintro e w44 ⟨rfl, hi, hb, hk⟩; refine ⟨_, rfl, ?_⟩; have n0_ := Aside0.mk (hb); have n1_ := Aside0.mk (hi); clear HB; clear HI783; have HB := n0_; have HI783 := n1_; clear n0_ n1_; (try clear hb); (try clear hb2); (try clear hk); (try clear hi)) | ((with_reducible refine gate_callee (f := 82) rfl ?_); refine goesL_ (some 31) rfl rfl Try.func82 (by kernel_rfl) rfl #[.pointer (some ⟨g783, 0, none⟩)] rfl (by (try simp only [List.map_toArray, List.map_cons, List.map_nil]); first | done | rfl | (simp only [List.length_drop, List.length_take]; rfl)) ?_; (with_reducible refine (pack_Reader_Err.calls g783 t785 t786 t787 t788 t789 w _ ?side1 ?side2 A8.out).mono ?_); (case side1 => repeat (first | (with_reducible first | exact HI783.out | apply IsS120.alloc | apply IsS120.drewN | apply IsS120.drew | apply IsS120.set_0 | apply IsS120.set_1) | exact HI783.out)); (case side2 => repeat (first | (with_reducible first | exact HB.out | apply below_alloc | apply pw_below_drewN | apply below_drew1 | refine below_set ?_ (IsS120.ge HI783.out)) | exact HB.out)); rintro e w45 ⟨rfl, hi, hb, hk⟩; refine ⟨_, rfl, ?_⟩; have n0_ := Aside0.mk (hb); have n1_ := Aside0.mk (hi); clear HB; clear HI783; have HB := n0_; have HI783 := n1_; clear n0_ n1_; (try clear hb); (try clear hb2); (try clear hk); (try clear hi)))
        go_ret2
        exact ⟨_, by first | rfl | (simp [errW_none, errW_some] <;> rfl) | (simp [*, errW_none, errW_some] <;> rfl), by first | exact Kd.R_nil _ _ _ _ _ | exact Kd.N_nil _ _ _ _ _ | exact Kd.V_nil _ _ _ _ _ | exact Kd.Q_nil _ _ _ _ _ | exact Kd.S_nil _ _ _ _ _, by repeat (first | (with_reducible first | exact HB.out | apply below_alloc | apply pw_below_drewN | apply below_drew1 | refine below_set ?_ (IsS120.ge HI783.out)) | exact HB.out)⟩
def bonsailaw08_live.f (k : Nat)  : Option (Bool) := (some (([(⟨#[98]⟩ : ByteArray), (⟨#[97]⟩ : ByteArray), (⟨#[98]⟩ : ByteArray)] : List ByteArray) : List ByteArray)).bind fun y808 => ((dict_Words.f y808).bind fun bt811 => ((dict_Encode.f k y808).bind fun t817 => ((dict_Decode.f k t817 3 9).bind fun bt818 => ((dict_Decode.f k t817 2 9).bind fun bt822 => ((dict_Decode.f k t817 3 0).bind fun bt826 => ((dict_Decode.f k (⟨#[1, 1, 97, 1, 1]⟩ : ByteArray) 1 9).bind fun bt830 => ((dict_Decode.f k (⟨#[2, 1, 97, 1, 97, 0, 1, 1, 1]⟩ : ByteArray) 2 9).bind fun bt834 => ((dict_Pick.f bt811.1 (([1, 1] : List Int))).bind fun bt841 => ((dict_Pick.f bt811.1 (([2] : List Int))).bind fun bt848 => ((bonsairef04_Same.f k bt811.1 (([(⟨#[98]⟩ : ByteArray), (⟨#[97]⟩ : ByteArray)] : List ByteArray))).bind fun t855 => (if t855 = true then ((bonsairef06_Same.f k bt811.2 (([0, 1, 0] : List Int))).bind fun t859 => (if t859 = true then (if t817.toList = ([2, 1, 98, 1, 97, 0, 1, 1, 1, 0, 1] : List UInt8) then ((bonsairef04_Same.f k bt818.1 y808).bind fun t860 => (if t860 = true then (if bt818.2 = 0 then (if bt822.2 = 5 then (if bt826.2 = 10 then (if bt830.2 = 5 then (if bt834.2 = 5 then ((bonsairef04_Same.f k bt841.1 (([(⟨#[97]⟩ : ByteArray), (⟨#[97]⟩ : ByteArray)] : List ByteArray))).bind fun t864 => (if t864 = true then (if bt841.2 = true then (if bt848.2 = true then (none) else ((dict_May.f bt811.1 bt811.2).bind fun t865 => (if t865 = true then ((dict_May.f bt811.1 (([1, 0] : List Int))).bind fun t869 => (some (!t869))) else (none)))) else (none)) else (none))) else (none)) else (none)) else (none)) else (none)) else (none)) else (none))) else (none)) else (none))) else (none))))))))))))
theorem bonsailaw08_live.mono : ∀ k, LeO (bonsailaw08_live.f k ) (bonsailaw08_live.f (k + 1) ) := by
  intro  k
  unfold bonsailaw08_live.f
  repeat' first
      | (with_reducible exact bonsairef04_Same.mono _ _ _)
      | (with_reducible exact bonsairef06_Same.mono _ _ _)
      | (with_reducible exact dict_Decode.mono _ _ _ _)
      | (with_reducible exact dict_Encode.mono _ _)
      | (with_reducible exact LeO.refl _)
      | (with_reducible exact LeO.none _)
      | (with_reducible refine LeO.ite ?_ ?_)
      | (with_reducible refine LeO.bind ?_ (fun _ => ?_))
      | exact bonsairef04_Same.mono _ _ _
      | exact bonsairef06_Same.mono _ _ _
      | exact dict_Decode.mono _ _ _ _
      | exact dict_Encode.mono _ _
      | exact LeO.none _
      | refine LeO.ite ?_ ?_
      | refine LeO.bind ?_ (fun _ => ?_)
set_option maxHeartbeats 8000000 in
set_option maxRecDepth 100000 in
theorem bonsailaw08_live.calls (k : Nat)  (r : Bool) (w : World) (h : bonsailaw08_live.f k  = some r) :
    Calls Try.prog 64 #[] w fun e w' => e = .returned (.bool r) ∧ Below w.heap.size w w' := by
  have HB := Aside0.mk (Below.refl w.heap.size w)
  have H : ((some (([(⟨#[98]⟩ : ByteArray), (⟨#[97]⟩ : ByteArray), (⟨#[98]⟩ : ByteArray)] : List ByteArray) : List ByteArray)).bind fun y808 => ((dict_Words.f y808).bind fun bt811 => ((dict_Encode.f k y808).bind fun t817 => ((dict_Decode.f k t817 3 9).bind fun bt818 => ((dict_Decode.f k t817 2 9).bind fun bt822 => ((dict_Decode.f k t817 3 0).bind fun bt826 => ((dict_Decode.f k (⟨#[1, 1, 97, 1, 1]⟩ : ByteArray) 1 9).bind fun bt830 => ((dict_Decode.f k (⟨#[2, 1, 97, 1, 97, 0, 1, 1, 1]⟩ : ByteArray) 2 9).bind fun bt834 => ((dict_Pick.f bt811.1 (([1, 1] : List Int))).bind fun bt841 => ((dict_Pick.f bt811.1 (([2] : List Int))).bind fun bt848 => ((bonsairef04_Same.f k bt811.1 (([(⟨#[98]⟩ : ByteArray), (⟨#[97]⟩ : ByteArray)] : List ByteArray))).bind fun t855 => (if t855 = true then ((bonsairef06_Same.f k bt811.2 (([0, 1, 0] : List Int))).bind fun t859 => (if t859 = true then (if t817.toList = ([2, 1, 98, 1, 97, 0, 1, 1, 1, 0, 1] : List UInt8) then ((bonsairef04_Same.f k bt818.1 y808).bind fun t860 => (if t860 = true then (if bt818.2 = 0 then (if bt822.2 = 5 then (if bt826.2 = 10 then (if bt830.2 = 5 then (if bt834.2 = 5 then ((bonsairef04_Same.f k bt841.1 (([(⟨#[97]⟩ : ByteArray), (⟨#[97]⟩ : ByteArray)] : List ByteArray))).bind fun t864 => (if t864 = true then (if bt841.2 = true then (if bt848.2 = true then (none) else ((dict_May.f bt811.1 bt811.2).bind fun t865 => (if t865 = true then ((dict_May.f bt811.1 (([1, 0] : List Int))).bind fun t869 => (some (!t869))) else (none)))) else (none)) else (none))) else (none)) else (none)) else (none)) else (none)) else (none)) else (none))) else (none)) else (none))) else (none))))))))))))) = some r := h
  clear h
  obtain ⟨y808, hy808⟩ : ∃ y_ : List ByteArray, y_ = (([(⟨#[98]⟩ : ByteArray), (⟨#[97]⟩ : ByteArray), (⟨#[98]⟩ : ByteArray)] : List ByteArray)) := ⟨_, rfl⟩
  replace H : ((dict_Words.f y808).bind fun bt811 => ((dict_Encode.f k y808).bind fun t817 => ((dict_Decode.f k t817 3 9).bind fun bt818 => ((dict_Decode.f k t817 2 9).bind fun bt822 => ((dict_Decode.f k t817 3 0).bind fun bt826 => ((dict_Decode.f k (⟨#[1, 1, 97, 1, 1]⟩ : ByteArray) 1 9).bind fun bt830 => ((dict_Decode.f k (⟨#[2, 1, 97, 1, 97, 0, 1, 1, 1]⟩ : ByteArray) 2 9).bind fun bt834 => ((dict_Pick.f bt811.1 (([1, 1] : List Int))).bind fun bt841 => ((dict_Pick.f bt811.1 (([2] : List Int))).bind fun bt848 => ((bonsairef04_Same.f k bt811.1 (([(⟨#[98]⟩ : ByteArray), (⟨#[97]⟩ : ByteArray)] : List ByteArray))).bind fun t855 => (if t855 = true then ((bonsairef06_Same.f k bt811.2 (([0, 1, 0] : List Int))).bind fun t859 => (if t859 = true then (if t817.toList = ([2, 1, 98, 1, 97, 0, 1, 1, 1, 0, 1] : List UInt8) then ((bonsairef04_Same.f k bt818.1 y808).bind fun t860 => (if t860 = true then (if bt818.2 = 0 then (if bt822.2 = 5 then (if bt826.2 = 10 then (if bt830.2 = 5 then (if bt834.2 = 5 then ((bonsairef04_Same.f k bt841.1 (([(⟨#[97]⟩ : ByteArray), (⟨#[97]⟩ : ByteArray)] : List ByteArray))).bind fun t864 => (if t864 = true then (if bt841.2 = true then (if bt848.2 = true then (none) else ((dict_May.f bt811.1 bt811.2).bind fun t865 => (if t865 = true then ((dict_May.f bt811.1 (([1, 0] : List Int))).bind fun t869 => (some (!t869))) else (none)))) else (none)) else (none))) else (none)) else (none)) else (none)) else (none)) else (none)) else (none))) else (none)) else (none))) else (none)))))))))))) = some r := by first | (rw [hy808]; with_reducible exact H) | (have H2_ := (Option.bind_some _ _).symm.trans H; rw [hy808]; with_reducible exact H2_) | (have H2_ := (Option.bind_some _ _).symm.trans H; with_reducible exact H2_) | with_reducible exact H | (rw [hy808]; exact H) | exact H
  have Ny808 := Aside0.mk hy808
  clear hy808
  replace H := Option.bind_eq_some_iff.mp H
  obtain ⟨⟨t811, t812⟩, A10, H⟩ := H
  replace H : ((dict_Encode.f k y808).bind fun t817 => ((dict_Decode.f k t817 3 9).bind fun bt818 => ((dict_Decode.f k t817 2 9).bind fun bt822 => ((dict_Decode.f k t817 3 0).bind fun bt826 => ((dict_Decode.f k (⟨#[1, 1, 97, 1, 1]⟩ : ByteArray) 1 9).bind fun bt830 => ((dict_Decode.f k (⟨#[2, 1, 97, 1, 97, 0, 1, 1, 1]⟩ : ByteArray) 2 9).bind fun bt834 => ((dict_Pick.f t811 (([1, 1] : List Int))).bind fun bt841 => ((dict_Pick.f t811 (([2] : List Int))).bind fun bt848 => ((bonsairef04_Same.f k t811 (([(⟨#[98]⟩ : ByteArray), (⟨#[97]⟩ : ByteArray)] : List ByteArray))).bind fun t855 => (if t855 = true then ((bonsairef06_Same.f k t812 (([0, 1, 0] : List Int))).bind fun t859 => (if t859 = true then (if t817.toList = ([2, 1, 98, 1, 97, 0, 1, 1, 1, 0, 1] : List UInt8) then ((bonsairef04_Same.f k bt818.1 y808).bind fun t860 => (if t860 = true then (if bt818.2 = 0 then (if bt822.2 = 5 then (if bt826.2 = 10 then (if bt830.2 = 5 then (if bt834.2 = 5 then ((bonsairef04_Same.f k bt841.1 (([(⟨#[97]⟩ : ByteArray), (⟨#[97]⟩ : ByteArray)] : List ByteArray))).bind fun t864 => (if t864 = true then (if bt841.2 = true then (if bt848.2 = true then (none) else ((dict_May.f t811 t812).bind fun t865 => (if t865 = true then ((dict_May.f t811 (([1, 0] : List Int))).bind fun t869 => (some (!t869))) else (none)))) else (none)) else (none))) else (none)) else (none)) else (none)) else (none)) else (none)) else (none))) else (none)) else (none))) else (none))))))))))) = some r := H
  have A1 := Aside0.mk A10
  clear A10
  replace H := Option.bind_eq_some_iff.mp H
  obtain ⟨t817, A20, H⟩ := H
  replace H : ((dict_Decode.f k t817 3 9).bind fun bt818 => ((dict_Decode.f k t817 2 9).bind fun bt822 => ((dict_Decode.f k t817 3 0).bind fun bt826 => ((dict_Decode.f k (⟨#[1, 1, 97, 1, 1]⟩ : ByteArray) 1 9).bind fun bt830 => ((dict_Decode.f k (⟨#[2, 1, 97, 1, 97, 0, 1, 1, 1]⟩ : ByteArray) 2 9).bind fun bt834 => ((dict_Pick.f t811 (([1, 1] : List Int))).bind fun bt841 => ((dict_Pick.f t811 (([2] : List Int))).bind fun bt848 => ((bonsairef04_Same.f k t811 (([(⟨#[98]⟩ : ByteArray), (⟨#[97]⟩ : ByteArray)] : List ByteArray))).bind fun t855 => (if t855 = true then ((bonsairef06_Same.f k t812 (([0, 1, 0] : List Int))).bind fun t859 => (if t859 = true then (if t817.toList = ([2, 1, 98, 1, 97, 0, 1, 1, 1, 0, 1] : List UInt8) then ((bonsairef04_Same.f k bt818.1 y808).bind fun t860 => (if t860 = true then (if bt818.2 = 0 then (if bt822.2 = 5 then (if bt826.2 = 10 then (if bt830.2 = 5 then (if bt834.2 = 5 then ((bonsairef04_Same.f k bt841.1 (([(⟨#[97]⟩ : ByteArray), (⟨#[97]⟩ : ByteArray)] : List ByteArray))).bind fun t864 => (if t864 = true then (if bt841.2 = true then (if bt848.2 = true then (none) else ((dict_May.f t811 t812).bind fun t865 => (if t865 = true then ((dict_May.f t811 (([1, 0] : List Int))).bind fun t869 => (some (!t869))) else (none)))) else (none)) else (none))) else (none)) else (none)) else (none)) else (none)) else (none)) else (none))) else (none)) else (none))) else (none)))))))))) = some r := H
  have A2 := Aside0.mk A20
  clear A20
  replace H := Option.bind_eq_some_iff.mp H
  obtain ⟨⟨t818, t819⟩, A30, H⟩ := H
  replace H : ((dict_Decode.f k t817 2 9).bind fun bt822 => ((dict_Decode.f k t817 3 0).bind fun bt826 => ((dict_Decode.f k (⟨#[1, 1, 97, 1, 1]⟩ : ByteArray) 1 9).bind fun bt830 => ((dict_Decode.f k (⟨#[2, 1, 97, 1, 97, 0, 1, 1, 1]⟩ : ByteArray) 2 9).bind fun bt834 => ((dict_Pick.f t811 (([1, 1] : List Int))).bind fun bt841 => ((dict_Pick.f t811 (([2] : List Int))).bind fun bt848 => ((bonsairef04_Same.f k t811 (([(⟨#[98]⟩ : ByteArray), (⟨#[97]⟩ : ByteArray)] : List ByteArray))).bind fun t855 => (if t855 = true then ((bonsairef06_Same.f k t812 (([0, 1, 0] : List Int))).bind fun t859 => (if t859 = true then (if t817.toList = ([2, 1, 98, 1, 97, 0, 1, 1, 1, 0, 1] : List UInt8) then ((bonsairef04_Same.f k t818 y808).bind fun t860 => (if t860 = true then (if t819 = 0 then (if bt822.2 = 5 then (if bt826.2 = 10 then (if bt830.2 = 5 then (if bt834.2 = 5 then ((bonsairef04_Same.f k bt841.1 (([(⟨#[97]⟩ : ByteArray), (⟨#[97]⟩ : ByteArray)] : List ByteArray))).bind fun t864 => (if t864 = true then (if bt841.2 = true then (if bt848.2 = true then (none) else ((dict_May.f t811 t812).bind fun t865 => (if t865 = true then ((dict_May.f t811 (([1, 0] : List Int))).bind fun t869 => (some (!t869))) else (none)))) else (none)) else (none))) else (none)) else (none)) else (none)) else (none)) else (none)) else (none))) else (none)) else (none))) else (none))))))))) = some r := H
  have A3 := Aside0.mk A30
  clear A30
  replace H := Option.bind_eq_some_iff.mp H
  obtain ⟨⟨t822, t823⟩, A40, H⟩ := H
  replace H : ((dict_Decode.f k t817 3 0).bind fun bt826 => ((dict_Decode.f k (⟨#[1, 1, 97, 1, 1]⟩ : ByteArray) 1 9).bind fun bt830 => ((dict_Decode.f k (⟨#[2, 1, 97, 1, 97, 0, 1, 1, 1]⟩ : ByteArray) 2 9).bind fun bt834 => ((dict_Pick.f t811 (([1, 1] : List Int))).bind fun bt841 => ((dict_Pick.f t811 (([2] : List Int))).bind fun bt848 => ((bonsairef04_Same.f k t811 (([(⟨#[98]⟩ : ByteArray), (⟨#[97]⟩ : ByteArray)] : List ByteArray))).bind fun t855 => (if t855 = true then ((bonsairef06_Same.f k t812 (([0, 1, 0] : List Int))).bind fun t859 => (if t859 = true then (if t817.toList = ([2, 1, 98, 1, 97, 0, 1, 1, 1, 0, 1] : List UInt8) then ((bonsairef04_Same.f k t818 y808).bind fun t860 => (if t860 = true then (if t819 = 0 then (if t823 = 5 then (if bt826.2 = 10 then (if bt830.2 = 5 then (if bt834.2 = 5 then ((bonsairef04_Same.f k bt841.1 (([(⟨#[97]⟩ : ByteArray), (⟨#[97]⟩ : ByteArray)] : List ByteArray))).bind fun t864 => (if t864 = true then (if bt841.2 = true then (if bt848.2 = true then (none) else ((dict_May.f t811 t812).bind fun t865 => (if t865 = true then ((dict_May.f t811 (([1, 0] : List Int))).bind fun t869 => (some (!t869))) else (none)))) else (none)) else (none))) else (none)) else (none)) else (none)) else (none)) else (none)) else (none))) else (none)) else (none))) else (none)))))))) = some r := H
  have A4 := Aside0.mk A40
  clear A40
  replace H := Option.bind_eq_some_iff.mp H
  obtain ⟨⟨t826, t827⟩, A50, H⟩ := H
  replace H : ((dict_Decode.f k (⟨#[1, 1, 97, 1, 1]⟩ : ByteArray) 1 9).bind fun bt830 => ((dict_Decode.f k (⟨#[2, 1, 97, 1, 97, 0, 1, 1, 1]⟩ : ByteArray) 2 9).bind fun bt834 => ((dict_Pick.f t811 (([1, 1] : List Int))).bind fun bt841 => ((dict_Pick.f t811 (([2] : List Int))).bind fun bt848 => ((bonsairef04_Same.f k t811 (([(⟨#[98]⟩ : ByteArray), (⟨#[97]⟩ : ByteArray)] : List ByteArray))).bind fun t855 => (if t855 = true then ((bonsairef06_Same.f k t812 (([0, 1, 0] : List Int))).bind fun t859 => (if t859 = true then (if t817.toList = ([2, 1, 98, 1, 97, 0, 1, 1, 1, 0, 1] : List UInt8) then ((bonsairef04_Same.f k t818 y808).bind fun t860 => (if t860 = true then (if t819 = 0 then (if t823 = 5 then (if t827 = 10 then (if bt830.2 = 5 then (if bt834.2 = 5 then ((bonsairef04_Same.f k bt841.1 (([(⟨#[97]⟩ : ByteArray), (⟨#[97]⟩ : ByteArray)] : List ByteArray))).bind fun t864 => (if t864 = true then (if bt841.2 = true then (if bt848.2 = true then (none) else ((dict_May.f t811 t812).bind fun t865 => (if t865 = true then ((dict_May.f t811 (([1, 0] : List Int))).bind fun t869 => (some (!t869))) else (none)))) else (none)) else (none))) else (none)) else (none)) else (none)) else (none)) else (none)) else (none))) else (none)) else (none))) else (none))))))) = some r := H
  have A5 := Aside0.mk A50
  clear A50
  replace H := Option.bind_eq_some_iff.mp H
  obtain ⟨⟨t830, t831⟩, A60, H⟩ := H
  replace H : ((dict_Decode.f k (⟨#[2, 1, 97, 1, 97, 0, 1, 1, 1]⟩ : ByteArray) 2 9).bind fun bt834 => ((dict_Pick.f t811 (([1, 1] : List Int))).bind fun bt841 => ((dict_Pick.f t811 (([2] : List Int))).bind fun bt848 => ((bonsairef04_Same.f k t811 (([(⟨#[98]⟩ : ByteArray), (⟨#[97]⟩ : ByteArray)] : List ByteArray))).bind fun t855 => (if t855 = true then ((bonsairef06_Same.f k t812 (([0, 1, 0] : List Int))).bind fun t859 => (if t859 = true then (if t817.toList = ([2, 1, 98, 1, 97, 0, 1, 1, 1, 0, 1] : List UInt8) then ((bonsairef04_Same.f k t818 y808).bind fun t860 => (if t860 = true then (if t819 = 0 then (if t823 = 5 then (if t827 = 10 then (if t831 = 5 then (if bt834.2 = 5 then ((bonsairef04_Same.f k bt841.1 (([(⟨#[97]⟩ : ByteArray), (⟨#[97]⟩ : ByteArray)] : List ByteArray))).bind fun t864 => (if t864 = true then (if bt841.2 = true then (if bt848.2 = true then (none) else ((dict_May.f t811 t812).bind fun t865 => (if t865 = true then ((dict_May.f t811 (([1, 0] : List Int))).bind fun t869 => (some (!t869))) else (none)))) else (none)) else (none))) else (none)) else (none)) else (none)) else (none)) else (none)) else (none))) else (none)) else (none))) else (none)))))) = some r := H
  have A6 := Aside0.mk A60
  clear A60
  replace H := Option.bind_eq_some_iff.mp H
  obtain ⟨⟨t834, t835⟩, A70, H⟩ := H
  replace H : ((dict_Pick.f t811 (([1, 1] : List Int))).bind fun bt841 => ((dict_Pick.f t811 (([2] : List Int))).bind fun bt848 => ((bonsairef04_Same.f k t811 (([(⟨#[98]⟩ : ByteArray), (⟨#[97]⟩ : ByteArray)] : List ByteArray))).bind fun t855 => (if t855 = true then ((bonsairef06_Same.f k t812 (([0, 1, 0] : List Int))).bind fun t859 => (if t859 = true then (if t817.toList = ([2, 1, 98, 1, 97, 0, 1, 1, 1, 0, 1] : List UInt8) then ((bonsairef04_Same.f k t818 y808).bind fun t860 => (if t860 = true then (if t819 = 0 then (if t823 = 5 then (if t827 = 10 then (if t831 = 5 then (if t835 = 5 then ((bonsairef04_Same.f k bt841.1 (([(⟨#[97]⟩ : ByteArray), (⟨#[97]⟩ : ByteArray)] : List ByteArray))).bind fun t864 => (if t864 = true then (if bt841.2 = true then (if bt848.2 = true then (none) else ((dict_May.f t811 t812).bind fun t865 => (if t865 = true then ((dict_May.f t811 (([1, 0] : List Int))).bind fun t869 => (some (!t869))) else (none)))) else (none)) else (none))) else (none)) else (none)) else (none)) else (none)) else (none)) else (none))) else (none)) else (none))) else (none))))) = some r := H
  have A7 := Aside0.mk A70
  clear A70
  obtain ⟨y838, hy838⟩ : ∃ y_ : List Int, y_ = (([1, 1] : List Int)) := ⟨_, rfl⟩
  replace H : ((dict_Pick.f t811 y838).bind fun bt841 => ((dict_Pick.f t811 (([2] : List Int))).bind fun bt848 => ((bonsairef04_Same.f k t811 (([(⟨#[98]⟩ : ByteArray), (⟨#[97]⟩ : ByteArray)] : List ByteArray))).bind fun t855 => (if t855 = true then ((bonsairef06_Same.f k t812 (([0, 1, 0] : List Int))).bind fun t859 => (if t859 = true then (if t817.toList = ([2, 1, 98, 1, 97, 0, 1, 1, 1, 0, 1] : List UInt8) then ((bonsairef04_Same.f k t818 y808).bind fun t860 => (if t860 = true then (if t819 = 0 then (if t823 = 5 then (if t827 = 10 then (if t831 = 5 then (if t835 = 5 then ((bonsairef04_Same.f k bt841.1 (([(⟨#[97]⟩ : ByteArray), (⟨#[97]⟩ : ByteArray)] : List ByteArray))).bind fun t864 => (if t864 = true then (if bt841.2 = true then (if bt848.2 = true then (none) else ((dict_May.f t811 t812).bind fun t865 => (if t865 = true then ((dict_May.f t811 (([1, 0] : List Int))).bind fun t869 => (some (!t869))) else (none)))) else (none)) else (none))) else (none)) else (none)) else (none)) else (none)) else (none)) else (none))) else (none)) else (none))) else (none))))) = some r := by first | (rw [hy838]; with_reducible exact H) | (have H2_ := (Option.bind_some _ _).symm.trans H; rw [hy838]; with_reducible exact H2_) | (have H2_ := (Option.bind_some _ _).symm.trans H; with_reducible exact H2_) | with_reducible exact H | (rw [hy838]; exact H) | exact H
  have Ny838 := Aside0.mk hy838
  clear hy838
  replace H := Option.bind_eq_some_iff.mp H
  obtain ⟨⟨t841, t842⟩, A80, H⟩ := H
  replace H : ((dict_Pick.f t811 (([2] : List Int))).bind fun bt848 => ((bonsairef04_Same.f k t811 (([(⟨#[98]⟩ : ByteArray), (⟨#[97]⟩ : ByteArray)] : List ByteArray))).bind fun t855 => (if t855 = true then ((bonsairef06_Same.f k t812 (([0, 1, 0] : List Int))).bind fun t859 => (if t859 = true then (if t817.toList = ([2, 1, 98, 1, 97, 0, 1, 1, 1, 0, 1] : List UInt8) then ((bonsairef04_Same.f k t818 y808).bind fun t860 => (if t860 = true then (if t819 = 0 then (if t823 = 5 then (if t827 = 10 then (if t831 = 5 then (if t835 = 5 then ((bonsairef04_Same.f k t841 (([(⟨#[97]⟩ : ByteArray), (⟨#[97]⟩ : ByteArray)] : List ByteArray))).bind fun t864 => (if t864 = true then (if t842 = true then (if bt848.2 = true then (none) else ((dict_May.f t811 t812).bind fun t865 => (if t865 = true then ((dict_May.f t811 (([1, 0] : List Int))).bind fun t869 => (some (!t869))) else (none)))) else (none)) else (none))) else (none)) else (none)) else (none)) else (none)) else (none)) else (none))) else (none)) else (none))) else (none)))) = some r := H
  have A8 := Aside0.mk A80
  clear A80
  obtain ⟨y845, hy845⟩ : ∃ y_ : List Int, y_ = (([2] : List Int)) := ⟨_, rfl⟩
  replace H : ((dict_Pick.f t811 y845).bind fun bt848 => ((bonsairef04_Same.f k t811 (([(⟨#[98]⟩ : ByteArray), (⟨#[97]⟩ : ByteArray)] : List ByteArray))).bind fun t855 => (if t855 = true then ((bonsairef06_Same.f k t812 (([0, 1, 0] : List Int))).bind fun t859 => (if t859 = true then (if t817.toList = ([2, 1, 98, 1, 97, 0, 1, 1, 1, 0, 1] : List UInt8) then ((bonsairef04_Same.f k t818 y808).bind fun t860 => (if t860 = true then (if t819 = 0 then (if t823 = 5 then (if t827 = 10 then (if t831 = 5 then (if t835 = 5 then ((bonsairef04_Same.f k t841 (([(⟨#[97]⟩ : ByteArray), (⟨#[97]⟩ : ByteArray)] : List ByteArray))).bind fun t864 => (if t864 = true then (if t842 = true then (if bt848.2 = true then (none) else ((dict_May.f t811 t812).bind fun t865 => (if t865 = true then ((dict_May.f t811 (([1, 0] : List Int))).bind fun t869 => (some (!t869))) else (none)))) else (none)) else (none))) else (none)) else (none)) else (none)) else (none)) else (none)) else (none))) else (none)) else (none))) else (none)))) = some r := by first | (rw [hy845]; with_reducible exact H) | (have H2_ := (Option.bind_some _ _).symm.trans H; rw [hy845]; with_reducible exact H2_) | (have H2_ := (Option.bind_some _ _).symm.trans H; with_reducible exact H2_) | with_reducible exact H | (rw [hy845]; exact H) | exact H
  have Ny845 := Aside0.mk hy845
  clear hy845
  replace H := Option.bind_eq_some_iff.mp H
  obtain ⟨⟨t848, t849⟩, A90, H⟩ := H
  replace H : ((bonsairef04_Same.f k t811 (([(⟨#[98]⟩ : ByteArray), (⟨#[97]⟩ : ByteArray)] : List ByteArray))).bind fun t855 => (if t855 = true then ((bonsairef06_Same.f k t812 (([0, 1, 0] : List Int))).bind fun t859 => (if t859 = true then (if t817.toList = ([2, 1, 98, 1, 97, 0, 1, 1, 1, 0, 1] : List UInt8) then ((bonsairef04_Same.f k t818 y808).bind fun t860 => (if t860 = true then (if t819 = 0 then (if t823 = 5 then (if t827 = 10 then (if t831 = 5 then (if t835 = 5 then ((bonsairef04_Same.f k t841 (([(⟨#[97]⟩ : ByteArray), (⟨#[97]⟩ : ByteArray)] : List ByteArray))).bind fun t864 => (if t864 = true then (if t842 = true then (if t849 = true then (none) else ((dict_May.f t811 t812).bind fun t865 => (if t865 = true then ((dict_May.f t811 (([1, 0] : List Int))).bind fun t869 => (some (!t869))) else (none)))) else (none)) else (none))) else (none)) else (none)) else (none)) else (none)) else (none)) else (none))) else (none)) else (none))) else (none))) = some r := H
  have A9 := Aside0.mk A90
  clear A90
  obtain ⟨y852, hy852⟩ : ∃ y_ : List ByteArray, y_ = (([(⟨#[98]⟩ : ByteArray), (⟨#[97]⟩ : ByteArray)] : List ByteArray)) := ⟨_, rfl⟩
  replace H : ((bonsairef04_Same.f k t811 y852).bind fun t855 => (if t855 = true then ((bonsairef06_Same.f k t812 (([0, 1, 0] : List Int))).bind fun t859 => (if t859 = true then (if t817.toList = ([2, 1, 98, 1, 97, 0, 1, 1, 1, 0, 1] : List UInt8) then ((bonsairef04_Same.f k t818 y808).bind fun t860 => (if t860 = true then (if t819 = 0 then (if t823 = 5 then (if t827 = 10 then (if t831 = 5 then (if t835 = 5 then ((bonsairef04_Same.f k t841 (([(⟨#[97]⟩ : ByteArray), (⟨#[97]⟩ : ByteArray)] : List ByteArray))).bind fun t864 => (if t864 = true then (if t842 = true then (if t849 = true then (none) else ((dict_May.f t811 t812).bind fun t865 => (if t865 = true then ((dict_May.f t811 (([1, 0] : List Int))).bind fun t869 => (some (!t869))) else (none)))) else (none)) else (none))) else (none)) else (none)) else (none)) else (none)) else (none)) else (none))) else (none)) else (none))) else (none))) = some r := by first | (rw [hy852]; with_reducible exact H) | (have H2_ := (Option.bind_some _ _).symm.trans H; rw [hy852]; with_reducible exact H2_) | (have H2_ := (Option.bind_some _ _).symm.trans H; with_reducible exact H2_) | with_reducible exact H | (rw [hy852]; exact H) | exact H
  have Ny852 := Aside0.mk hy852
  clear hy852
  replace H := Option.bind_eq_some_iff.mp H
  obtain ⟨t855, A100, H⟩ := H
  replace H : (if t855 = true then ((bonsairef06_Same.f k t812 (([0, 1, 0] : List Int))).bind fun t859 => (if t859 = true then (if t817.toList = ([2, 1, 98, 1, 97, 0, 1, 1, 1, 0, 1] : List UInt8) then ((bonsairef04_Same.f k t818 y808).bind fun t860 => (if t860 = true then (if t819 = 0 then (if t823 = 5 then (if t827 = 10 then (if t831 = 5 then (if t835 = 5 then ((bonsairef04_Same.f k t841 (([(⟨#[97]⟩ : ByteArray), (⟨#[97]⟩ : ByteArray)] : List ByteArray))).bind fun t864 => (if t864 = true then (if t842 = true then (if t849 = true then (none) else ((dict_May.f t811 t812).bind fun t865 => (if t865 = true then ((dict_May.f t811 (([1, 0] : List Int))).bind fun t869 => (some (!t869))) else (none)))) else (none)) else (none))) else (none)) else (none)) else (none)) else (none)) else (none)) else (none))) else (none)) else (none))) else (none)) = some r := H
  have A10 := Aside0.mk A100
  clear A100
  by_cases c11 : t855 = true
  · subst c11
    have H1 : ((bonsairef06_Same.f k t812 (([0, 1, 0] : List Int))).bind fun t859 => (if t859 = true then (if t817.toList = ([2, 1, 98, 1, 97, 0, 1, 1, 1, 0, 1] : List UInt8) then ((bonsairef04_Same.f k t818 y808).bind fun t860 => (if t860 = true then (if t819 = 0 then (if t823 = 5 then (if t827 = 10 then (if t831 = 5 then (if t835 = 5 then ((bonsairef04_Same.f k t841 (([(⟨#[97]⟩ : ByteArray), (⟨#[97]⟩ : ByteArray)] : List ByteArray))).bind fun t864 => (if t864 = true then (if t842 = true then (if t849 = true then (none) else ((dict_May.f t811 t812).bind fun t865 => (if t865 = true then ((dict_May.f t811 (([1, 0] : List Int))).bind fun t869 => (some (!t869))) else (none)))) else (none)) else (none))) else (none)) else (none)) else (none)) else (none)) else (none)) else (none))) else (none)) else (none))) = some r := by rw [if_pos rfl] at H; exact H
    clear H
    have H := H1
    clear H1
    obtain ⟨y856, hy856⟩ : ∃ y_ : List Int, y_ = (([0, 1, 0] : List Int)) := ⟨_, rfl⟩
    replace H : ((bonsairef06_Same.f k t812 y856).bind fun t859 => (if t859 = true then (if t817.toList = ([2, 1, 98, 1, 97, 0, 1, 1, 1, 0, 1] : List UInt8) then ((bonsairef04_Same.f k t818 y808).bind fun t860 => (if t860 = true then (if t819 = 0 then (if t823 = 5 then (if t827 = 10 then (if t831 = 5 then (if t835 = 5 then ((bonsairef04_Same.f k t841 (([(⟨#[97]⟩ : ByteArray), (⟨#[97]⟩ : ByteArray)] : List ByteArray))).bind fun t864 => (if t864 = true then (if t842 = true then (if t849 = true then (none) else ((dict_May.f t811 t812).bind fun t865 => (if t865 = true then ((dict_May.f t811 (([1, 0] : List Int))).bind fun t869 => (some (!t869))) else (none)))) else (none)) else (none))) else (none)) else (none)) else (none)) else (none)) else (none)) else (none))) else (none)) else (none))) = some r := by first | (rw [hy856]; with_reducible exact H) | (have H2_ := (Option.bind_some _ _).symm.trans H; rw [hy856]; with_reducible exact H2_) | (have H2_ := (Option.bind_some _ _).symm.trans H; with_reducible exact H2_) | with_reducible exact H | (rw [hy856]; exact H) | exact H
    have Ny856 := Aside0.mk hy856
    clear hy856
    replace H := Option.bind_eq_some_iff.mp H
    obtain ⟨t859, A120, H⟩ := H
    replace H : (if t859 = true then (if t817.toList = ([2, 1, 98, 1, 97, 0, 1, 1, 1, 0, 1] : List UInt8) then ((bonsairef04_Same.f k t818 y808).bind fun t860 => (if t860 = true then (if t819 = 0 then (if t823 = 5 then (if t827 = 10 then (if t831 = 5 then (if t835 = 5 then ((bonsairef04_Same.f k t841 (([(⟨#[97]⟩ : ByteArray), (⟨#[97]⟩ : ByteArray)] : List ByteArray))).bind fun t864 => (if t864 = true then (if t842 = true then (if t849 = true then (none) else ((dict_May.f t811 t812).bind fun t865 => (if t865 = true then ((dict_May.f t811 (([1, 0] : List Int))).bind fun t869 => (some (!t869))) else (none)))) else (none)) else (none))) else (none)) else (none)) else (none)) else (none)) else (none)) else (none))) else (none)) else (none)) = some r := H
    have A12 := Aside0.mk A120
    clear A120
    by_cases c13 : t859 = true
    · subst c13
      have H1 : (if t817.toList = ([2, 1, 98, 1, 97, 0, 1, 1, 1, 0, 1] : List UInt8) then ((bonsairef04_Same.f k t818 y808).bind fun t860 => (if t860 = true then (if t819 = 0 then (if t823 = 5 then (if t827 = 10 then (if t831 = 5 then (if t835 = 5 then ((bonsairef04_Same.f k t841 (([(⟨#[97]⟩ : ByteArray), (⟨#[97]⟩ : ByteArray)] : List ByteArray))).bind fun t864 => (if t864 = true then (if t842 = true then (if t849 = true then (none) else ((dict_May.f t811 t812).bind fun t865 => (if t865 = true then ((dict_May.f t811 (([1, 0] : List Int))).bind fun t869 => (some (!t869))) else (none)))) else (none)) else (none))) else (none)) else (none)) else (none)) else (none)) else (none)) else (none))) else (none)) = some r := by rw [if_pos rfl] at H; exact H
      clear H
      have H := H1
      clear H1
      by_cases c14 : t817.toList = ([2, 1, 98, 1, 97, 0, 1, 1, 1, 0, 1] : List UInt8)
      · rw [if_pos c14] at H
        have c14b0 : (t817.toList == ([2, 1, 98, 1, 97, 0, 1, 1, 1, 0, 1] : List UInt8)) = true := beq_iff_eq.mpr c14
        have c14b1 : (t817.toList != ([2, 1, 98, 1, 97, 0, 1, 1, 1, 0, 1] : List UInt8)) = false := bne_eq_false_iff_eq.mpr c14
        clear c14
        replace H := Option.bind_eq_some_iff.mp H
        obtain ⟨t860, A150, H⟩ := H
        replace H : (if t860 = true then (if t819 = 0 then (if t823 = 5 then (if t827 = 10 then (if t831 = 5 then (if t835 = 5 then ((bonsairef04_Same.f k t841 (([(⟨#[97]⟩ : ByteArray), (⟨#[97]⟩ : ByteArray)] : List ByteArray))).bind fun t864 => (if t864 = true then (if t842 = true then (if t849 = true then (none) else ((dict_May.f t811 t812).bind fun t865 => (if t865 = true then ((dict_May.f t811 (([1, 0] : List Int))).bind fun t869 => (some (!t869))) else (none)))) else (none)) else (none))) else (none)) else (none)) else (none)) else (none)) else (none)) else (none)) = some r := H
        have A15 := Aside0.mk A150
        clear A150
        by_cases c16 : t860 = true
        · subst c16
          have H1 : (if t819 = 0 then (if t823 = 5 then (if t827 = 10 then (if t831 = 5 then (if t835 = 5 then ((bonsairef04_Same.f k t841 (([(⟨#[97]⟩ : ByteArray), (⟨#[97]⟩ : ByteArray)] : List ByteArray))).bind fun t864 => (if t864 = true then (if t842 = true then (if t849 = true then (none) else ((dict_May.f t811 t812).bind fun t865 => (if t865 = true then ((dict_May.f t811 (([1, 0] : List Int))).bind fun t869 => (some (!t869))) else (none)))) else (none)) else (none))) else (none)) else (none)) else (none)) else (none)) else (none)) = some r := by rw [if_pos rfl] at H; exact H
          clear H
          have H := H1
          clear H1
          by_cases c17 : t819 = 0
          · rw [if_pos c17] at H
            have c17b0 : (t819 == 0) = true := beq_iff_eq.mpr c17
            have c17b1 : (t819 != 0) = false := bne_eq_false_iff_eq.mpr c17
            clear c17
            by_cases c18 : t823 = 5
            · rw [if_pos c18] at H
              have c18b0 : (t823 == 5) = true := beq_iff_eq.mpr c18
              have c18b1 : (t823 != 5) = false := bne_eq_false_iff_eq.mpr c18
              clear c18
              by_cases c19 : t827 = 10
              · rw [if_pos c19] at H
                have c19b0 : (t827 == 10) = true := beq_iff_eq.mpr c19
                have c19b1 : (t827 != 10) = false := bne_eq_false_iff_eq.mpr c19
                clear c19
                by_cases c20 : t831 = 5
                · rw [if_pos c20] at H
                  have c20b0 : (t831 == 5) = true := beq_iff_eq.mpr c20
                  have c20b1 : (t831 != 5) = false := bne_eq_false_iff_eq.mpr c20
                  clear c20
                  by_cases c21 : t835 = 5
                  · rw [if_pos c21] at H
                    have c21b0 : (t835 == 5) = true := beq_iff_eq.mpr c21
                    have c21b1 : (t835 != 5) = false := bne_eq_false_iff_eq.mpr c21
                    clear c21
                    obtain ⟨y861, hy861⟩ : ∃ y_ : List ByteArray, y_ = (([(⟨#[97]⟩ : ByteArray), (⟨#[97]⟩ : ByteArray)] : List ByteArray)) := ⟨_, rfl⟩
                    replace H : ((bonsairef04_Same.f k t841 y861).bind fun t864 => (if t864 = true then (if t842 = true then (if t849 = true then (none) else ((dict_May.f t811 t812).bind fun t865 => (if t865 = true then ((dict_May.f t811 (([1, 0] : List Int))).bind fun t869 => (some (!t869))) else (none)))) else (none)) else (none))) = some r := by first | (rw [hy861]; with_reducible exact H) | (have H2_ := (Option.bind_some _ _).symm.trans H; rw [hy861]; with_reducible exact H2_) | (have H2_ := (Option.bind_some _ _).symm.trans H; with_reducible exact H2_) | with_reducible exact H | (rw [hy861]; exact H) | exact H
                    have Ny861 := Aside0.mk hy861
                    clear hy861
                    replace H := Option.bind_eq_some_iff.mp H
                    obtain ⟨t864, A220, H⟩ := H
                    replace H : (if t864 = true then (if t842 = true then (if t849 = true then (none) else ((dict_May.f t811 t812).bind fun t865 => (if t865 = true then ((dict_May.f t811 (([1, 0] : List Int))).bind fun t869 => (some (!t869))) else (none)))) else (none)) else (none)) = some r := H
                    have A22 := Aside0.mk A220
                    clear A220
                    by_cases c23 : t864 = true
                    · subst c23
                      have H1 : (if t842 = true then (if t849 = true then (none) else ((dict_May.f t811 t812).bind fun t865 => (if t865 = true then ((dict_May.f t811 (([1, 0] : List Int))).bind fun t869 => (some (!t869))) else (none)))) else (none)) = some r := by rw [if_pos rfl] at H; exact H
                      clear H
                      have H := H1
                      clear H1
                      by_cases c24 : t842 = true
                      · subst c24
                        have H1 : (if t849 = true then (none) else ((dict_May.f t811 t812).bind fun t865 => (if t865 = true then ((dict_May.f t811 (([1, 0] : List Int))).bind fun t869 => (some (!t869))) else (none)))) = some r := by rw [if_pos rfl] at H; exact H
                        clear H
                        have H := H1
                        clear H1
                        by_cases c25 : t849 = true
                        · subst c25
                          have H1 : (none) = some r := by rw [if_pos rfl] at H; exact H
                          clear H
                          have H := H1
                          clear H1
                          exact absurd H (by simp)
                        · replace c25 := Bool.eq_false_iff.mpr c25
                          subst c25
                          have H1 : ((dict_May.f t811 t812).bind fun t865 => (if t865 = true then ((dict_May.f t811 (([1, 0] : List Int))).bind fun t869 => (some (!t869))) else (none))) = some r := by rw [if_neg (show ¬ (false = true) by decide)] at H; exact H
                          clear H
                          have H := H1
                          clear H1
                          replace H := Option.bind_eq_some_iff.mp H
                          obtain ⟨t865, A260, H⟩ := H
                          replace H : (if t865 = true then ((dict_May.f t811 (([1, 0] : List Int))).bind fun t869 => (some (!t869))) else (none)) = some r := H
                          have A26 := Aside0.mk A260
                          clear A260
                          by_cases c27 : t865 = true
                          · subst c27
                            have H1 : ((dict_May.f t811 (([1, 0] : List Int))).bind fun t869 => (some (!t869))) = some r := by rw [if_pos rfl] at H; exact H
                            clear H
                            have H := H1
                            clear H1
                            obtain ⟨y866, hy866⟩ : ∃ y_ : List Int, y_ = (([1, 0] : List Int)) := ⟨_, rfl⟩
                            replace H : ((dict_May.f t811 y866).bind fun t869 => (some (!t869))) = some r := by first | (rw [hy866]; with_reducible exact H) | (have H2_ := (Option.bind_some _ _).symm.trans H; rw [hy866]; with_reducible exact H2_) | (have H2_ := (Option.bind_some _ _).symm.trans H; with_reducible exact H2_) | with_reducible exact H | (rw [hy866]; exact H) | exact H
                            have Ny866 := Aside0.mk hy866
                            clear hy866
                            replace H := Option.bind_eq_some_iff.mp H
                            obtain ⟨t869, A280, H⟩ := H
                            replace H : (some (!t869)) = some r := H
                            have A28 := Aside0.mk A280
                            clear A280
                            obtain rfl := Option.some.inj H
                            go_enter Try.func64, Try.ntmps64
                            go_wp2_with (first | ((with_reducible refine gate_dst (N := 19) rfl ?_); (try (refine gate_guard (by rfl) ?_; dsimp only)); refine Kd.R_lit Kd.string _ 9 ?hg (N := 19) ?hd (xs := ([(⟨#[98]⟩ : ByteArray), (⟨#[97]⟩ : ByteArray), (⟨#[98]⟩ : ByteArray)] : List ByteArray)) (inner := [.string (⟨#[98]⟩ : ByteArray), .string (⟨#[97]⟩ : ByteArray), .string (⟨#[98]⟩ : ByteArray)]) (ok := fun _ => True) (okp := fun _ => True) ?hr ?hp (fun _ hk => hk) trivial (Below.refl _ _) (Nat.le_refl _) (by simp) ?_; (case hd => rfl); (case hg => rfl); (case hr => first | (go_simp; done) | (go_simp; rfl)); (case hp => exact (Reps.one (show Kd.M Kd.string _ _ _ (⟨#[98]⟩ : ByteArray) [.string (⟨#[98]⟩ : ByteArray)] from rfl) (Reps.one (show Kd.M Kd.string _ _ _ (⟨#[97]⟩ : ByteArray) [.string (⟨#[97]⟩ : ByteArray)] from rfl) (Reps.one (show Kd.M Kd.string _ _ _ (⟨#[98]⟩ : ByteArray) [.string (⟨#[98]⟩ : ByteArray)] from rfl) (Reps.none _ _))))); intro v809 w29 ho30 hb hg_ hnew_; clear hg_ hnew_; (first | rw [← Ny808.out] at ho30 | (simp only [Int.reduceToNat] at ho30; rw [← Ny808.out] at ho30)); have n0_ := Aside0.mk (Kd.R_lower ho30 (below_size (by repeat (first | (with_reducible first | exact HB.out | apply below_alloc | apply pw_below_drewN | apply below_drew1) | exact HB.out)))); have n1_ := Aside0.mk (below_step (by repeat (first | (with_reducible first | exact HB.out | apply below_alloc | apply pw_below_drewN | apply below_drew1) | exact HB.out)) hb); clear HB; have HO810 := n0_; have HB := n1_; clear n0_ n1_; clear hb ho30; obtain ⟨Ao31, co31, eo31⟩ := Kd.R_slice HO810.out; subst eo31) | ((with_reducible refine gate_callee (f := 65) rfl ?_); refine goesL_ (some 22) rfl rfl Try.func65 (by kernel_rfl) rfl #[.slice Ao31 y808.length co31] rfl (by (try simp only [List.map_toArray, List.map_cons, List.map_nil]); first | done | rfl | (simp only [List.length_drop, List.length_take]; rfl)) ?_; (with_reducible refine (dict_Words.calls _ _ y808 t811 t812 _ ?side1 ?side2 A1.out).mono ?_); (case side1 => repeat (first | exact (Kd.R_reads' HO810.out).2.2 | (with_reducible refine Kd.C_alloc ?_ _) | (with_reducible refine Kd.C_drewN ?_ _) | (with_reducible refine Kd.C_drew ?_))); (case side2 => exact (Kd.R_reads' HO810.out).2.1); rintro e w32 ⟨v813, v815, rfl, ho0, ho1, hb⟩; refine ⟨_, rfl, ?_⟩; have n0_ := Aside0.mk (Kd.R_elder' (by (with_reducible repeat (first | apply Kd.R_alloc | apply Kd.R_drewN | apply Kd.R_drew)); exact HO810.out) (Kd.R_base ho0) hb); have n1_ := Aside0.mk (Kd.R_lower (Kd.R_new' ho0 (Kd.R_lt (by (with_reducible repeat (first | apply Kd.R_alloc | apply Kd.R_drewN | apply Kd.R_drew)); exact HO810.out))) (below_size (by repeat (first | (with_reducible first | exact HB.out | apply below_alloc | apply pw_below_drewN | apply below_drew1) | exact HB.out)))); have n2_ := Aside0.mk (Kd.R_lower ho1 (below_size (by repeat (first | (with_reducible first | exact HB.out | apply below_alloc | apply pw_below_drewN | apply below_drew1) | exact HB.out)))); have n3_ := Aside0.mk (below_step (by repeat (first | (with_reducible first | exact HB.out | apply below_alloc | apply pw_below_drewN | apply below_drew1) | exact HB.out)) hb); clear HO810; clear HB; have HO810 := n0_; have HO814 := n1_; have HO816 := n2_; have HB := n3_; clear n0_ n1_ n2_ n3_; (try clear hb); (try clear hb2); (try clear hk); (try clear hi); (try clear ho0); (try clear ho1)) | ((with_reducible refine gate_callee (f := 70) rfl ?_); refine goesL_ (some 26) rfl rfl Try.func70 (by kernel_rfl) rfl #[.slice Ao31 y808.length co31] rfl (by (try simp only [List.map_toArray, List.map_cons, List.map_nil]); first | done | rfl | (simp only [List.length_drop, List.length_take]; rfl)) ?_; (with_reducible refine (dict_Encode.calls k _ _ y808 t817 _ ?side1 ?side2 A2.out).mono ?_); (case side1 => repeat (first | exact (Kd.R_reads' HO810.out).2.2 | (with_reducible refine Kd.C_alloc ?_ _) | (with_reducible refine Kd.C_drewN ?_ _) | (with_reducible refine Kd.C_drew ?_))); (case side2 => exact (Kd.R_reads' HO810.out).2.1); rintro e w33 ⟨rfl, hb⟩; refine ⟨_, rfl, ?_⟩; have n0_ := Aside0.mk (Kd.R_below (by (with_reducible repeat (first | apply Kd.R_alloc | apply Kd.R_drewN | apply Kd.R_drew)); exact HO810.out) hb); have n1_ := Aside0.mk (Kd.R_below (by (with_reducible repeat (first | apply Kd.R_alloc | apply Kd.R_drewN | apply Kd.R_drew)); exact HO814.out) hb); have n2_ := Aside0.mk (Kd.R_below (by (with_reducible repeat (first | apply Kd.R_alloc | apply Kd.R_drewN | apply Kd.R_drew)); exact HO816.out) hb); have n3_ := Aside0.mk (below_step (by repeat (first | (with_reducible first | exact HB.out | apply below_alloc | apply pw_below_drewN | apply below_drew1) | exact HB.out)) hb); clear HO810; clear HO814; clear HO816; clear HB; have HO810 := n0_; have HO814 := n1_; have HO816 := n2_; have HB := n3_; clear n0_ n1_ n2_ n3_; (try clear hb); (try clear hb2); (try clear hk); (try clear hi)) | ((with_reducible refine gate_callee (f := 74) rfl ?_); refine goesL_ (some 29) rfl rfl Try.func74 (by kernel_rfl) rfl #[.string t817, .int .i64 3, .int .i64 9] rfl (by (try simp only [List.map_toArray, List.map_cons, List.map_nil]); first | done | rfl | (simp only [List.length_drop, List.length_take]; rfl)) ?_; (with_reducible refine (dict_Decode.calls k t817 3 9 t818 t819 _ A3.out).mono ?_); rintro e w34 ⟨v820, rfl, ho0, hb⟩; refine ⟨_, rfl, ?_⟩; have n0_ := Aside0.mk (Kd.R_elder' (by (with_reducible repeat (first | apply Kd.R_alloc | apply Kd.R_drewN | apply Kd.R_drew)); exact HO810.out) (Kd.R_base ho0) hb); have n1_ := Aside0.mk (Kd.R_elder' (by (with_reducible repeat (first | apply Kd.R_alloc | apply Kd.R_drewN | apply Kd.R_drew)); exact HO814.out) (Kd.R_base ho0) hb); have n2_ := Aside0.mk (Kd.R_below (by (with_reducible repeat (first | apply Kd.R_alloc | apply Kd.R_drewN | apply Kd.R_drew)); exact HO816.out) hb); have n3_ := Aside0.mk (Kd.R_lower (Kd.R_new' (Kd.R_new' ho0 (Kd.R_lt (by (with_reducible repeat (first | apply Kd.R_alloc | apply Kd.R_drewN | apply Kd.R_drew)); exact HO810.out))) (Kd.R_lt (by (with_reducible repeat (first | apply Kd.R_alloc | apply Kd.R_drewN | apply Kd.R_drew)); exact HO814.out))) (below_size (by repeat (first | (with_reducible first | exact HB.out | apply below_alloc | apply pw_below_drewN | apply below_drew1) | exact HB.out)))); have n4_ := Aside0.mk (below_step (by repeat (first | (with_reducible first | exact HB.out | apply below_alloc | apply pw_below_drewN | apply below_drew1) | exact HB.out)) hb); clear HO810; clear HO814; clear HO816; clear HB; have HO810 := n0_; have HO814 := n1_; have HO816 := n2_; have HO821 := n3_; have HB := n4_; clear n0_ n1_ n2_ n3_ n4_; (try clear hb); (try clear hb2); (try clear hk); (try clear hi); (try clear ho0)) | ((with_reducible refine gate_callee (f := 74) rfl ?_); refine goesL_ (some 34) rfl rfl Try.func74 (by kernel_rfl) rfl #[.string t817, .int .i64 2, .int .i64 9] rfl (by (try simp only [List.map_toArray, List.map_cons, List.map_nil]); first | done | rfl | (simp only [List.length_drop, List.length_take]; rfl)) ?_; (with_reducible refine (dict_Decode.calls k t817 2 9 t822 t823 _ A4.out).mono ?_); rintro e w35 ⟨v824, rfl, ho0, hb⟩; refine ⟨_, rfl, ?_⟩; have n0_ := Aside0.mk (Kd.R_elder' (by (with_reducible repeat (first | apply Kd.R_alloc | apply Kd.R_drewN | apply Kd.R_drew)); exact HO810.out) (Kd.R_base ho0) hb); have n1_ := Aside0.mk (Kd.R_elder' (by (with_reducible repeat (first | apply Kd.R_alloc | apply Kd.R_drewN | apply Kd.R_drew)); exact HO814.out) (Kd.R_base ho0) hb); have n2_ := Aside0.mk (Kd.R_below (by (with_reducible repeat (first | apply Kd.R_alloc | apply Kd.R_drewN | apply Kd.R_drew)); exact HO816.out) hb); have n3_ := Aside0.mk (Kd.R_elder' (by (with_reducible repeat (first | apply Kd.R_alloc | apply Kd.R_drewN | apply Kd.R_drew)); exact HO821.out) (Kd.R_base ho0) hb); have n4_ := Aside0.mk (Kd.R_lower (Kd.R_new' (Kd.R_new' (Kd.R_new' ho0 (Kd.R_lt (by (with_reducible repeat (first | apply Kd.R_alloc | apply Kd.R_drewN | apply Kd.R_drew)); exact HO810.out))) (Kd.R_lt (by (with_reducible repeat (first | apply Kd.R_alloc | apply Kd.R_drewN | apply Kd.R_drew)); exact HO814.out))) (Kd.R_lt (by (with_reducible repeat (first | apply Kd.R_alloc | apply Kd.R_drewN | apply Kd.R_drew)); exact HO821.out))) (below_size (by repeat (first | (with_reducible first | exact HB.out | apply below_alloc | apply pw_below_drewN | apply below_drew1) | exact HB.out)))); have n5_ := Aside0.mk (below_step (by repeat (first | (with_reducible first | exact HB.out | apply below_alloc | apply pw_below_drewN | apply below_drew1) | exact HB.out)) hb); clear HO810; clear HO814; clear HO816; clear HO821; clear HB; have HO810 := n0_; have HO814 := n1_; have HO816 := n2_; have HO821 := n3_; have HO825 := n4_; have HB := n5_; clear n0_ n1_ n2_ n3_ n4_ n5_; (try clear hb); (try clear hb2); (try clear hk); (try clear hi); (try clear ho0)) | ((with_reducible refine gate_callee (f := 74) rfl ?_); refine goesL_ (some 39) rfl rfl Try.func74 (by kernel_rfl) rfl #[.string t817, .int .i64 3, .int .i64 0] rfl (by (try simp only [List.map_toArray, List.map_cons, List.map_nil]); first | done | rfl | (simp only [List.length_drop, List.length_take]; rfl)) ?_; (with_reducible refine (dict_Decode.calls k t817 3 0 t826 t827 _ A5.out).mono ?_); rintro e w36 ⟨v828, rfl, ho0, hb⟩; refine ⟨_, rfl, ?_⟩; have n0_ := Aside0.mk (Kd.R_elder' (by (with_reducible repeat (first | apply Kd.R_alloc | apply Kd.R_drewN | apply Kd.R_drew)); exact HO810.out) (Kd.R_base ho0) hb); have n1_ := Aside0.mk (Kd.R_elder' (by (with_reducible repeat (first | apply Kd.R_alloc | apply Kd.R_drewN | apply Kd.R_drew)); exact HO814.out) (Kd.R_base ho0) hb); have n2_ := Aside0.mk (Kd.R_below (by (with_reducible repeat (first | apply Kd.R_alloc | apply Kd.R_drewN | apply Kd.R_drew)); exact HO816.out) hb); have n3_ := Aside0.mk (Kd.R_elder' (by (with_reducible repeat (first | apply Kd.R_alloc | apply Kd.R_drewN | apply Kd.R_drew)); exact HO821.out) (Kd.R_base ho0) hb); have n4_ := Aside0.mk (Kd.R_elder' (by (with_reducible repeat (first | apply Kd.R_alloc | apply Kd.R_drewN | apply Kd.R_drew)); exact HO825.out) (Kd.R_base ho0) hb); have n5_ := Aside0.mk (Kd.R_lower (Kd.R_new' (Kd.R_new' (Kd.R_new' (Kd.R_new' ho0 (Kd.R_lt (by (with_reducible repeat (first | apply Kd.R_alloc | apply Kd.R_drewN | apply Kd.R_drew)); exact HO810.out))) (Kd.R_lt (by (with_reducible repeat (first | apply Kd.R_alloc | apply Kd.R_drewN | apply Kd.R_drew)); exact HO814.out))) (Kd.R_lt (by (with_reducible repeat (first | apply Kd.R_alloc | apply Kd.R_drewN | apply Kd.R_drew)); exact HO821.out))) (Kd.R_lt (by (with_reducible repeat (first | apply Kd.R_alloc | apply Kd.R_drewN | apply Kd.R_drew)); exact HO825.out))) (below_size (by repeat (first | (with_reducible first | exact HB.out | apply below_alloc | apply pw_below_drewN | apply below_drew1) | exact HB.out)))); have n6_ := Aside0.mk (below_step (by repeat (first | (with_reducible first | exact HB.out | apply below_alloc | apply pw_below_drewN | apply below_drew1) | exact HB.out)) hb); clear HO810; clear HO814; clear HO816; clear HO821; clear HO825; clear HB; have HO810 := n0_; have HO814 := n1_; have HO816 := n2_; have HO821 := n3_; have HO825 := n4_; have HO829 := n5_; have HB := n6_; clear n0_ n1_ n2_ n3_ n4_ n5_ n6_; (try clear hb); (try clear hb2); (try clear hk); (try clear hi); (try clear ho0)) | ((with_reducible refine gate_callee (f := 74) rfl ?_); refine goesL_ (some 43) rfl rfl Try.func74 (by kernel_rfl) rfl #[.string (⟨#[1, 1, 97, 1, 1]⟩ : ByteArray), .int .i64 1, .int .i64 9] rfl (by (try simp only [List.map_toArray, List.map_cons, List.map_nil]); first | done | rfl | (simp only [List.length_drop, List.length_take]; rfl)) ?_; (with_reducible refine (dict_Decode.calls k (⟨#[1, 1, 97, 1, 1]⟩ : ByteArray) 1 9 t830 t831 _ A6.out).mono ?_); rintro e w37 ⟨v832, rfl, ho0, hb⟩; refine ⟨_, rfl, ?_⟩; have n0_ := Aside0.mk (Kd.R_elder' (by (with_reducible repeat (first | apply Kd.R_alloc | apply Kd.R_drewN | apply Kd.R_drew)); exact HO810.out) (Kd.R_base ho0) hb); have n1_ := Aside0.mk (Kd.R_elder' (by (with_reducible repeat (first | apply Kd.R_alloc | apply Kd.R_drewN | apply Kd.R_drew)); exact HO814.out) (Kd.R_base ho0) hb); have n2_ := Aside0.mk (Kd.R_below (by (with_reducible repeat (first | apply Kd.R_alloc | apply Kd.R_drewN | apply Kd.R_drew)); exact HO816.out) hb); have n3_ := Aside0.mk (Kd.R_elder' (by (with_reducible repeat (first | apply Kd.R_alloc | apply Kd.R_drewN | apply Kd.R_drew)); exact HO821.out) (Kd.R_base ho0) hb); have n4_ := Aside0.mk (Kd.R_elder' (by (with_reducible repeat (first | apply Kd.R_alloc | apply Kd.R_drewN | apply Kd.R_drew)); exact HO825.out) (Kd.R_base ho0) hb); have n5_ := Aside0.mk (Kd.R_elder' (by (with_reducible repeat (first | apply Kd.R_alloc | apply Kd.R_drewN | apply Kd.R_drew)); exact HO829.out) (Kd.R_base ho0) hb); have n6_ := Aside0.mk (Kd.R_lower (Kd.R_new' (Kd.R_new' (Kd.R_new' (Kd.R_new' (Kd.R_new' ho0 (Kd.R_lt (by (with_reducible repeat (first | apply Kd.R_alloc | apply Kd.R_drewN | apply Kd.R_drew)); exact HO810.out))) (Kd.R_lt (by (with_reducible repeat (first | apply Kd.R_alloc | apply Kd.R_drewN | apply Kd.R_drew)); exact HO814.out))) (Kd.R_lt (by (with_reducible repeat (first | apply Kd.R_alloc | apply Kd.R_drewN | apply Kd.R_drew)); exact HO821.out))) (Kd.R_lt (by (with_reducible repeat (first | apply Kd.R_alloc | apply Kd.R_drewN | apply Kd.R_drew)); exact HO825.out))) (Kd.R_lt (by (with_reducible repeat (first | apply Kd.R_alloc | apply Kd.R_drewN | apply Kd.R_drew)); exact HO829.out))) (below_size (by repeat (first | (with_reducible first | exact HB.out | apply below_alloc | apply pw_below_drewN | apply below_drew1) | exact HB.out)))); have n7_ := Aside0.mk (below_step (by repeat (first | (with_reducible first | exact HB.out | apply below_alloc | apply pw_below_drewN | apply below_drew1) | exact HB.out)) hb); clear HO810; clear HO814; clear HO816; clear HO821; clear HO825; clear HO829; clear HB; have HO810 := n0_; have HO814 := n1_; have HO816 := n2_; have HO821 := n3_; have HO825 := n4_; have HO829 := n5_; have HO833 := n6_; have HB := n7_; clear n0_ n1_ n2_ n3_ n4_ n5_ n6_ n7_; (try clear hb); (try clear hb2); (try clear hk); (try clear hi); (try clear ho0)) | ((with_reducible refine gate_callee (f := 74) rfl ?_); refine goesL_ (some 47) rfl rfl Try.func74 (by kernel_rfl) rfl #[.string (⟨#[2, 1, 97, 1, 97, 0, 1, 1, 1]⟩ : ByteArray), .int .i64 2, .int .i64 9] rfl (by (try simp only [List.map_toArray, List.map_cons, List.map_nil]); first | done | rfl | (simp only [List.length_drop, List.length_take]; rfl)) ?_; (with_reducible refine (dict_Decode.calls k (⟨#[2, 1, 97, 1, 97, 0, 1, 1, 1]⟩ : ByteArray) 2 9 t834 t835 _ A7.out).mono ?_); rintro e w38 ⟨v836, rfl, ho0, hb⟩; refine ⟨_, rfl, ?_⟩; have n0_ := Aside0.mk (Kd.R_elder' (by (with_reducible repeat (first | apply Kd.R_alloc | apply Kd.R_drewN | apply Kd.R_drew)); exact HO810.out) (Kd.R_base ho0) hb); have n1_ := Aside0.mk (Kd.R_elder' (by (with_reducible repeat (first | apply Kd.R_alloc | apply Kd.R_drewN | apply Kd.R_drew)); exact HO814.out) (Kd.R_base ho0) hb); have n2_ := Aside0.mk (Kd.R_below (by (with_reducible repeat (first | apply Kd.R_alloc | apply Kd.R_drewN | apply Kd.R_drew)); exact HO816.out) hb); have n3_ := Aside0.mk (Kd.R_elder' (by (with_reducible repeat (first | apply Kd.R_alloc | apply Kd.R_drewN | apply Kd.R_drew)); exact HO821.out) (Kd.R_base ho0) hb); have n4_ := Aside0.mk (Kd.R_elder' (by (with_reducible repeat (first | apply Kd.R_alloc | apply Kd.R_drewN | apply Kd.R_drew)); exact HO825.out) (Kd.R_base ho0) hb); have n5_ := Aside0.mk (Kd.R_elder' (by (with_reducible repeat (first | apply Kd.R_alloc | apply Kd.R_drewN | apply Kd.R_drew)); exact HO829.out) (Kd.R_base ho0) hb); have n6_ := Aside0.mk (Kd.R_elder' (by (with_reducible repeat (first | apply Kd.R_alloc | apply Kd.R_drewN | apply Kd.R_drew)); exact HO833.out) (Kd.R_base ho0) hb); have n7_ := Aside0.mk (Kd.R_lower (Kd.R_new' (Kd.R_new' (Kd.R_new' (Kd.R_new' (Kd.R_new' (Kd.R_new' ho0 (Kd.R_lt (by (with_reducible repeat (first | apply Kd.R_alloc | apply Kd.R_drewN | apply Kd.R_drew)); exact HO810.out))) (Kd.R_lt (by (with_reducible repeat (first | apply Kd.R_alloc | apply Kd.R_drewN | apply Kd.R_drew)); exact HO814.out))) (Kd.R_lt (by (with_reducible repeat (first | apply Kd.R_alloc | apply Kd.R_drewN | apply Kd.R_drew)); exact HO821.out))) (Kd.R_lt (by (with_reducible repeat (first | apply Kd.R_alloc | apply Kd.R_drewN | apply Kd.R_drew)); exact HO825.out))) (Kd.R_lt (by (with_reducible repeat (first | apply Kd.R_alloc | apply Kd.R_drewN | apply Kd.R_drew)); exact HO829.out))) (Kd.R_lt (by (with_reducible repeat (first | apply Kd.R_alloc | apply Kd.R_drewN | apply Kd.R_drew)); exact HO833.out))) (below_size (by repeat (first | (with_reducible first | exact HB.out | apply below_alloc | apply pw_below_drewN | apply below_drew1) | exact HB.out)))); have n8_ := Aside0.mk (below_step (by repeat (first | (with_reducible first | exact HB.out | apply below_alloc | apply pw_below_drewN | apply below_drew1) | exact HB.out)) hb); clear HO810; clear HO814; clear HO816; clear HO821; clear HO825; clear HO829; clear HO833; clear HB; have HO810 := n0_; have HO814 := n1_; have HO816 := n2_; have HO821 := n3_; have HO825 := n4_; have HO829 := n5_; have HO833 := n6_; have HO837 := n7_; have HB := n8_; clear n0_ n1_ n2_ n3_ n4_ n5_ n6_ n7_ n8_; (try clear hb); (try clear hb2); (try clear hk); (try clear hi); (try clear ho0)) | ((with_reducible refine gate_dst (N := 52) rfl ?_); (try (refine gate_guard (by rfl) ?_; dsimp only)); refine Kd.R_lit (Kd.int .u64) _ 51 ?hg (N := 52) ?hd (xs := ([1, 1] : List Int)) (inner := [.int .u64 1, .int .u64 1]) (ok := fun _ => True) (okp := fun _ => True) ?hr ?hp (fun _ hk => hk) trivial (Below.refl _ _) (Nat.le_refl _) (by simp) ?_; (case hd => rfl); (case hg => rfl); (case hr => first | (go_simp; done) | (go_simp; rfl)); (case hp => exact (Reps.one (show Kd.M (Kd.int .u64) _ _ _ 1 [.int .u64 1] from rfl) (Reps.one (show Kd.M (Kd.int .u64) _ _ _ 1 [.int .u64 1] from rfl) (Reps.none _ _)))); intro v839 w39 ho40 hb hg_ hnew_; clear hg_ hnew_; (first | rw [← Ny838.out] at ho40 | (simp only [Int.reduceToNat] at ho40; rw [← Ny838.out] at ho40)); have n0_ := Aside0.mk (Kd.R_below (by (with_reducible repeat (first | apply Kd.R_alloc | apply Kd.R_drewN | apply Kd.R_drew)); exact HO810.out) hb); have n1_ := Aside0.mk (Kd.R_below (by (with_reducible repeat (first | apply Kd.R_alloc | apply Kd.R_drewN | apply Kd.R_drew)); exact HO814.out) hb); have n2_ := Aside0.mk (Kd.R_elder' (by (with_reducible repeat (first | apply Kd.R_alloc | apply Kd.R_drewN | apply Kd.R_drew)); exact HO816.out) (Kd.R_base ho40) hb); have n3_ := Aside0.mk (Kd.R_below (by (with_reducible repeat (first | apply Kd.R_alloc | apply Kd.R_drewN | apply Kd.R_drew)); exact HO821.out) hb); have n4_ := Aside0.mk (Kd.R_below (by (with_reducible repeat (first | apply Kd.R_alloc | apply Kd.R_drewN | apply Kd.R_drew)); exact HO825.out) hb); have n5_ := Aside0.mk (Kd.R_below (by (with_reducible repeat (first | apply Kd.R_alloc | apply Kd.R_drewN | apply Kd.R_drew)); exact HO829.out) hb); have n6_ := Aside0.mk (Kd.R_below (by (with_reducible repeat (first | apply Kd.R_alloc | apply Kd.R_drewN | apply Kd.R_drew)); exact HO833.out) hb); have n7_ := Aside0.mk (Kd.R_below (by (with_reducible repeat (first | apply Kd.R_alloc | apply Kd.R_drewN | apply Kd.R_drew)); exact HO837.out) hb); have n8_ := Aside0.mk (Kd.R_lower (Kd.R_new' ho40 (Kd.R_lt (by (with_reducible repeat (first | apply Kd.R_alloc | apply Kd.R_drewN | apply Kd.R_drew)); exact HO816.out))) (below_size (by repeat (first | (with_reducible first | exact HB.out | apply below_alloc | apply pw_below_drewN | apply below_drew1) | exact HB.out)))); have n9_ := Aside0.mk (below_step (by repeat (first | (with_reducible first | exact HB.out | apply below_alloc | apply pw_below_drewN | apply below_drew1) | exact HB.out)) hb); clear HO810; clear HO814; clear HO816; clear HO821; clear HO825; clear HO829; clear HO833; clear HO837; clear HB; have HO810 := n0_; have HO814 := n1_; have HO816 := n2_; have HO821 := n3_; have HO825 := n4_; have HO829 := n5_; have HO833 := n6_; have HO837 := n7_; have HO840 := n8_; have HB := n9_; clear n0_ n1_ n2_ n3_ n4_ n5_ n6_ n7_ n8_ n9_; clear hb ho40; obtain ⟨Ao41, co41, eo41⟩ := Kd.R_slice HO814.out; subst eo41; obtain ⟨Ao42, co42, eo42⟩ := Kd.R_slice HO840.out; subst eo42) | ((with_reducible refine gate_callee (f := 67) rfl ?_); refine goesL_ (some 53) rfl rfl Try.func67 (by kernel_rfl) rfl #[.slice Ao41 t811.length co41, .slice Ao42 y838.length co42] rfl (by (try simp only [List.map_toArray, List.map_cons, List.map_nil]); first | done | rfl | (simp only [List.length_drop, List.length_take]; rfl)) ?_; (with_reducible refine (dict_Pick.calls _ _ t811 _ _ y838 t841 true _ ?side1 ?side2 ?side3 ?side4 A8.out).mono ?_); (case side1 => repeat (first | exact (Kd.R_reads' HO814.out).2.2 | (with_reducible refine Kd.C_alloc ?_ _) | (with_reducible refine Kd.C_drewN ?_ _) | (with_reducible refine Kd.C_drew ?_))); (case side2 => exact (Kd.R_reads' HO814.out).2.1); (case side3 => repeat (first | exact (Kd.R_reads' HO840.out).2.2 | (with_reducible refine Kd.C_alloc ?_ _) | (with_reducible refine Kd.C_drewN ?_ _) | (with_reducible refine Kd.C_drew ?_))); (case side4 => exact (Kd.R_reads' HO840.out).2.1); rintro e w43 ⟨v843, rfl, ho0, hb⟩; refine ⟨_, rfl, ?_⟩; have n0_ := Aside0.mk (Kd.R_elder' (by (with_reducible repeat (first | apply Kd.R_alloc | apply Kd.R_drewN | apply Kd.R_drew)); exact HO810.out) (Kd.R_base ho0) hb); have n1_ := Aside0.mk (Kd.R_elder' (by (with_reducible repeat (first | apply Kd.R_alloc | apply Kd.R_drewN | apply Kd.R_drew)); exact HO814.out) (Kd.R_base ho0) hb); have n2_ := Aside0.mk (Kd.R_below (by (with_reducible repeat (first | apply Kd.R_alloc | apply Kd.R_drewN | apply Kd.R_drew)); exact HO816.out) hb); have n3_ := Aside0.mk (Kd.R_elder' (by (with_reducible repeat (first | apply Kd.R_alloc | apply Kd.R_drewN | apply Kd.R_drew)); exact HO821.out) (Kd.R_base ho0) hb); have n4_ := Aside0.mk (Kd.R_elder' (by (with_reducible repeat (first | apply Kd.R_alloc | apply Kd.R_drewN | apply Kd.R_drew)); exact HO825.out) (Kd.R_base ho0) hb); have n5_ := Aside0.mk (Kd.R_elder' (by (with_reducible repeat (first | apply Kd.R_alloc | apply Kd.R_drewN | apply Kd.R_drew)); exact HO829.out) (Kd.R_base ho0) hb); have n6_ := Aside0.mk (Kd.R_elder' (by (with_reducible repeat (first | apply Kd.R_alloc | apply Kd.R_drewN | apply Kd.R_drew)); exact HO833.out) (Kd.R_base ho0) hb); have n7_ := Aside0.mk (Kd.R_elder' (by (with_reducible repeat (first | apply Kd.R_alloc | apply Kd.R_drewN | apply Kd.R_drew)); exact HO837.out) (Kd.R_base ho0) hb); have n8_ := Aside0.mk (Kd.R_below (by (with_reducible repeat (first | apply Kd.R_alloc | apply Kd.R_drewN | apply Kd.R_drew)); exact HO840.out) hb); have n9_ := Aside0.mk (Kd.R_lower (Kd.R_new' (Kd.R_new' (Kd.R_new' (Kd.R_new' (Kd.R_new' (Kd.R_new' (Kd.R_new' ho0 (Kd.R_lt (by (with_reducible repeat (first | apply Kd.R_alloc | apply Kd.R_drewN | apply Kd.R_drew)); exact HO810.out))) (Kd.R_lt (by (with_reducible repeat (first | apply Kd.R_alloc | apply Kd.R_drewN | apply Kd.R_drew)); exact HO814.out))) (Kd.R_lt (by (with_reducible repeat (first | apply Kd.R_alloc | apply Kd.R_drewN | apply Kd.R_drew)); exact HO821.out))) (Kd.R_lt (by (with_reducible repeat (first | apply Kd.R_alloc | apply Kd.R_drewN | apply Kd.R_drew)); exact HO825.out))) (Kd.R_lt (by (with_reducible repeat (first | apply Kd.R_alloc | apply Kd.R_drewN | apply Kd.R_drew)); exact HO829.out))) (Kd.R_lt (by (with_reducible repeat (first | apply Kd.R_alloc | apply Kd.R_drewN | apply Kd.R_drew)); exact HO833.out))) (Kd.R_lt (by (with_reducible repeat (first | apply Kd.R_alloc | apply Kd.R_drewN | apply Kd.R_drew)); exact HO837.out))) (below_size (by repeat (first | (with_reducible first | exact HB.out | apply below_alloc | apply pw_below_drewN | apply below_drew1) | exact HB.out)))); have n10_ := Aside0.mk (below_step (by repeat (first | (with_reducible first | exact HB.out | apply below_alloc | apply pw_below_drewN | apply below_drew1) | exact HB.out)) hb); clear HO810; clear HO814; clear HO816; clear HO821; clear HO825; clear HO829; clear HO833; clear HO837; clear HO840; clear HB; have HO810 := n0_; have HO814 := n1_; have HO816 := n2_; have HO821 := n3_; have HO825 := n4_; have HO829 := n5_; have HO833 := n6_; have HO837 := n7_; have HO840 := n8_; have HO844 := n9_; have HB := n10_; clear n0_ n1_ n2_ n3_ n4_ n5_ n6_ n7_ n8_ n9_ n10_; (try clear hb); (try clear hb2); (try clear hk); (try clear hi); (try clear ho0)) | ((with_reducible refine gate_dst (N := 58) rfl ?_); (try (refine gate_guard (by rfl) ?_; dsimp only)); refine Kd.R_lit (Kd.int .u64) _ 51 ?hg (N := 58) ?hd (xs := ([2] : List Int)) (inner := [.int .u64 2]) (ok := fun _ => True) (okp := fun _ => True) ?hr ?hp (fun _ hk => hk) trivial (Below.refl _ _) (Nat.le_refl _) (by simp) ?_; (case hd => rfl); (case hg => rfl); (case hr => first | (go_simp; done) | (go_simp; rfl)); (case hp => exact (Reps.one (show Kd.M (Kd.int .u64) _ _ _ 2 [.int .u64 2] from rfl) (Reps.none _ _))); intro v846 w44 ho45 hb hg_ hnew_; clear hg_ hnew_; (first | rw [← Ny845.out] at ho45 | (simp only [Int.reduceToNat] at ho45; rw [← Ny845.out] at ho45)); have n0_ := Aside0.mk (Kd.R_below (by (with_reducible repeat (first | apply Kd.R_alloc | apply Kd.R_drewN | apply Kd.R_drew)); exact HO810.out) hb); have n1_ := Aside0.mk (Kd.R_below (by (with_reducible repeat (first | apply Kd.R_alloc | apply Kd.R_drewN | apply Kd.R_drew)); exact HO814.out) hb); have n2_ := Aside0.mk (Kd.R_elder' (by (with_reducible repeat (first | apply Kd.R_alloc | apply Kd.R_drewN | apply Kd.R_drew)); exact HO816.out) (Kd.R_base ho45) hb); have n3_ := Aside0.mk (Kd.R_below (by (with_reducible repeat (first | apply Kd.R_alloc | apply Kd.R_drewN | apply Kd.R_drew)); exact HO821.out) hb); have n4_ := Aside0.mk (Kd.R_below (by (with_reducible repeat (first | apply Kd.R_alloc | apply Kd.R_drewN | apply Kd.R_drew)); exact HO825.out) hb); have n5_ := Aside0.mk (Kd.R_below (by (with_reducible repeat (first | apply Kd.R_alloc | apply Kd.R_drewN | apply Kd.R_drew)); exact HO829.out) hb); have n6_ := Aside0.mk (Kd.R_below (by (with_reducible repeat (first | apply Kd.R_alloc | apply Kd.R_drewN | apply Kd.R_drew)); exact HO833.out) hb); have n7_ := Aside0.mk (Kd.R_below (by (with_reducible repeat (first | apply Kd.R_alloc | apply Kd.R_drewN | apply Kd.R_drew)); exact HO837.out) hb); have n8_ := Aside0.mk (Kd.R_elder' (by (with_reducible repeat (first | apply Kd.R_alloc | apply Kd.R_drewN | apply Kd.R_drew)); exact HO840.out) (Kd.R_base ho45) hb); have n9_ := Aside0.mk (Kd.R_below (by (with_reducible repeat (first | apply Kd.R_alloc | apply Kd.R_drewN | apply Kd.R_drew)); exact HO844.out) hb); have n10_ := Aside0.mk (Kd.R_lower (Kd.R_new' (Kd.R_new' ho45 (Kd.R_lt (by (with_reducible repeat (first | apply Kd.R_alloc | apply Kd.R_drewN | apply Kd.R_drew)); exact HO816.out))) (Kd.R_lt (by (with_reducible repeat (first | apply Kd.R_alloc | apply Kd.R_drewN | apply Kd.R_drew)); exact HO840.out))) (below_size (by repeat (first | (with_reducible first | exact HB.out | apply below_alloc | apply pw_below_drewN | apply below_drew1) | exact HB.out)))); have n11_ := Aside0.mk (below_step (by repeat (first | (with_reducible first | exact HB.out | apply below_alloc | apply pw_below_drewN | apply below_drew1) | exact HB.out)) hb); clear HO810; clear HO814; clear HO816; clear HO821; clear HO825; clear HO829; clear HO833; clear HO837; clear HO840; clear HO844; clear HB; have HO810 := n0_; have HO814 := n1_; have HO816 := n2_; have HO821 := n3_; have HO825 := n4_; have HO829 := n5_; have HO833 := n6_; have HO837 := n7_; have HO840 := n8_; have HO844 := n9_; have HO847 := n10_; have HB := n11_; clear n0_ n1_ n2_ n3_ n4_ n5_ n6_ n7_ n8_ n9_ n10_ n11_; clear hb ho45; obtain ⟨Ao46, co46, eo46⟩ := Kd.R_slice HO847.out; subst eo46) | ((with_reducible refine gate_callee (f := 67) rfl ?_); refine goesL_ (some 59) rfl rfl Try.func67 (by kernel_rfl) rfl #[.slice Ao41 t811.length co41, .slice Ao46 y845.length co46] rfl (by (try simp only [List.map_toArray, List.map_cons, List.map_nil]); first | done | rfl | (simp only [List.length_drop, List.length_take]; rfl)) ?_; (with_reducible refine (dict_Pick.calls _ _ t811 _ _ y845 t848 false _ ?side1 ?side2 ?side3 ?side4 A9.out).mono ?_); (case side1 => repeat (first | exact (Kd.R_reads' HO814.out).2.2 | (with_reducible refine Kd.C_alloc ?_ _) | (with_reducible refine Kd.C_drewN ?_ _) | (with_reducible refine Kd.C_drew ?_))); (case side2 => exact (Kd.R_reads' HO814.out).2.1); (case side3 => repeat (first | exact (Kd.R_reads' HO847.out).2.2 | (with_reducible refine Kd.C_alloc ?_ _) | (with_reducible refine Kd.C_drewN ?_ _) | (with_reducible refine Kd.C_drew ?_))); (case side4 => exact (Kd.R_reads' HO847.out).2.1); rintro e w47 ⟨v850, rfl, ho0, hb⟩; refine ⟨_, rfl, ?_⟩; have n0_ := Aside0.mk (Kd.R_elder' (by (with_reducible repeat (first | apply Kd.R_alloc | apply Kd.R_drewN | apply Kd.R_drew)); exact HO810.out) (Kd.R_base ho0) hb); have n1_ := Aside0.mk (Kd.R_elder' (by (with_reducible repeat (first | apply Kd.R_alloc | apply Kd.R_drewN | apply Kd.R_drew)); exact HO814.out) (Kd.R_base ho0) hb); have n2_ := Aside0.mk (Kd.R_below (by (with_reducible repeat (first | apply Kd.R_alloc | apply Kd.R_drewN | apply Kd.R_drew)); exact HO816.out) hb); have n3_ := Aside0.mk (Kd.R_elder' (by (with_reducible repeat (first | apply Kd.R_alloc | apply Kd.R_drewN | apply Kd.R_drew)); exact HO821.out) (Kd.R_base ho0) hb); have n4_ := Aside0.mk (Kd.R_elder' (by (with_reducible repeat (first | apply Kd.R_alloc | apply Kd.R_drewN | apply Kd.R_drew)); exact HO825.out) (Kd.R_base ho0) hb); have n5_ := Aside0.mk (Kd.R_elder' (by (with_reducible repeat (first | apply Kd.R_alloc | apply Kd.R_drewN | apply Kd.R_drew)); exact HO829.out) (Kd.R_base ho0) hb); have n6_ := Aside0.mk (Kd.R_elder' (by (with_reducible repeat (first | apply Kd.R_alloc | apply Kd.R_drewN | apply Kd.R_drew)); exact HO833.out) (Kd.R_base ho0) hb); have n7_ := Aside0.mk (Kd.R_elder' (by (with_reducible repeat (first | apply Kd.R_alloc | apply Kd.R_drewN | apply Kd.R_drew)); exact HO837.out) (Kd.R_base ho0) hb); have n8_ := Aside0.mk (Kd.R_below (by (with_reducible repeat (first | apply Kd.R_alloc | apply Kd.R_drewN | apply Kd.R_drew)); exact HO840.out) hb); have n9_ := Aside0.mk (Kd.R_elder' (by (with_reducible repeat (first | apply Kd.R_alloc | apply Kd.R_drewN | apply Kd.R_drew)); exact HO844.out) (Kd.R_base ho0) hb); have n10_ := Aside0.mk (Kd.R_below (by (with_reducible repeat (first | apply Kd.R_alloc | apply Kd.R_drewN | apply Kd.R_drew)); exact HO847.out) hb); have n11_ := Aside0.mk (Kd.R_lower (Kd.R_new' (Kd.R_new' (Kd.R_new' (Kd.R_new' (Kd.R_new' (Kd.R_new' (Kd.R_new' (Kd.R_new' ho0 (Kd.R_lt (by (with_reducible repeat (first | apply Kd.R_alloc | apply Kd.R_drewN | apply Kd.R_drew)); exact HO810.out))) (Kd.R_lt (by (with_reducible repeat (first | apply Kd.R_alloc | apply Kd.R_drewN | apply Kd.R_drew)); exact HO814.out))) (Kd.R_lt (by (with_reducible repeat (first | apply Kd.R_alloc | apply Kd.R_drewN | apply Kd.R_drew)); exact HO821.out))) (Kd.R_lt (by (with_reducible repeat (first | apply Kd.R_alloc | apply Kd.R_drewN | apply Kd.R_drew)); exact HO825.out))) (Kd.R_lt (by (with_reducible repeat (first | apply Kd.R_alloc | apply Kd.R_drewN | apply Kd.R_drew)); exact HO829.out))) (Kd.R_lt (by (with_reducible repeat (first | apply Kd.R_alloc | apply Kd.R_drewN | apply Kd.R_drew)); exact HO833.out))) (Kd.R_lt (by (with_reducible repeat (first | apply Kd.R_alloc | apply Kd.R_drewN | apply Kd.R_drew)); exact HO837.out))) (Kd.R_lt (by (with_reducible repeat (first | apply Kd.R_alloc | apply Kd.R_drewN | apply Kd.R_drew)); exact HO844.out))) (below_size (by repeat (first | (with_reducible first | exact HB.out | apply below_alloc | apply pw_below_drewN | apply below_drew1) | exact HB.out)))); have n12_ := Aside0.mk (below_step (by repeat (first | (with_reducible first | exact HB.out | apply below_alloc | apply pw_below_drewN | apply below_drew1) | exact HB.out)) hb); clear HO810; clear HO814; clear HO816; clear HO821; clear HO825; clear HO829; clear HO833; clear HO837; clear HO840; clear HO844; clear HO847; clear HB; have HO810 := n0_; have HO814 := n1_; have HO816 := n2_; have HO821 := n3_; have HO825 := n4_; have HO829 := n5_; have HO833 := n6_; have HO837 := n7_; have HO840 := n8_; have HO844 := n9_; have HO847 := n10_; have HO851 := n11_; have HB := n12_; clear n0_ n1_ n2_ n3_ n4_ n5_ n6_ n7_ n8_ n9_ n10_ n11_ n12_; (try clear hb); (try clear hb2); (try clear hk); (try clear hi); (try clear ho0)) | ((with_reducible refine gate_dst (N := 63) rfl ?_); (try (refine gate_guard (by rfl) ?_; dsimp only)); refine Kd.R_lit Kd.string _ 9 ?hg (N := 63) ?hd (xs := ([(⟨#[98]⟩ : ByteArray), (⟨#[97]⟩ : ByteArray)] : List ByteArray)) (inner := [.string (⟨#[98]⟩ : ByteArray), .string (⟨#[97]⟩ : ByteArray)]) (ok := fun _ => True) (okp := fun _ => True) ?hr ?hp (fun _ hk => hk) trivial (Below.refl _ _) (Nat.le_refl _) (by simp) ?_; (case hd => rfl); (case hg => rfl); (case hr => first | (go_simp; done) | (go_simp; rfl)); (case hp => exact (Reps.one (show Kd.M Kd.string _ _ _ (⟨#[98]⟩ : ByteArray) [.string (⟨#[98]⟩ : ByteArray)] from rfl) (Reps.one (show Kd.M Kd.string _ _ _ (⟨#[97]⟩ : ByteArray) [.string (⟨#[97]⟩ : ByteArray)] from rfl) (Reps.none _ _)))); intro v853 w48 ho49 hb hg_ hnew_; clear hg_ hnew_; (first | rw [← Ny852.out] at ho49 | (simp only [Int.reduceToNat] at ho49; rw [← Ny852.out] at ho49)); have n0_ := Aside0.mk (Kd.R_elder' (by (with_reducible repeat (first | apply Kd.R_alloc | apply Kd.R_drewN | apply Kd.R_drew)); exact HO810.out) (Kd.R_base ho49) hb); have n1_ := Aside0.mk (Kd.R_elder' (by (with_reducible repeat (first | apply Kd.R_alloc | apply Kd.R_drewN | apply Kd.R_drew)); exact HO814.out) (Kd.R_base ho49) hb); have n2_ := Aside0.mk (Kd.R_below (by (with_reducible repeat (first | apply Kd.R_alloc | apply Kd.R_drewN | apply Kd.R_drew)); exact HO816.out) hb); have n3_ := Aside0.mk (Kd.R_elder' (by (with_reducible repeat (first | apply Kd.R_alloc | apply Kd.R_drewN | apply Kd.R_drew)); exact HO821.out) (Kd.R_base ho49) hb); have n4_ := Aside0.mk (Kd.R_elder' (by (with_reducible repeat (first | apply Kd.R_alloc | apply Kd.R_drewN | apply Kd.R_drew)); exact HO825.out) (Kd.R_base ho49) hb); have n5_ := Aside0.mk (Kd.R_elder' (by (with_reducible repeat (first | apply Kd.R_alloc | apply Kd.R_drewN | apply Kd.R_drew)); exact HO829.out) (Kd.R_base ho49) hb); have n6_ := Aside0.mk (Kd.R_elder' (by (with_reducible repeat (first | apply Kd.R_alloc | apply Kd.R_drewN | apply Kd.R_drew)); exact HO833.out) (Kd.R_base ho49) hb); have n7_ := Aside0.mk (Kd.R_elder' (by (with_reducible repeat (first | apply Kd.R_alloc | apply Kd.R_drewN | apply Kd.R_drew)); exact HO837.out) (Kd.R_base ho49) hb); have n8_ := Aside0.mk (Kd.R_below (by (with_reducible repeat (first | apply Kd.R_alloc | apply Kd.R_drewN | apply Kd.R_drew)); exact HO840.out) hb); have n9_ := Aside0.mk (Kd.R_elder' (by (with_reducible repeat (first | apply Kd.R_alloc | apply Kd.R_drewN | apply Kd.R_drew)); exact HO844.out) (Kd.R_base ho49) hb); have n10_ := Aside0.mk (Kd.R_below (by (with_reducible repeat (first | apply Kd.R_alloc | apply Kd.R_drewN | apply Kd.R_drew)); exact HO847.out) hb); have n11_ := Aside0.mk (Kd.R_elder' (by (with_reducible repeat (first | apply Kd.R_alloc | apply Kd.R_drewN | apply Kd.R_drew)); exact HO851.out) (Kd.R_base ho49) hb); have n12_ := Aside0.mk (Kd.R_lower (Kd.R_new' (Kd.R_new' (Kd.R_new' (Kd.R_new' (Kd.R_new' (Kd.R_new' (Kd.R_new' (Kd.R_new' (Kd.R_new' ho49 (Kd.R_lt (by (with_reducible repeat (first | apply Kd.R_alloc | apply Kd.R_drewN | apply Kd.R_drew)); exact HO810.out))) (Kd.R_lt (by (with_reducible repeat (first | apply Kd.R_alloc | apply Kd.R_drewN | apply Kd.R_drew)); exact HO814.out))) (Kd.R_lt (by (with_reducible repeat (first | apply Kd.R_alloc | apply Kd.R_drewN | apply Kd.R_drew)); exact HO821.out))) (Kd.R_lt (by (with_reducible repeat (first | apply Kd.R_alloc | apply Kd.R_drewN | apply Kd.R_drew)); exact HO825.out))) (Kd.R_lt (by (with_reducible repeat (first | apply Kd.R_alloc | apply Kd.R_drewN | apply Kd.R_drew)); exact HO829.out))) (Kd.R_lt (by (with_reducible repeat (first | apply Kd.R_alloc | apply Kd.R_drewN | apply Kd.R_drew)); exact HO833.out))) (Kd.R_lt (by (with_reducible repeat (first | apply Kd.R_alloc | apply Kd.R_drewN | apply Kd.R_drew)); exact HO837.out))) (Kd.R_lt (by (with_reducible repeat (first | apply Kd.R_alloc | apply Kd.R_drewN | apply Kd.R_drew)); exact HO844.out))) (Kd.R_lt (by (with_reducible repeat (first | apply Kd.R_alloc | apply Kd.R_drewN | apply Kd.R_drew)); exact HO851.out))) (below_size (by repeat (first | (with_reducible first | exact HB.out | apply below_alloc | apply pw_below_drewN | apply below_drew1) | exact HB.out)))); have n13_ := Aside0.mk (below_step (by repeat (first | (with_reducible first | exact HB.out | apply below_alloc | apply pw_below_drewN | apply below_drew1) | exact HB.out)) hb); clear HO810; clear HO814; clear HO816; clear HO821; clear HO825; clear HO829; clear HO833; clear HO837; clear HO840; clear HO844; clear HO847; clear HO851; clear HB; have HO810 := n0_; have HO814 := n1_; have HO816 := n2_; have HO821 := n3_; have HO825 := n4_; have HO829 := n5_; have HO833 := n6_; have HO837 := n7_; have HO840 := n8_; have HO844 := n9_; have HO847 := n10_; have HO851 := n11_; have HO854 := n12_; have HB := n13_; clear n0_ n1_ n2_ n3_ n4_ n5_ n6_ n7_ n8_ n9_ n10_ n11_ n12_ n13_; clear hb ho49; obtain ⟨Ao50, co50, eo50⟩ := Kd.R_slice HO854.out; subst eo50) | ((with_reducible refine gate_callee (f := 69) rfl ?_); refine goesL_ (some 64) rfl rfl Try.func69 (by kernel_rfl) rfl #[.slice Ao41 t811.length co41, .slice Ao50 y852.length co50] rfl (by (try simp only [List.map_toArray, List.map_cons, List.map_nil]); first | done | rfl | (simp only [List.length_drop, List.length_take]; rfl)) ?_; (with_reducible refine (bonsairef04_Same.calls k _ _ t811 _ _ y852 true _ ?side1 ?side2 ?side3 ?side4 A10.out).mono ?_); (case side1 => repeat (first | exact (Kd.R_reads' HO814.out).2.2 | (with_reducible refine Kd.C_alloc ?_ _) | (with_reducible refine Kd.C_drewN ?_ _) | (with_reducible refine Kd.C_drew ?_))); (case side2 => exact (Kd.R_reads' HO814.out).2.1); (case side3 => repeat (first | exact (Kd.R_reads' HO854.out).2.2 | (with_reducible refine Kd.C_alloc ?_ _) | (with_reducible refine Kd.C_drewN ?_ _) | (with_reducible refine Kd.C_drew ?_))); (case side4 => exact (Kd.R_reads' HO854.out).2.1); rintro e w' ⟨rfl, ⟨nd, rfl⟩⟩; refine ⟨_, rfl, ?_⟩) | ((with_reducible refine gate_dst (N := 67) rfl ?_); (try (refine gate_guard (by rfl) ?_; dsimp only)); refine Kd.R_lit (Kd.int .u64) _ 51 ?hg (N := 67) ?hd (xs := ([0, 1, 0] : List Int)) (inner := [.int .u64 0, .int .u64 1, .int .u64 0]) (ok := fun _ => True) (okp := fun _ => True) ?hr ?hp (fun _ hk => hk) trivial (Below.refl _ _) (Nat.le_refl _) (by simp) ?_; (case hd => rfl); (case hg => rfl); (case hr => first | (go_simp; done) | (go_simp; rfl)); (case hp => exact (Reps.one (show Kd.M (Kd.int .u64) _ _ _ 0 [.int .u64 0] from rfl) (Reps.one (show Kd.M (Kd.int .u64) _ _ _ 1 [.int .u64 1] from rfl) (Reps.one (show Kd.M (Kd.int .u64) _ _ _ 0 [.int .u64 0] from rfl) (Reps.none _ _))))); intro v857 w51 ho52 hb hg_ hnew_; clear hg_ hnew_; (first | rw [← Ny856.out] at ho52 | (simp only [Int.reduceToNat] at ho52; rw [← Ny856.out] at ho52)); have n0_ := Aside0.mk (Kd.R_below (by (with_reducible repeat (first | apply Kd.R_alloc | apply Kd.R_drewN | apply Kd.R_drew)); exact HO810.out) hb); have n1_ := Aside0.mk (Kd.R_below (by (with_reducible repeat (first | apply Kd.R_alloc | apply Kd.R_drewN | apply Kd.R_drew)); exact HO814.out) hb); have n2_ := Aside0.mk (Kd.R_elder' (by (with_reducible repeat (first | apply Kd.R_alloc | apply Kd.R_drewN | apply Kd.R_drew)); exact HO816.out) (Kd.R_base ho52) hb); have n3_ := Aside0.mk (Kd.R_below (by (with_reducible repeat (first | apply Kd.R_alloc | apply Kd.R_drewN | apply Kd.R_drew)); exact HO821.out) hb); have n4_ := Aside0.mk (Kd.R_below (by (with_reducible repeat (first | apply Kd.R_alloc | apply Kd.R_drewN | apply Kd.R_drew)); exact HO825.out) hb); have n5_ := Aside0.mk (Kd.R_below (by (with_reducible repeat (first | apply Kd.R_alloc | apply Kd.R_drewN | apply Kd.R_drew)); exact HO829.out) hb); have n6_ := Aside0.mk (Kd.R_below (by (with_reducible repeat (first | apply Kd.R_alloc | apply Kd.R_drewN | apply Kd.R_drew)); exact HO833.out) hb); have n7_ := Aside0.mk (Kd.R_below (by (with_reducible repeat (first | apply Kd.R_alloc | apply Kd.R_drewN | apply Kd.R_drew)); exact HO837.out) hb); have n8_ := Aside0.mk (Kd.R_elder' (by (with_reducible repeat (first | apply Kd.R_alloc | apply Kd.R_drewN | apply Kd.R_drew)); exact HO840.out) (Kd.R_base ho52) hb); have n9_ := Aside0.mk (Kd.R_below (by (with_reducible repeat (first | apply Kd.R_alloc | apply Kd.R_drewN | apply Kd.R_drew)); exact HO844.out) hb); have n10_ := Aside0.mk (Kd.R_elder' (by (with_reducible repeat (first | apply Kd.R_alloc | apply Kd.R_drewN | apply Kd.R_drew)); exact HO847.out) (Kd.R_base ho52) hb); have n11_ := Aside0.mk (Kd.R_below (by (with_reducible repeat (first | apply Kd.R_alloc | apply Kd.R_drewN | apply Kd.R_drew)); exact HO851.out) hb); have n12_ := Aside0.mk (Kd.R_below (by (with_reducible repeat (first | apply Kd.R_alloc | apply Kd.R_drewN | apply Kd.R_drew)); exact HO854.out) hb); have n13_ := Aside0.mk (Kd.R_lower (Kd.R_new' (Kd.R_new' (Kd.R_new' ho52 (Kd.R_lt (by (with_reducible repeat (first | apply Kd.R_alloc | apply Kd.R_drewN | apply Kd.R_drew)); exact HO816.out))) (Kd.R_lt (by (with_reducible repeat (first | apply Kd.R_alloc | apply Kd.R_drewN | apply Kd.R_drew)); exact HO840.out))) (Kd.R_lt (by (with_reducible repeat (first | apply Kd.R_alloc | apply Kd.R_drewN | apply Kd.R_drew)); exact HO847.out))) (below_size (by repeat (first | (with_reducible first | exact HB.out | apply below_alloc | apply pw_below_drewN | apply below_drew1) | exact HB.out)))); have n14_ := Aside0.mk (below_step (by repeat (first | (with_reducible first | exact HB.out | apply below_alloc | apply pw_below_drewN | apply below_drew1) | exact HB.out)) hb); clear HO810; clear HO814; clear HO816; clear HO821; clear HO825; clear HO829; clear HO833; clear HO837; clear HO840; clear HO844; clear HO847; clear HO851; clear HO854; clear HB; have HO810 := n0_; have HO814 := n1_; have HO816 := n2_; have HO821 := n3_; have HO825 := n4_; have HO829 := n5_; have HO833 := n6_; have HO837 := n7_; have HO840 := n8_; have HO844 := n9_; have HO847 := n10_; have HO851 := n11_; have HO854 := n12_; have HO858 := n13_; have HB := n14_; clear n0_ n1_ n2_ n3_ n4_ n5_ n6_ n7_ n8_ n9_ n10_ n11_ n12_ n13_ n14_; clear hb ho52; obtain ⟨Ao53, co53, eo53⟩ := Kd.R_slice HO816.out; subst eo53; obtain ⟨Ao54, co54, eo54⟩ := Kd.R_slice HO858.out; subst eo54) | (go_at_call 48; (with_reducible refine (bonsairef06_Same.calls k _ _ t812 _ _ y856 true _ ?side1 ?side2 ?side3 ?side4 A12.out).mono ?_); (case side1 => repeat (first | exact (Kd.R_reads' HO816.out).2.2 | (with_reducible refine Kd.C_alloc ?_ _) | (with_reducible refine Kd.C_drewN ?_ _) | (with_reducible refine Kd.C_drew ?_))); (case side2 => exact (Kd.R_reads' HO816.out).2.1); (case side3 => repeat (first | exact (Kd.R_reads' HO858.out).2.2 | (with_reducible refine Kd.C_alloc ?_ _) | (with_reducible refine Kd.C_drewN ?_ _) | (with_reducible refine Kd.C_drew ?_))); (case side4 => exact (Kd.R_reads' HO858.out).2.1); rintro e w' ⟨rfl, ⟨nd, rfl⟩⟩; obtain ⟨Ao55, co55, eo55⟩ := Kd.R_slice HO821.out; subst eo55) | (go_at_call 69; (with_reducible refine (bonsairef04_Same.calls k _ _ t818 _ _ y808 true _ ?side1 ?side2 ?side3 ?side4 A15.out).mono ?_); (case side1 => repeat (first | exact (Kd.R_reads' HO821.out).2.2 | (with_reducible refine Kd.C_alloc ?_ _) | (with_reducible refine Kd.C_drewN ?_ _) | (with_reducible refine Kd.C_drew ?_))); (case side2 => exact (Kd.R_reads' HO821.out).2.1); (case side3 => repeat (first | exact (Kd.R_reads' HO810.out).2.2 | (with_reducible refine Kd.C_alloc ?_ _) | (with_reducible refine Kd.C_drewN ?_ _) | (with_reducible refine Kd.C_drew ?_))); (case side4 => exact (Kd.R_reads' HO810.out).2.1); rintro e w' ⟨rfl, ⟨nd, rfl⟩⟩) | ((with_reducible refine gate_dst (N := 101) rfl ?_); (try (refine gate_guard (by rfl) ?_; dsimp only)); refine Kd.R_lit Kd.string _ 9 ?hg (N := 101) ?hd (xs := ([(⟨#[97]⟩ : ByteArray), (⟨#[97]⟩ : ByteArray)] : List ByteArray)) (inner := [.string (⟨#[97]⟩ : ByteArray), .string (⟨#[97]⟩ : ByteArray)]) (ok := fun _ => True) (okp := fun _ => True) ?hr ?hp (fun _ hk => hk) trivial (Below.refl _ _) (Nat.le_refl _) (by simp) ?_; (case hd => rfl); (case hg => rfl); (case hr => first | (go_simp; done) | (go_simp; rfl)); (case hp => exact (Reps.one (show Kd.M Kd.string _ _ _ (⟨#[97]⟩ : ByteArray) [.string (⟨#[97]⟩ : ByteArray)] from rfl) (Reps.one (show Kd.M Kd.string _ _ _ (⟨#[97]⟩ : ByteArray) [.string (⟨#[97]⟩ : ByteArray)] from rfl) (Reps.none _ _)))); intro v862 w56 ho57 hb hg_ hnew_; clear hg_ hnew_; (first | rw [← Ny861.out] at ho57 | (simp only [Int.reduceToNat] at ho57; rw [← Ny861.out] at ho57)); have n0_ := Aside0.mk (Kd.R_elder' (by (with_reducible repeat (first | apply Kd.R_alloc | apply Kd.R_drewN | apply Kd.R_drew)); exact HO810.out) (Kd.R_base ho57) hb); have n1_ := Aside0.mk (Kd.R_elder' (by (with_reducible repeat (first | apply Kd.R_alloc | apply Kd.R_drewN | apply Kd.R_drew)); exact HO814.out) (Kd.R_base ho57) hb); have n2_ := Aside0.mk (Kd.R_below (by (with_reducible repeat (first | apply Kd.R_alloc | apply Kd.R_drewN | apply Kd.R_drew)); exact HO816.out) hb); have n3_ := Aside0.mk (Kd.R_elder' (by (with_reducible repeat (first | apply Kd.R_alloc | apply Kd.R_drewN | apply Kd.R_drew)); exact HO821.out) (Kd.R_base ho57) hb); have n4_ := Aside0.mk (Kd.R_elder' (by (with_reducible repeat (first | apply Kd.R_alloc | apply Kd.R_drewN | apply Kd.R_drew)); exact HO825.out) (Kd.R_base ho57) hb); have n5_ := Aside0.mk (Kd.R_elder' (by (with_reducible repeat (first | apply Kd.R_alloc | apply Kd.R_drewN | apply Kd.R_drew)); exact HO829.out) (Kd.R_base ho57) hb); have n6_ := Aside0.mk (Kd.R_elder' (by (with_reducible repeat (first | apply Kd.R_alloc | apply Kd.R_drewN | apply Kd.R_drew)); exact HO833.out) (Kd.R_base ho57) hb); have n7_ := Aside0.mk (Kd.R_elder' (by (with_reducible repeat (first | apply Kd.R_alloc | apply Kd.R_drewN | apply Kd.R_drew)); exact HO837.out) (Kd.R_base ho57) hb); have n8_ := Aside0.mk (Kd.R_below (by (with_reducible repeat (first | apply Kd.R_alloc | apply Kd.R_drewN | apply Kd.R_drew)); exact HO840.out) hb); have n9_ := Aside0.mk (Kd.R_elder' (by (with_reducible repeat (first | apply Kd.R_alloc | apply Kd.R_drewN | apply Kd.R_drew)); exact HO844.out) (Kd.R_base ho57) hb); have n10_ := Aside0.mk (Kd.R_below (by (with_reducible repeat (first | apply Kd.R_alloc | apply Kd.R_drewN | apply Kd.R_drew)); exact HO847.out) hb); have n11_ := Aside0.mk (Kd.R_elder' (by (with_reducible repeat (first | apply Kd.R_alloc | apply Kd.R_drewN | apply Kd.R_drew)); exact HO851.out) (Kd.R_base ho57) hb); have n12_ := Aside0.mk (Kd.R_elder' (by (with_reducible repeat (first | apply Kd.R_alloc | apply Kd.R_drewN | apply Kd.R_drew)); exact HO854.out) (Kd.R_base ho57) hb); have n13_ := Aside0.mk (Kd.R_below (by (with_reducible repeat (first | apply Kd.R_alloc | apply Kd.R_drewN | apply Kd.R_drew)); exact HO858.out) hb); have n14_ := Aside0.mk (Kd.R_lower (Kd.R_new' (Kd.R_new' (Kd.R_new' (Kd.R_new' (Kd.R_new' (Kd.R_new' (Kd.R_new' (Kd.R_new' (Kd.R_new' (Kd.R_new' ho57 (Kd.R_lt (by (with_reducible repeat (first | apply Kd.R_alloc | apply Kd.R_drewN | apply Kd.R_drew)); exact HO810.out))) (Kd.R_lt (by (with_reducible repeat (first | apply Kd.R_alloc | apply Kd.R_drewN | apply Kd.R_drew)); exact HO814.out))) (Kd.R_lt (by (with_reducible repeat (first | apply Kd.R_alloc | apply Kd.R_drewN | apply Kd.R_drew)); exact HO821.out))) (Kd.R_lt (by (with_reducible repeat (first | apply Kd.R_alloc | apply Kd.R_drewN | apply Kd.R_drew)); exact HO825.out))) (Kd.R_lt (by (with_reducible repeat (first | apply Kd.R_alloc | apply Kd.R_drewN | apply Kd.R_drew)); exact HO829.out))) (Kd.R_lt (by (with_reducible repeat (first | apply Kd.R_alloc | apply Kd.R_drewN | apply Kd.R_drew)); exact HO833.out))) (Kd.R_lt (by (with_reducible repeat (first | apply Kd.R_alloc | apply Kd.R_drewN | apply Kd.R_drew)); exact HO837.out))) (Kd.R_lt (by (with_reducible repeat (first | apply Kd.R_alloc | apply Kd.R_drewN | apply Kd.R_drew)); exact HO844.out))) (Kd.R_lt (by (with_reducible repeat (first | apply Kd.R_alloc | apply Kd.R_drewN | apply Kd.R_drew)); exact HO851.out))) (Kd.R_lt (by (with_reducible repeat (first | apply Kd.R_alloc | apply Kd.R_drewN | apply Kd.R_drew)); exact HO854.out))) (below_size (by repeat (first | (with_reducible first | exact HB.out | apply below_alloc | apply pw_below_drewN | apply below_drew1) | exact HB.out)))); have n15_ := Aside0.mk (below_step (by repeat (first | (with_reducible first | exact HB.out | apply below_alloc | apply pw_below_drewN | apply below_drew1) | exact HB.out)) hb); clear HO810; clear HO814; clear HO816; clear HO821; clear HO825; clear HO829; clear HO833; clear HO837; clear HO840; clear HO844; clear HO847; clear HO851; clear HO854; clear HO858; clear HB; have HO810 := n0_; have HO814 := n1_; have HO816 := n2_; have HO821 := n3_; have HO825 := n4_; have HO829 := n5_; have HO833 := n6_; have HO837 := n7_; have HO840 := n8_; have HO844 := n9_; have HO847 := n10_; have HO851 := n11_; have HO854 := n12_; have HO858 := n13_; have HO863 := n14_; have HB := n15_; clear n0_ n1_ n2_ n3_ n4_ n5_ n6_ n7_ n8_ n9_ n10_ n11_ n12_ n13_ n14_ n15_; clear hb ho57; obtain ⟨Ao58, co58, eo58⟩ := Kd.R_slice HO844.out; subst eo58; obtain ⟨Ao59, co59, eo59⟩ := Kd.R_slice HO863.out; subst eo59) | (go_at_call 69; (with_reducible refine (bonsairef04_Same.calls k _ _ t841 _ _ y861 true _ ?side1 ?side2 ?side3 ?side4 A22.out).mono ?_); (case side1 => repeat (first | exact (Kd.R_reads' HO844.out).2.2 | (with_reducible refine Kd.C_alloc ?_ _) | (with_reducible refine Kd.C_drewN ?_ _) | (with_reducible refine Kd.C_drew ?_))); (case side2 => exact (Kd.R_reads' HO844.out).2.1); (case side3 => repeat (first | exact (Kd.R_reads' HO863.out).2.2 | (with_reducible refine Kd.C_alloc ?_ _) | (with_reducible refine Kd.C_drewN ?_ _) | (with_reducible refine Kd.C_drew ?_))); (case side4 => exact (Kd.R_reads' HO863.out).2.1); rintro e w' ⟨rfl, ⟨nd, rfl⟩⟩) | (go_at_call 72; (with_reducible refine (dict_May.calls _ _ t811 _ _ t812 true _ ?side1 ?side2 ?side3 ?side4 A26.out).mono ?_); (case side1 => repeat (first | exact (Kd.R_reads' HO814.out).2.2 | (with_reducible refine Kd.C_alloc ?_ _) | (with_reducible refine Kd.C_drewN ?_ _) | (with_reducible refine Kd.C_drew ?_))); (case side2 => exact (Kd.R_reads' HO814.out).2.1); (case side3 => repeat (first | exact (Kd.R_reads' HO816.out).2.2 | (with_reducible refine Kd.C_alloc ?_ _) | (with_reducible refine Kd.C_drewN ?_ _) | (with_reducible refine Kd.C_drew ?_))); (case side4 => exact (Kd.R_reads' HO816.out).2.1); rintro e w60 ⟨rfl, hb⟩; have n0_ := Aside0.mk (Kd.R_below (by (with_reducible repeat (first | apply Kd.R_alloc | apply Kd.R_drewN | apply Kd.R_drew)); exact HO810.out) hb); have n1_ := Aside0.mk (Kd.R_below (by (with_reducible repeat (first | apply Kd.R_alloc | apply Kd.R_drewN | apply Kd.R_drew)); exact HO814.out) hb); have n2_ := Aside0.mk (Kd.R_below (by (with_reducible repeat (first | apply Kd.R_alloc | apply Kd.R_drewN | apply Kd.R_drew)); exact HO816.out) hb); have n3_ := Aside0.mk (Kd.R_below (by (with_reducible repeat (first | apply Kd.R_alloc | apply Kd.R_drewN | apply Kd.R_drew)); exact HO821.out) hb); have n4_ := Aside0.mk (Kd.R_below (by (with_reducible repeat (first | apply Kd.R_alloc | apply Kd.R_drewN | apply Kd.R_drew)); exact HO825.out) hb); have n5_ := Aside0.mk (Kd.R_below (by (with_reducible repeat (first | apply Kd.R_alloc | apply Kd.R_drewN | apply Kd.R_drew)); exact HO829.out) hb); have n6_ := Aside0.mk (Kd.R_below (by (with_reducible repeat (first | apply Kd.R_alloc | apply Kd.R_drewN | apply Kd.R_drew)); exact HO833.out) hb); have n7_ := Aside0.mk (Kd.R_below (by (with_reducible repeat (first | apply Kd.R_alloc | apply Kd.R_drewN | apply Kd.R_drew)); exact HO837.out) hb); have n8_ := Aside0.mk (Kd.R_below (by (with_reducible repeat (first | apply Kd.R_alloc | apply Kd.R_drewN | apply Kd.R_drew)); exact HO840.out) hb); have n9_ := Aside0.mk (Kd.R_below (by (with_reducible repeat (first | apply Kd.R_alloc | apply Kd.R_drewN | apply Kd.R_drew)); exact HO844.out) hb); have n10_ := Aside0.mk (Kd.R_below (by (with_reducible repeat (first | apply Kd.R_alloc | apply Kd.R_drewN | apply Kd.R_drew)); exact HO847.out) hb); have n11_ := Aside0.mk (Kd.R_below (by (with_reducible repeat (first | apply Kd.R_alloc | apply Kd.R_drewN | apply Kd.R_drew)); exact HO851.out) hb); have n12_ := Aside0.mk (Kd.R_below (by (with_reducible repeat (first | apply Kd.R_alloc | apply Kd.R_drewN | apply Kd.R_drew)); exact HO854.out) hb); have n13_ := Aside0.mk (Kd.R_below (by (with_reducible repeat (first | apply Kd.R_alloc | apply Kd.R_drewN | apply Kd.R_drew)); exact HO858.out) hb); have n14_ := Aside0.mk (Kd.R_below (by (with_reducible repeat (first | apply Kd.R_alloc | apply Kd.R_drewN | apply Kd.R_drew)); exact HO863.out) hb); have n15_ := Aside0.mk (below_step (by repeat (first | (with_reducible first | exact HB.out | apply below_alloc | apply pw_below_drewN | apply below_drew1) | exact HB.out)) hb); clear HO810; clear HO814; clear HO816; clear HO821; clear HO825; clear HO829; clear HO833; clear HO837; clear HO840; clear HO844; clear HO847; clear HO851; clear HO854; clear HO858; clear HO863; clear HB; have HO810 := n0_; have HO814 := n1_; have HO816 := n2_; have HO821 := n3_; have HO825 := n4_; have HO829 := n5_; have HO833 := n6_; have HO837 := n7_; have HO840 := n8_; have HO844 := n9_; have HO847 := n10_; have HO851 := n11_; have HO854 := n12_; have HO858 := n13_; have HO863 := n14_; have HB := n15_; clear n0_ n1_ n2_ n3_ n4_ n5_ n6_ n7_ n8_ n9_ n10_ n11_ n12_ n13_ n14_ n15_; (try clear hb); (try clear hb2); (try clear hk); (try clear hi)) | ((with_reducible refine gate_dst (N := 118) rfl ?_); (try (refine gate_guard (by rfl) ?_; dsimp only)); refine Kd.R_lit (Kd.int .u64) _ 51 ?hg (N := 118) ?hd (xs := ([1, 0] : List Int)) (inner := [.int .u64 1, .int .u64 0]) (ok := fun _ => True) (okp := fun _ => True) ?hr ?hp (fun _ hk => hk) trivial (Below.refl _ _) (Nat.le_refl _) (by simp) ?_; (case hd => rfl); (case hg => rfl); (case hr => first | (go_simp; done) | (go_simp; rfl)); (case hp => exact (Reps.one (show Kd.M (Kd.int .u64) _ _ _ 1 [.int .u64 1] from rfl) (Reps.one (show Kd.M (Kd.int .u64) _ _ _ 0 [.int .u64 0] from rfl) (Reps.none _ _)))); intro v867 w61 ho62 hb hg_ hnew_; clear hg_ hnew_; (first | rw [← Ny866.out] at ho62 | (simp only [Int.reduceToNat] at ho62; rw [← Ny866.out] at ho62)); have n0_ := Aside0.mk (Kd.R_below (by (with_reducible repeat (first | apply Kd.R_alloc | apply Kd.R_drewN | apply Kd.R_drew)); exact HO810.out) hb); have n1_ := Aside0.mk (Kd.R_below (by (with_reducible repeat (first | apply Kd.R_alloc | apply Kd.R_drewN | apply Kd.R_drew)); exact HO814.out) hb); have n2_ := Aside0.mk (Kd.R_elder' (by (with_reducible repeat (first | apply Kd.R_alloc | apply Kd.R_drewN | apply Kd.R_drew)); exact HO816.out) (Kd.R_base ho62) hb); have n3_ := Aside0.mk (Kd.R_below (by (with_reducible repeat (first | apply Kd.R_alloc | apply Kd.R_drewN | apply Kd.R_drew)); exact HO821.out) hb); have n4_ := Aside0.mk (Kd.R_below (by (with_reducible repeat (first | apply Kd.R_alloc | apply Kd.R_drewN | apply Kd.R_drew)); exact HO825.out) hb); have n5_ := Aside0.mk (Kd.R_below (by (with_reducible repeat (first | apply Kd.R_alloc | apply Kd.R_drewN | apply Kd.R_drew)); exact HO829.out) hb); have n6_ := Aside0.mk (Kd.R_below (by (with_reducible repeat (first | apply Kd.R_alloc | apply Kd.R_drewN | apply Kd.R_drew)); exact HO833.out) hb); have n7_ := Aside0.mk (Kd.R_below (by (with_reducible repeat (first | apply Kd.R_alloc | apply Kd.R_drewN | apply Kd.R_drew)); exact HO837.out) hb); have n8_ := Aside0.mk (Kd.R_elder' (by (with_reducible repeat (first | apply Kd.R_alloc | apply Kd.R_drewN | apply Kd.R_drew)); exact HO840.out) (Kd.R_base ho62) hb); have n9_ := Aside0.mk (Kd.R_below (by (with_reducible repeat (first | apply Kd.R_alloc | apply Kd.R_drewN | apply Kd.R_drew)); exact HO844.out) hb); have n10_ := Aside0.mk (Kd.R_elder' (by (with_reducible repeat (first | apply Kd.R_alloc | apply Kd.R_drewN | apply Kd.R_drew)); exact HO847.out) (Kd.R_base ho62) hb); have n11_ := Aside0.mk (Kd.R_below (by (with_reducible repeat (first | apply Kd.R_alloc | apply Kd.R_drewN | apply Kd.R_drew)); exact HO851.out) hb); have n12_ := Aside0.mk (Kd.R_below (by (with_reducible repeat (first | apply Kd.R_alloc | apply Kd.R_drewN | apply Kd.R_drew)); exact HO854.out) hb); have n13_ := Aside0.mk (Kd.R_elder' (by (with_reducible repeat (first | apply Kd.R_alloc | apply Kd.R_drewN | apply Kd.R_drew)); exact HO858.out) (Kd.R_base ho62) hb); have n14_ := Aside0.mk (Kd.R_below (by (with_reducible repeat (first | apply Kd.R_alloc | apply Kd.R_drewN | apply Kd.R_drew)); exact HO863.out) hb); have n15_ := Aside0.mk (Kd.R_lower (Kd.R_new' (Kd.R_new' (Kd.R_new' (Kd.R_new' ho62 (Kd.R_lt (by (with_reducible repeat (first | apply Kd.R_alloc | apply Kd.R_drewN | apply Kd.R_drew)); exact HO816.out))) (Kd.R_lt (by (with_reducible repeat (first | apply Kd.R_alloc | apply Kd.R_drewN | apply Kd.R_drew)); exact HO840.out))) (Kd.R_lt (by (with_reducible repeat (first | apply Kd.R_alloc | apply Kd.R_drewN | apply Kd.R_drew)); exact HO847.out))) (Kd.R_lt (by (with_reducible repeat (first | apply Kd.R_alloc | apply Kd.R_drewN | apply Kd.R_drew)); exact HO858.out))) (below_size (by repeat (first | (with_reducible first | exact HB.out | apply below_alloc | apply pw_below_drewN | apply below_drew1) | exact HB.out)))); have n16_ := Aside0.mk (below_step (by repeat (first | (with_reducible first | exact HB.out | apply below_alloc | apply pw_below_drewN | apply below_drew1) | exact HB.out)) hb); clear HO810; clear HO814; clear HO816; clear HO821; clear HO825; clear HO829; clear HO833; clear HO837; clear HO840; clear HO844; clear HO847; clear HO851; clear HO854; clear HO858; clear HO863; clear HB; have HO810 := n0_; have HO814 := n1_; have HO816 := n2_; have HO821 := n3_; have HO825 := n4_; have HO829 := n5_; have HO833 := n6_; have HO837 := n7_; have HO840 := n8_; have HO844 := n9_; have HO847 := n10_; have HO851 := n11_; have HO854 := n12_; have HO858 := n13_; have HO863 := n14_; have HO868 := n15_; have HB := n16_; clear n0_ n1_ n2_ n3_ n4_ n5_ n6_ n7_ n8_ n9_ n10_ n11_ n12_ n13_ n14_ n15_ n16_; clear hb ho62; obtain ⟨Ao63, co63, eo63⟩ := Kd.R_slice HO868.out; subst eo63) | (go_at_call 72; (with_reducible refine (dict_May.calls _ _ t811 _ _ y866 t869 _ ?side1 ?side2 ?side3 ?side4 A28.out).mono ?_); (case side1 => repeat (first | exact (Kd.R_reads' HO814.out).2.2 | (with_reducible refine Kd.C_alloc ?_ _) | (with_reducible refine Kd.C_drewN ?_ _) | (with_reducible refine Kd.C_drew ?_))); (case side2 => exact (Kd.R_reads' HO814.out).2.1); (case side3 => repeat (first | exact (Kd.R_reads' HO868.out).2.2 | (with_reducible refine Kd.C_alloc ?_ _) | (with_reducible refine Kd.C_drewN ?_ _) | (with_reducible refine Kd.C_drew ?_))); (case side4 => exact (Kd.R_reads' HO868.out).2.1); rintro e w64 ⟨rfl, hb⟩; have n0_ := Aside0.mk (Kd.R_below (by (with_reducible repeat (first | apply Kd.R_alloc | apply Kd.R_drewN | apply Kd.R_drew)); exact HO810.out) hb); have n1_ := Aside0.mk (Kd.R_below (by (with_reducible repeat (first | apply Kd.R_alloc | apply Kd.R_drewN | apply Kd.R_drew)); exact HO814.out) hb); have n2_ := Aside0.mk (Kd.R_below (by (with_reducible repeat (first | apply Kd.R_alloc | apply Kd.R_drewN | apply Kd.R_drew)); exact HO816.out) hb); have n3_ := Aside0.mk (Kd.R_below (by (with_reducible repeat (first | apply Kd.R_alloc | apply Kd.R_drewN | apply Kd.R_drew)); exact HO821.out) hb); have n4_ := Aside0.mk (Kd.R_below (by (with_reducible repeat (first | apply Kd.R_alloc | apply Kd.R_drewN | apply Kd.R_drew)); exact HO825.out) hb); have n5_ := Aside0.mk (Kd.R_below (by (with_reducible repeat (first | apply Kd.R_alloc | apply Kd.R_drewN | apply Kd.R_drew)); exact HO829.out) hb); have n6_ := Aside0.mk (Kd.R_below (by (with_reducible repeat (first | apply Kd.R_alloc | apply Kd.R_drewN | apply Kd.R_drew)); exact HO833.out) hb); have n7_ := Aside0.mk (Kd.R_below (by (with_reducible repeat (first | apply Kd.R_alloc | apply Kd.R_drewN | apply Kd.R_drew)); exact HO837.out) hb); have n8_ := Aside0.mk (Kd.R_below (by (with_reducible repeat (first | apply Kd.R_alloc | apply Kd.R_drewN | apply Kd.R_drew)); exact HO840.out) hb); have n9_ := Aside0.mk (Kd.R_below (by (with_reducible repeat (first | apply Kd.R_alloc | apply Kd.R_drewN | apply Kd.R_drew)); exact HO844.out) hb); have n10_ := Aside0.mk (Kd.R_below (by (with_reducible repeat (first | apply Kd.R_alloc | apply Kd.R_drewN | apply Kd.R_drew)); exact HO847.out) hb); have n11_ := Aside0.mk (Kd.R_below (by (with_reducible repeat (first | apply Kd.R_alloc | apply Kd.R_drewN | apply Kd.R_drew)); exact HO851.out) hb); have n12_ := Aside0.mk (Kd.R_below (by (with_reducible repeat (first | apply Kd.R_alloc | apply Kd.R_drewN | apply Kd.R_drew)); exact HO854.out) hb); have n13_ := Aside0.mk (Kd.R_below (by (with_reducible repeat (first | apply Kd.R_alloc | apply Kd.R_drewN | apply Kd.R_drew)); exact HO858.out) hb); have n14_ := Aside0.mk (Kd.R_below (by (with_reducible repeat (first | apply Kd.R_alloc | apply Kd.R_drewN | apply Kd.R_drew)); exact HO863.out) hb); have n15_ := Aside0.mk (Kd.R_below (by (with_reducible repeat (first | apply Kd.R_alloc | apply Kd.R_drewN | apply Kd.R_drew)); exact HO868.out) hb); have n16_ := Aside0.mk (below_step (by repeat (first | (with_reducible first | exact HB.out | apply below_alloc | apply pw_below_drewN | apply below_drew1) | exact HB.out)) hb); clear HO810; clear HO814; clear HO816; clear HO821; clear HO825; clear HO829; clear HO833; clear HO837; clear HO840; clear HO844; clear HO847; clear HO851; clear HO854; clear HO858; clear HO863; clear HO868; clear HB; have HO810 := n0_; have HO814 := n1_; have HO816 := n2_; have HO821 := n3_; have HO825 := n4_; have HO829 := n5_; have HO833 := n6_; have HO837 := n7_; have HO840 := n8_; have HO844 := n9_; have HO847 := n10_; have HO851 := n11_; have HO854 := n12_; have HO858 := n13_; have HO863 := n14_; have HO868 := n15_; have HB := n16_; clear n0_ n1_ n2_ n3_ n4_ n5_ n6_ n7_ n8_ n9_ n10_ n11_ n12_ n13_ n14_ n15_ n16_; (try clear hb); (try clear hb2); (try clear hk); (try clear hi)))
                            go_ret
                            exact ⟨by first | rfl | (simp [errW_none, errW_some] <;> rfl) | (simp [*, errW_none, errW_some] <;> rfl), by repeat (first | (with_reducible first | exact HB.out | apply below_alloc | apply pw_below_drewN | apply below_drew1) | exact HB.out)⟩
                          · replace c27 := Bool.eq_false_iff.mpr c27
                            subst c27
                            have H1 : (none) = some r := by rw [if_neg (show ¬ (false = true) by decide)] at H; exact H
                            clear H
                            have H := H1
                            clear H1
                            exact absurd H (by simp)
                      · replace c24 := Bool.eq_false_iff.mpr c24
                        subst c24
                        have H1 : (none) = some r := by rw [if_neg (show ¬ (false = true) by decide)] at H; exact H
                        clear H
                        have H := H1
                        clear H1
                        exact absurd H (by simp)
                    · replace c23 := Bool.eq_false_iff.mpr c23
                      subst c23
                      have H1 : (none) = some r := by rw [if_neg (show ¬ (false = true) by decide)] at H; exact H
                      clear H
                      have H := H1
                      clear H1
                      exact absurd H (by simp)
                  · rw [if_neg c21] at H
                    exact absurd H (by simp)
                · rw [if_neg c20] at H
                  exact absurd H (by simp)
              · rw [if_neg c19] at H
                exact absurd H (by simp)
            · rw [if_neg c18] at H
              exact absurd H (by simp)
          · rw [if_neg c17] at H
            exact absurd H (by simp)
        · replace c16 := Bool.eq_false_iff.mpr c16
          subst c16
          have H1 : (none) = some r := by rw [if_neg (show ¬ (false = true) by decide)] at H; exact H
          clear H
          have H := H1
          clear H1
          exact absurd H (by simp)
      · rw [if_neg c14] at H
        exact absurd H (by simp)
    · replace c13 := Bool.eq_false_iff.mpr c13
      subst c13
      have H1 : (none) = some r := by rw [if_neg (show ¬ (false = true) by decide)] at H; exact H
      clear H
      have H := H1
      clear H1
      exact absurd H (by simp)
  · replace c11 := Bool.eq_false_iff.mpr c11
    subst c11
    have H1 : (none) = some r := by rw [if_neg (show ¬ (false = true) by decide)] at H; exact H
    clear H
    have H := H1
    clear H1
    exact absurd H (by simp)
def bonsairef08_place.l0 : Nat → List ByteArray → ByteArray → Int → Option (Int)
  | 0, _, _, _ => none
  | k + 1, x0, x1, x5 => if x5 < (x0.length : Int) then (if 0 ≤ x5 then (if (rdOf ByteArray.empty x0 x5).toList = x1.toList then (some x5) else (bonsairef08_place.l0 k x0 x1 (wrap64 (x5 + 1)))) else (none)) else (some (x0.length : Int))
def bonsairef08_place.f (k : Nat) (l0 : List ByteArray) (a1 : ByteArray) : Option (Int) := bonsairef08_place.l0 k l0 a1 0
end Go.Proofs.Ytbgjoiccehiglaa.Print
end
section
namespace Go.Proofs.Ytbgjoiccehiglaa.Print
open Go.RowKit Go.Proofs.YtbgjoiccehiglaaW.PrintWords Go.Proofs.YtbgjoiccehiglaaW.PrintLast Go.Proofs.YtbgjoiccehiglaaW.PrintMore
attribute [local go_sem] max2_int min2_int max_two min_two max_three min_three max_four min_four
set_option linter.unusedVariables false
set_option linter.unusedSimpArgs false
def bonsairef08_Words.l0 : Nat → List ByteArray → List ByteArray → List Int → Int → Option (List ByteArray × List Int)
  | 0, _, _, _, _ => none
  | k + 1, x0, x4, x5, x6 => if x6 < (x0.length : Int) then (if 0 ≤ x6 then ((bonsairef08_place.f k x4 (rdOf ByteArray.empty x0 x6)).bind fun t872 => (if t872 = (x4.length : Int) then (if x4.length < 8796093022208 then (if x5.length < 17592186044416 then (bonsairef08_Words.l0 k x0 (x4 ++ [rdOf ByteArray.empty x0 x6]) (x5 ++ [IntKind.u64.wrap (t872)]) (wrap64 (x6 + 1))) else (none)) else (none)) else (if x5.length < 17592186044416 then (bonsairef08_Words.l0 k x0 x4 (x5 ++ [IntKind.u64.wrap (t872)]) (wrap64 (x6 + 1))) else (none)))) else (none)) else (some (x4, x5))
def bonsairef08_Words.f (k : Nat) (l0 : List ByteArray) : Option (List ByteArray × List Int) := bonsairef08_Words.l0 k l0 ([] : List ByteArray) ([] : List Int) 0
def bonsairef08_Pick.l0 : Nat → List ByteArray → List Int → List ByteArray → Int → Option (List ByteArray × Bool)
  | 0, _, _, _, _ => none
  | k + 1, x0, x1, x6, x7 => if x7 < (x1.length : Int) then (if 0 ≤ x7 then (if (rd x1 x7) ≥ (IntKind.u64.wrap ((x0.length : Int))) then (some (([] : List ByteArray), false)) else (if 0 ≤ (rd x1 x7) then (if (rd x1 x7) < (x0.length : Int) then (if x6.length < 8796093022208 then (bonsairef08_Pick.l0 k x0 x1 (x6 ++ [rdOf ByteArray.empty x0 (rd x1 x7)]) (wrap64 (x7 + 1))) else (none)) else (none)) else (none))) else (none)) else (some (x6, true))
def bonsairef08_Pick.f (k : Nat) (l0 : List ByteArray) (l1 : List Int) : Option (List ByteArray × Bool) := bonsairef08_Pick.l0 k l0 l1 ([] : List ByteArray) 0
def bonsairef08_Encode.l0 : Nat → List ByteArray → List Int → ByteArray → Int → Option (ByteArray)
  | 0, _, _, _, _ => none
  | k + 1, x3, x4, x5, x6 => if x6 < (x3.length : Int) then (if 0 ≤ x6 then ((bonsairef04_Put.f k (rdOf ByteArray.empty x3 x6)).bind fun t897 => (if x5.size + t897.size ≤ 9223372036854775807 then (bonsairef08_Encode.l0 k x3 x4 (x5 ++ t897) (wrap64 (x6 + 1))) else (none))) else (none)) else ((bonsairef06_Encode.f k x4).bind fun t898 => (if x5.size + t898.size ≤ 9223372036854775807 then (some (x5 ++ t898)) else (none)))
def bonsairef08_Encode.f (k : Nat) (l0 : List ByteArray) : Option (ByteArray) := (bonsairef08_Words.f k l0).bind fun bt889 => ((bonsairef03_Put.f k (IntKind.u64.wrap ((bt889.1.length : Int)))).bind fun t895 => (bonsairef08_Encode.l0 k bt889.1 bt889.2 t895 0))
def bonsairef08_May.f (k : Nat) (l0 : List ByteArray) (l1 : List Int) : Option (Bool) := (bonsairef08_Pick.f k l0 l1).bind fun bt899 => (if bt899.2 = true then ((bonsairef08_Words.f k bt899.1).bind fun bt903 => ((bonsairef04_Same.f k bt903.1 l0).bind fun t909 => (if t909 = true then ((bonsairef06_Same.f k bt903.2 l1).bind fun t910 => (some t910)) else (some false)))) else (some false))
end Go.Proofs.Ytbgjoiccehiglaa.Print
end
section
namespace Go.Proofs.Ytbgjoiccehiglaa.Print
open Go.RowKit Go.Proofs.YtbgjoiccehiglaaW.PrintWords Go.Proofs.YtbgjoiccehiglaaW.PrintLast Go.Proofs.YtbgjoiccehiglaaW.PrintMore
attribute [local go_sem] max2_int min2_int max_two min_two max_three min_three max_four min_four
set_option linter.unusedVariables false
set_option linter.unusedSimpArgs false
def bonsairef08_Decode.l0 : Nat → ByteArray → Int → Int → Int → List ByteArray → Int → Int → Option (List ByteArray × Int)
  | 0, _, _, _, _, _, _, _ => none
  | k + 1, x0, x1, x2, x9, x10, x11, x12 => if x12 < x9 then ((bonsairef04_Take.f k x0 x11 x2).bind fun bt947 => (if bt947.2.2 = 0 then (if x10.length < 8796093022208 then (bonsairef08_Decode.l0 k x0 x1 x2 x9 (x10 ++ [bt947.1]) bt947.2.1 (IntKind.u64.wrap (x12 + 1))) else (none)) else (some (([] : List ByteArray), bt947.2.2)))) else (if 0 ≤ x11 then (if x11 ≤ (x0.size : Int) then ((bonsairef06_Decode.f k (x0.extract (x11 : Int).toNat x0.size) x1).bind fun bt953 => (if bt953.2 = 0 then ((bonsairef08_May.f k x10 bt953.1).bind fun t957 => (if t957 = true then ((bonsairef08_Pick.f k x10 bt953.1).bind fun bt958 => (some (bt958.1, 0))) else (some (([] : List ByteArray), 5)))) else (some (([] : List ByteArray), bt953.2)))) else (none)) else (none))
def bonsairef08_Decode.f (k : Nat) (a0 : ByteArray) (a1 : Int) (a2 : Int) : Option (List ByteArray × Int) := if a1 < 0 then (some (([] : List ByteArray), 1)) else (if a1 > 4096 then (some (([] : List ByteArray), 10)) else ((bonsairef03_Reader_Num.f k a0 0 0).bind fun bt943 => (if bt943.2.2.2 = 0 then (if bt943.1 > (IntKind.u64.wrap (a1)) then (some (([] : List ByteArray), 10)) else (bonsairef08_Decode.l0 k a0 a1 a2 bt943.1 ([] : List ByteArray) bt943.2.2.1 0)) else (some (([] : List ByteArray), bt943.2.2.2)))))
end Go.Proofs.Ytbgjoiccehiglaa.Print
end
section
namespace Go.Proofs.Ytbgjoiccehiglaa.LibK
open Go.RowKit Go.Proofs.Ytbgjoiccehiglaa.Print Go.Proofs.YtbgjoiccehiglaaW.PrintWords Go.Proofs.YtbgjoiccehiglaaW.PrintLast Go.Proofs.YtbgjoiccehiglaaW.PrintMore Go.Proofs.Ytbgjoiccehiglaa.LibU Go.Proofs.Ytbgjoiccehiglaa.LibV Go.Proofs.Ytbgjoiccehiglaa.LibW Go.Proofs.Ytbgjoiccehiglaa.LibX Go.Proofs.Ytbgjoiccehiglaa.LibY
theorem tl_eq (a b : ByteArray) : a.toList = b.toList ↔ a = b := by
  rw [ByteArray.toList_eq, ByteArray.toList_eq, Array.toList_inj]
  exact ⟨fun h => ByteArray.ext h, fun h => h ▸ rfl⟩
theorem dl_eq (a b : ByteArray) : a.data.toList = b.data.toList ↔ a = b := by
  rw [Array.toList_inj]
  exact ⟨fun h => ByteArray.ext h, fun h => h ▸ rfl⟩
theorem rd_txt {l : List ByteArray} {i : Nat} (h : i < l.length) : rdOf ByteArray.empty l (i : Int) = l[i] := by
  simp [rdOf, List.getD_eq_getElem?_getD, h]
theorem same4_l (a b : List ByteArray) (hl : (a.length : Int) ≤ 1000000000000) (hab : a.length = b.length) : ∀ (d k i : Nat), i + d = a.length → d + 1 ≤ k → bonsairef04_Same.l0 k a b (i : Int) = some (decide (a.drop i = b.drop i))
  | 0, k, i, hd, hk => by
    obtain ⟨k, rfl⟩ : ∃ k', k = k' + 1 := ⟨k - 1, by omega⟩
    unfold bonsairef04_Same.l0
    rw [if_neg (by omega), List.drop_eq_nil_of_le (by omega), List.drop_eq_nil_of_le (by omega)]
    simp
  | d + 1, k, i, hd, hk => by
    obtain ⟨k, rfl⟩ : ∃ k', k = k' + 1 := ⟨k - 1, by omega⟩
    have hi : i < a.length := by omega
    have hj : i < b.length := by omega
    unfold bonsairef04_Same.l0
    rw [if_pos (by omega), if_pos (by omega), if_pos (by omega), rd_txt hi, rd_txt hj, w64 (by omega) (by omega), show (i : Int) + 1 = ((i + 1 : Nat) : Int) by omega]
    rw [same4_l a b hl hab d k (i + 1) (by omega) (by omega)]
    have e : a.drop i = b.drop i ↔ a[i] = b[i] ∧ a.drop (i + 1) = b.drop (i + 1) := by rw [List.drop_eq_getElem_cons hi, List.drop_eq_getElem_cons hj, List.cons.injEq]
    by_cases h : a[i] = b[i]
    · rw [if_pos ((tl_eq _ _).mpr h)]
      congr 1
      rw [decide_eq_decide, e]
      exact ⟨fun h' => ⟨h, h'⟩, fun h' => h'.2⟩
    · rw [if_neg (fun h' => h ((tl_eq _ _).mp h'))]
      congr 1
      symm
      rw [decide_eq_false_iff_not, e]
      exact fun h' => h h'.1
theorem same4 (a b : List ByteArray) (hl : (a.length : Int) ≤ 1000000000000) (k : Nat) (hk : a.length + 1 ≤ k) : bonsairef04_Same.f k a b = some (decide (a = b)) := by
  unfold bonsairef04_Same.f
  by_cases h : a.length = b.length
  · rw [if_pos (by omega)]
    have := same4_l a b hl h a.length k 0 (by omega) (by omega)
    simpa using this
  · rw [if_neg (by omega)]
    have : a ≠ b := fun e => h (by rw [e])
    simp [this]
theorem same6_l (a b : List Int) (hl : (a.length : Int) ≤ 1000000000000) (hab : a.length = b.length) : ∀ (d k i : Nat), i + d = a.length → d + 1 ≤ k → bonsairef06_Same.l0 k a b (i : Int) = some (decide (a.drop i = b.drop i))
  | 0, k, i, hd, hk => by
    obtain ⟨k, rfl⟩ : ∃ k', k = k' + 1 := ⟨k - 1, by omega⟩
    unfold bonsairef06_Same.l0
    rw [if_neg (by omega), List.drop_eq_nil_of_le (by omega), List.drop_eq_nil_of_le (by omega)]
    simp
  | d + 1, k, i, hd, hk => by
    obtain ⟨k, rfl⟩ : ∃ k', k = k' + 1 := ⟨k - 1, by omega⟩
    have hi : i < a.length := by omega
    have hj : i < b.length := by omega
    unfold bonsairef06_Same.l0
    rw [if_pos (by omega), if_pos (by omega), if_pos (by omega), rd_at a i hi, rd_at b i hj, w64 (by omega) (by omega), show (i : Int) + 1 = ((i + 1 : Nat) : Int) by omega]
    rw [same6_l a b hl hab d k (i + 1) (by omega) (by omega)]
    have e : a.drop i = b.drop i ↔ a[i] = b[i] ∧ a.drop (i + 1) = b.drop (i + 1) := by rw [List.drop_eq_getElem_cons hi, List.drop_eq_getElem_cons hj, List.cons.injEq]
    by_cases h : a[i] = b[i]
    · rw [if_pos h]
      congr 1
      rw [decide_eq_decide, e]
      exact ⟨fun h' => ⟨h, h'⟩, fun h' => h'.2⟩
    · rw [if_neg h]
      congr 1
      symm
      rw [decide_eq_false_iff_not, e]
      exact fun h' => h h'.1
theorem same6 (a b : List Int) (hl : (a.length : Int) ≤ 1000000000000) (k : Nat) (hk : a.length + 1 ≤ k) : bonsairef06_Same.f k a b = some (decide (a = b)) := by
  unfold bonsairef06_Same.f
  by_cases h : a.length = b.length
  · rw [if_pos (by omega)]
    have := same6_l a b hl h a.length k 0 (by omega) (by omega)
    simpa using this
  · rw [if_neg (by omega)]
    have : a ≠ b := fun e => h (by rw [e])
    simp [this]
def placeOf (w : List ByteArray) (s : ByteArray) : Int := match wordAt s w 0 with | some j => (j : Int) | none => (w.length : Int)
theorem place_l (w : List ByteArray) (s : ByteArray) (hl : (w.length : Int) ≤ 1000000000000) : ∀ (d k i : Nat), i + d = w.length → d + 1 ≤ k →
    bonsairef08_place.l0 k w s (i : Int) = some (match wordAt s (w.drop i) i with | some j => (j : Int) | none => (w.length : Int))
  | 0, k, i, hd, hk => by
    obtain ⟨k, rfl⟩ : ∃ k', k = k' + 1 := ⟨k - 1, by omega⟩
    unfold bonsairef08_place.l0
    rw [if_neg (by omega), List.drop_eq_nil_of_le (by omega)]
    rfl
  | d + 1, k, i, hd, hk => by
    obtain ⟨k, rfl⟩ : ∃ k', k = k' + 1 := ⟨k - 1, by omega⟩
    have hi : i < w.length := by omega
    unfold bonsairef08_place.l0
    rw [if_pos (by omega), if_pos (by omega), rd_txt hi, w64 (by omega) (by omega), show (i : Int) + 1 = ((i + 1 : Nat) : Int) by omega]
    rw [place_l w s hl d k (i + 1) (by omega) (by omega), List.drop_eq_getElem_cons hi]
    by_cases h : w[i] = s
    · rw [if_pos ((tl_eq _ _).mpr h)]
      simp only [wordAt]
      rw [if_pos ((dl_eq _ _).mpr h)]
    · rw [if_neg (fun h' => h ((tl_eq _ _).mp h'))]
      simp only [wordAt]
      rw [if_neg (fun h' => h ((dl_eq _ _).mp h'))]
theorem place_some (w : List ByteArray) (s : ByteArray) (hl : (w.length : Int) ≤ 1000000000000) (k : Nat) (hk : w.length + 1 ≤ k) : bonsairef08_place.f k w s = some (placeOf w s) := by
  have := place_l w s hl w.length k 0 (by omega) hk
  simpa [bonsairef08_place.f, placeOf] using this
theorem refWords_l (l : List ByteArray) (hl : (l.length : Int) ≤ 1000000000000) : ∀ (d k i : Nat) (w : List ByteArray) (a : List Int), i + d = l.length → w.length ≤ i → a.length = i → l.length + d + 2 ≤ k →
    bonsairef08_Words.l0 k l w a (i : Int) = some (dictG (l.drop i) w a)
  | 0, k, i, w, a, hd, hw, ha, hk => by
    obtain ⟨k, rfl⟩ : ∃ k', k = k' + 1 := ⟨k - 1, by omega⟩
    unfold bonsairef08_Words.l0
    rw [if_neg (by omega), List.drop_eq_nil_of_le (by omega)]
    rfl
  | d + 1, k, i, w, a, hd, hw, ha, hk => by
    obtain ⟨k, rfl⟩ : ∃ k', k = k' + 1 := ⟨k - 1, by omega⟩
    have hi : i < l.length := by omega
    unfold bonsairef08_Words.l0
    rw [if_pos (by omega), if_pos (by omega), rd_txt hi, w64 (by omega) (by omega), show (i : Int) + 1 = ((i + 1 : Nat) : Int) by omega]
    rw [place_some w _ (by omega) k (by omega), List.drop_eq_getElem_cons hi]
    simp only [Option.bind_some, placeOf, dictG]
    cases hq : wordAt l[i] w 0 with
    | none =>
      simp only
      rw [if_pos trivial, if_pos (by omega), if_pos (by omega), w64' (by omega) (by omega)]
      exact refWords_l l hl d k (i + 1) _ _ (by omega) (by simp; omega) (by simp; omega) (by omega)
    | some j =>
      have := wordAt_lt _ _ _ _ hq
      simp only
      rw [if_neg (by omega), if_pos (by omega), w64' (by omega) (by omega)]
      exact refWords_l l hl d k (i + 1) _ _ (by omega) (by omega) (by simp; omega) (by omega)
theorem refWords_some (l : List ByteArray) (hl : (l.length : Int) ≤ 1000000000000) (k : Nat) (hk : 2 * l.length + 2 ≤ k) : bonsairef08_Words.f k l = some (dictG l [] []) :=
  refWords_l l hl l.length k 0 [] [] (by omega) (Nat.le_refl _) rfl (by omega)
def Short (l : List ByteArray) : Prop := ∀ s ∈ l, s.size ≤ 140737488355328
theorem words_some (l : List ByteArray) (hl : (l.length : Int) ≤ 1000000000000) (hs : Short l) : dict_Words.f l = some (dictG l [] []) := by
  unfold dict_Words.f
  rw [if_pos ⟨by omega, hs⟩]
def pickOf (w : List ByteArray) (at_ : List Int) : List ByteArray × Bool := match dictP w at_ [] with | none => ([], false) | some o => (o, true)
theorem refPick_l (w : List ByteArray) (l : List Int) (hw : (w.length : Int) ≤ 1000000000000) (hl : (l.length : Int) ≤ 1000000000000) (h0 : ∀ x ∈ l, 0 ≤ x) : ∀ (d k i : Nat) (o : List ByteArray), i + d = l.length → o.length = i → d + 1 ≤ k →
    bonsairef08_Pick.l0 k w l o (i : Int) = some (match dictP w (l.drop i) o with | none => ([], false) | some o => (o, true))
  | 0, k, i, o, hd, ho, hk => by
    obtain ⟨k, rfl⟩ : ∃ k', k = k' + 1 := ⟨k - 1, by omega⟩
    unfold bonsairef08_Pick.l0
    rw [if_neg (by omega), List.drop_eq_nil_of_le (by omega)]
    rfl
  | d + 1, k, i, o, hd, ho, hk => by
    obtain ⟨k, rfl⟩ : ∃ k', k = k' + 1 := ⟨k - 1, by omega⟩
    have hi : i < l.length := by omega
    have hx := h0 l[i] (List.getElem_mem hi)
    unfold bonsairef08_Pick.l0
    rw [if_pos (by omega), if_pos (by omega), rd_at l i hi, w64 (by omega) (by omega), show (i : Int) + 1 = ((i + 1 : Nat) : Int) by omega, w64' (by omega) (by omega), List.drop_eq_getElem_cons hi]
    simp only [dictP]
    by_cases h : l[i] ≥ (w.length : Int)
    · rw [if_pos h, if_pos h]
    · rw [if_neg h, if_pos hx, if_pos (by omega), if_pos (by omega), if_neg h]
      exact refPick_l w l hw hl h0 d k (i + 1) _ (by omega) (by simp; omega) (by omega)
theorem refPick_some (w : List ByteArray) (l : List Int) (hw : (w.length : Int) ≤ 1000000000000) (hl : (l.length : Int) ≤ 1000000000000) (h0 : ∀ x ∈ l, 0 ≤ x) (k : Nat) (hk : l.length + 1 ≤ k) : bonsairef08_Pick.f k w l = some (pickOf w l) :=
  refPick_l w l hw hl h0 l.length k 0 [] (by omega) rfl hk
theorem pick_some (w : List ByteArray) (l : List Int) (hw : (w.length : Int) ≤ 1000000000000) (hl : (l.length : Int) ≤ 1000000000000) (h0 : ∀ x ∈ l, 0 ≤ x) : dict_Pick.f w l = some (pickOf w l) := by
  unfold dict_Pick.f pickOf
  rw [if_pos ⟨by omega, by omega, h0⟩]
  cases dictP w l [] <;> rfl
end Go.Proofs.Ytbgjoiccehiglaa.LibK
end
section
namespace Go.Proofs.Ytbgjoiccehiglaa.LibL
open Go.RowKit Go.Proofs.Ytbgjoiccehiglaa.Print Go.Proofs.YtbgjoiccehiglaaW.PrintWords Go.Proofs.YtbgjoiccehiglaaW.PrintLast Go.Proofs.YtbgjoiccehiglaaW.PrintMore Go.Proofs.Ytbgjoiccehiglaa.LibU Go.Proofs.Ytbgjoiccehiglaa.LibV Go.Proofs.Ytbgjoiccehiglaa.LibC Go.Proofs.Ytbgjoiccehiglaa.LibE Go.Proofs.Ytbgjoiccehiglaa.LibW Go.Proofs.Ytbgjoiccehiglaa.LibX Go.Proofs.Ytbgjoiccehiglaa.LibY Go.Proofs.Ytbgjoiccehiglaa.LibK Go.Proofs.Ytbgjoiccehiglaa.Pure
theorem nodup_inj {l : List ByteArray} (hn : l.Nodup) {i j : Nat} {hi : i < l.length} {hj : j < l.length} (h : l[i] = l[j]) : i = j := by
  rcases Nat.lt_trichotomy i j with h1 | h1 | h1
  · exact absurd h (List.pairwise_iff_getElem.mp hn i j hi hj h1)
  · exact h1
  · exact absurd h.symm (List.pairwise_iff_getElem.mp hn j i hj hi h1)
theorem wordAt_none (s : ByteArray) : ∀ (l : List ByteArray) (i : Nat), wordAt s l i = none ↔ s ∉ l
  | [], i => by simp [wordAt]
  | x :: l, i => by
    simp only [wordAt, dl_eq]
    by_cases h : x = s
    · rw [if_pos h]; simp [h]
    · rw [if_neg h, wordAt_none s l (i + 1)]
      simp only [List.mem_cons, not_or]
      exact ⟨fun h' => ⟨fun e => h e.symm, h'⟩, fun h' => h'.2⟩
theorem wordAt_some (s : ByteArray) : ∀ (l : List ByteArray) (i k : Nat), wordAt s l i = some k → ∃ h : k - i < l.length, i ≤ k ∧ l[k - i] = s
  | [], i, k, h => by simp [wordAt] at h
  | x :: l, i, k, h => by
    simp only [wordAt, dl_eq] at h
    by_cases hx : x = s
    · rw [if_pos hx] at h
      obtain rfl := Option.some.inj h
      refine ⟨by simp, Nat.le_refl _, ?_⟩
      simp only [Nat.sub_self, List.getElem_cons_zero]
      exact hx
    · rw [if_neg hx] at h
      obtain ⟨h1, h2, h3⟩ := wordAt_some s l (i + 1) k h
      refine ⟨by simp only [List.length_cons]; omega, by omega, ?_⟩
      simp only [show k - i = (k - (i + 1)) + 1 by omega, List.getElem_cons_succ]
      exact h3
theorem wordAt_at {l : List ByteArray} (hn : l.Nodup) (j : Nat) (hj : j < l.length) : wordAt l[j] l 0 = some j := by
  cases h : wordAt l[j] l 0 with
  | none => exact absurd (List.getElem_mem hj) ((wordAt_none _ _ _).mp h)
  | some k =>
    obtain ⟨h1, _, h3⟩ := wordAt_some _ _ _ _ h
    simp only [Nat.sub_zero] at h1 h3
    congr 1
    exact nodup_inj hn h3
theorem dictG_acc : ∀ (l w : List ByteArray) (a : List Int), dictG l w a = ((dictG l w []).1, a ++ (dictG l w []).2)
  | [], w, a => by simp [dictG]
  | s :: l, w, a => by
    simp only [dictG]
    cases wordAt s w 0 with
    | none => simp only; rw [dictG_acc l _ (a ++ [_]), dictG_acc l _ ([] ++ [_])]; simp
    | some k => simp only; rw [dictG_acc l _ (a ++ [_]), dictG_acc l _ ([] ++ [_])]; simp
theorem dictG_nodup : ∀ (l w : List ByteArray) (a : List Int), w.Nodup → (dictG l w a).1.Nodup
  | [], w, a, h => h
  | s :: l, w, a, h => by
    simp only [dictG]
    cases hq : wordAt s w 0 with
    | none =>
      simp only
      refine dictG_nodup l _ _ ?_
      have := (wordAt_none _ _ _).mp hq
      rw [List.nodup_append]
      refine ⟨h, by simp, ?_⟩
      intro x hx y hy e
      simp at hy
      subst hy e
      exact this hx
    | some k => exact dictG_nodup l _ _ h
theorem dictG_len : ∀ (l w : List ByteArray) (a : List Int), (dictG l w a).2.length = a.length + l.length ∧ w.length ≤ (dictG l w a).1.length ∧ (dictG l w a).1.length ≤ w.length + l.length
  | [], w, a => by simp [dictG]
  | s :: l, w, a => by
    simp only [dictG]
    cases wordAt s w 0 with
    | none => have := dictG_len l (w ++ [s]) (a ++ [(w.length : Int)]); simp at this ⊢; omega
    | some k => have := dictG_len l w (a ++ [(k : Int)]); simp at this ⊢; omega
theorem dictG_mem : ∀ (l w : List ByteArray) (a : List Int) (x : ByteArray), x ∈ (dictG l w a).1 → x ∈ w ∨ x ∈ l
  | [], w, a, x, h => .inl h
  | s :: l, w, a, x, h => by
    simp only [dictG] at h
    cases hq : wordAt s w 0 with
    | none =>
      rw [hq] at h
      rcases dictG_mem l _ _ x h with h | h
      · simp at h; rcases h with h | h
        · exact .inl h
        · exact .inr (by simp [h])
      · exact .inr (by simp [h])
    | some k =>
      rw [hq] at h
      rcases dictG_mem l _ _ x h with h | h
      · exact .inl h
      · exact .inr (by simp [h])
theorem dictG_at : ∀ (l w : List ByteArray) (a : List Int), w.length ≤ 1000000000000 → (∀ x ∈ a, 0 ≤ x ∧ x < w.length) → ∀ x ∈ (dictG l w a).2, 0 ≤ x ∧ x < (dictG l w a).1.length
  | [], w, a, hw, h => h
  | s :: l, w, a, hw, h => by
    simp only [dictG]
    cases hq : wordAt s w 0 with
    | none =>
      by_cases hb : (w ++ [s]).length ≤ 1000000000000
      · refine dictG_at l _ _ hb ?_
        intro x hx
        simp only [List.mem_append, List.mem_singleton, List.length_append, List.length_singleton] at hx ⊢
        rcases hx with hx | rfl
        · have := h x hx; omega
        · omega
      · refine dictG_at' l _ _ ?_
        intro x hx
        simp only [List.mem_append, List.mem_singleton, List.length_append, List.length_singleton] at hx ⊢
        rcases hx with hx | rfl
        · have := h x hx; omega
        · omega
    | some k =>
      have hk := wordAt_lt _ _ _ _ hq
      refine dictG_at l _ _ hw ?_
      intro x hx
      simp only [List.mem_append, List.mem_singleton] at hx
      rcases hx with hx | rfl
      · exact h x hx
      · omega
where dictG_at' : ∀ (l w : List ByteArray) (a : List Int), (∀ x ∈ a, 0 ≤ x ∧ x < w.length) → ∀ x ∈ (dictG l w a).2, 0 ≤ x ∧ x < (dictG l w a).1.length
  | [], w, a, h => h
  | s :: l, w, a, h => by
    simp only [dictG]
    cases hq : wordAt s w 0 with
    | none =>
      refine dictG_at' l _ _ ?_
      intro x hx
      simp only [List.mem_append, List.mem_singleton, List.length_append, List.length_singleton] at hx ⊢
      rcases hx with hx | rfl
      · have := h x hx; omega
      · omega
    | some k =>
      have hk := wordAt_lt _ _ _ _ hq
      refine dictG_at' l _ _ ?_
      intro x hx
      simp only [List.mem_append, List.mem_singleton] at hx
      rcases hx with hx | rfl
      · exact h x hx
      · omega
def pk (w : List ByteArray) (l : List Int) : List ByteArray := l.map (fun k => rdOf ByteArray.empty w k)
theorem dictP_is (w : List ByteArray) : ∀ (l : List Int) (o : List ByteArray), dictP w l o = if ∀ x ∈ l, x < (w.length : Int) then some (o ++ pk w l) else none
  | [], o => by simp [dictP, pk]
  | x :: l, o => by
    simp only [dictP]
    rw [dictP_is w l]
    by_cases h : x ≥ (w.length : Int)
    · rw [if_pos h, if_neg (fun h' => by have := h' x (by simp); omega)]
    · rw [if_neg h]
      by_cases h2 : ∀ y ∈ l, y < (w.length : Int)
      · rw [if_pos h2, if_pos (fun y hy => (List.mem_cons.mp hy).elim (fun e => by omega) (fun hy => h2 y hy))]
        simp [pk]
      · rw [if_neg h2, if_neg (fun h' => h2 (fun y hy => h' y (by simp [hy])))]
def mayD (w : List ByteArray) (l : List Int) : Bool := match dictP w l [] with | none => false | some o => decide (dictG o [] [] = (w, l))
theorem dictM_is (w : List ByteArray) (hn : w.Nodup) : ∀ (l : List Int) (m : Nat) (a : List Int), m ≤ w.length → (∀ x ∈ l, 0 ≤ x) → (∀ x ∈ l, x < (w.length : Int)) →
    (match dictM (w.length : Int) l (m : Int) with
      | none => (dictG (pk w l) (w.take m) a).2 ≠ a ++ l
      | some met => ∃ q : Nat, met = (q : Int) ∧ q ≤ w.length ∧ dictG (pk w l) (w.take m) a = (w.take q, a ++ l))
  | [], m, a, hm, _, _ => by
    simp only [dictM, pk, List.map_nil, dictG]
    exact ⟨m, rfl, hm, by simp⟩
  | x :: l, m, a, hm, h0, h1 => by
    have hx0 := h0 x (by simp)
    have hx1 := h1 x (by simp)
    obtain ⟨j, rfl⟩ := Int.eq_ofNat_of_zero_le hx0
    have hj : j < w.length := by omega
    have hrd : rdOf ByteArray.empty w (j : Int) = w[j] := rd_txt hj
    simp only [dictM, pk, List.map_cons, hrd, dictG]
    by_cases hjm : (j : Int) > m
    · rw [if_pos hjm]
      simp only
      have hnot : wordAt w[j] (w.take m) 0 = none := by
        rw [wordAt_none]
        intro hmem
        obtain ⟨q, hq, he⟩ := List.mem_iff_getElem.mp hmem
        simp only [List.length_take] at hq
        rw [List.getElem_take] at he
        have := nodup_inj hn he
        omega
      rw [hnot]
      simp only
      rw [dictG_acc]
      simp only [List.length_take]
      intro he
      rw [List.append_assoc, List.append_cancel_left_eq, List.singleton_append, List.cons.injEq] at he
      omega
    · rw [if_neg hjm, if_neg (by omega)]
      by_cases hje : j = m
      · subst hje
        have hnot : wordAt w[j] (w.take j) 0 = none := by
          rw [wordAt_none]
          intro hmem
          obtain ⟨q, hq, he⟩ := List.mem_iff_getElem.mp hmem
          simp only [List.length_take] at hq
          rw [List.getElem_take] at he
          have := nodup_inj hn he
          omega
        rw [hnot, show mx (j : Int) ((j : Int) + 1) = ((j + 1 : Nat) : Int) by unfold mx; split <;> omega]
        have ih := dictM_is w hn l (j + 1) (a ++ [(j : Int)]) (by omega) (fun y hy => h0 y (by simp [hy])) (fun y hy => h1 y (by simp [hy]))
        simp only [List.append_assoc, List.singleton_append] at ih
        rw [List.take_succ_eq_append_getElem hj] at ih
        have hl : (w.take j).length = j := by simp; omega
        simp only [hl, pk] at ih ⊢
        exact ih
      · have hlt : j < m := by omega
        have hin : wordAt w[j] (w.take m) 0 = some j := by
          have := wordAt_at (l := w.take m) (hn.sublist (List.take_sublist m w)) j (by simp; omega)
          rwa [List.getElem_take] at this
        rw [hin, show mx (m : Int) ((j : Int) + 1) = (m : Int) by unfold mx; split <;> omega]
        have ih := dictM_is w hn l m (a ++ [(j : Int)]) hm (fun y hy => h0 y (by simp [hy])) (fun y hy => h1 y (by simp [hy]))
        simp only [List.append_assoc, List.singleton_append] at ih
        simp only [pk] at ih ⊢
        exact ih
theorem dictM_big (n : Int) : ∀ (l : List Int) (m : Int), (¬ ∀ x ∈ l, x < n) → dictM n l m = none
  | [], m, h => absurd (by simp) h
  | x :: l, m, h => by
    simp only [dictM]
    by_cases h1 : x > m
    · rw [if_pos h1]
    · rw [if_neg h1]
      by_cases h2 : x ≥ n
      · rw [if_pos h2]
      · rw [if_neg h2]
        refine dictM_big n l _ (fun h' => h ?_)
        intro y hy
        rcases List.mem_cons.mp hy with rfl | hy
        · omega
        · exact h' y hy
theorem uniq_nodup : ∀ (l w : List ByteArray), (w ++ l).Nodup → uniq l w = w ++ l
  | [], w, h => by simp [uniq]
  | s :: l, w, h => by
    have hs : wordAt s w 0 = none := by
      rw [wordAt_none]
      intro hm
      rw [List.nodup_append] at h
      exact h.2.2 s hm s (by simp) rfl
    simp only [uniq, hs]
    have := uniq_nodup l (w ++ [s]) (by simpa using h)
    simpa using this
theorem uniq_conv : ∀ (l w : List ByteArray), w.Nodup → (uniq l w).length = w.length + l.length → (w ++ l).Nodup
  | [], w, h, _ => by simpa using h
  | s :: l, w, h, he => by
    simp only [uniq] at he
    cases hs : wordAt s w 0 with
    | some k =>
      rw [hs] at he
      have := uniq_len l w
      simp only [List.length_cons] at he
      omega
    | none =>
      rw [hs] at he
      have hn := (wordAt_none _ _ _).mp hs
      have := uniq_conv l (w ++ [s]) (by
        rw [List.nodup_append]
        refine ⟨h, by simp, ?_⟩
        intro x hx y hy e
        simp at hy
        subst hy e
        exact hn hx) (by simp at he ⊢; omega)
      simpa using this
theorem may_some (w : List ByteArray) (l : List Int) (hw : (w.length : Int) ≤ 1000000000000) (hs : Short w) (hl : (l.length : Int) ≤ 1000000000000) (h0 : ∀ x ∈ l, 0 ≤ x) : dict_May.f w l = some (mayD w l) := by
  unfold dict_May.f mayD
  rw [if_pos ⟨by omega, hs, by omega, h0⟩, dictP_is]
  by_cases hall : ∀ x ∈ l, x < (w.length : Int)
  · rw [if_pos hall]
    simp only [List.nil_append]
    by_cases hn : w.Nodup
    · have hm := dictM_is w hn l 0 [] (by omega) h0 hall
      simp only [Int.natCast_zero, List.take_zero, List.nil_append] at hm
      cases hd : dictM (w.length : Int) l 0 with
      | none =>
        rw [hd] at hm
        simp only at hm ⊢
        congr 1
        symm
        rw [decide_eq_false_iff_not]
        intro e
        exact hm (by rw [e])
      | some met =>
        rw [hd] at hm
        simp only at hm ⊢
        obtain ⟨q, rfl, hq, he⟩ := hm
        have hu : uniq w [] = w := by simpa using uniq_nodup w [] (by simpa using hn)
        by_cases hqe : q = w.length
        · rw [if_pos (by omega)]
          congr 1
          rw [decide_eq_decide, he, hu, hqe]
          simp
        · rw [if_neg (by omega)]
          congr 1
          symm
          rw [decide_eq_false_iff_not, he]
          intro e
          have := congrArg (fun p => p.1.length) e
          simp at this
          omega
    · have hF : decide (dictG (pk w l) [] [] = (w, l)) = false := by
        rw [decide_eq_false_iff_not]
        intro e
        have := dictG_nodup (pk w l) [] [] (by simp)
        rw [e] at this
        exact hn this
      rw [hF]
      cases dictM (w.length : Int) l 0 with
      | none => rfl
      | some met =>
        simp only
        split
        · congr 1
          rw [decide_eq_false_iff_not]
          intro e
          have := uniq_conv w [] (by simp) (by simpa using e)
          exact hn (by simpa using this)
        · rfl
  · rw [if_neg hall, dictM_big _ _ _ hall]
theorem refMay_some (w : List ByteArray) (l : List Int) (hw : (w.length : Int) ≤ 1000000000000) (hl : (l.length : Int) ≤ 1000000000000) (h0 : ∀ x ∈ l, 0 ≤ x) (k : Nat) (hk : 2 * l.length + 2 ≤ k) : bonsairef08_May.f k w l = some (mayD w l) := by
  unfold bonsairef08_May.f mayD
  rw [refPick_some w l hw hl h0 k (by omega)]
  simp only [Option.bind_some, pickOf]
  rw [dictP_is]
  by_cases hall : ∀ x ∈ l, x < (w.length : Int)
  · rw [if_pos hall]
    simp only [List.nil_append, if_true]
    have hpl : (pk w l).length = l.length := by simp [pk]
    rw [refWords_some _ (by omega) k (by omega)]
    simp only [Option.bind_some]
    have hlen := dictG_len (pk w l) [] []
    simp only [List.length_nil] at hlen
    rw [same4 _ _ (by omega) k (by omega)]
    simp only [Option.bind_some, decide_eq_true_eq]
    by_cases h1 : (dictG (pk w l) [] []).1 = w
    · rw [if_pos h1, same6 _ _ (by omega) k (by omega)]
      simp only [Option.bind_some]
      congr 1
      rw [decide_eq_decide]
      exact ⟨fun h2 => Prod.ext h1 h2, fun h2 => by rw [h2]⟩
    · rw [if_neg h1]
      congr 1
      symm
      rw [decide_eq_false_iff_not]
      intro e
      exact h1 (by rw [e])
  · rw [if_neg hall]
    rfl
end Go.Proofs.Ytbgjoiccehiglaa.LibL
end
section
namespace Go.Proofs.Ytbgjoiccehiglaa.LibM
open Go.RowKit Go.Proofs.Ytbgjoiccehiglaa.Print Go.Proofs.YtbgjoiccehiglaaW.PrintWords Go.Proofs.YtbgjoiccehiglaaW.PrintLast Go.Proofs.YtbgjoiccehiglaaW.PrintMore Go.Proofs.Ytbgjoiccehiglaa.LibD Go.Proofs.Ytbgjoiccehiglaa.LibU Go.Proofs.Ytbgjoiccehiglaa.LibV Go.Proofs.Ytbgjoiccehiglaa.LibC Go.Proofs.Ytbgjoiccehiglaa.LibE Go.Proofs.Ytbgjoiccehiglaa.LibW Go.Proofs.Ytbgjoiccehiglaa.LibX Go.Proofs.Ytbgjoiccehiglaa.LibY Go.Proofs.Ytbgjoiccehiglaa.LibK Go.Proofs.Ytbgjoiccehiglaa.LibL
noncomputable def putW (t : ByteArray) : ByteArray := put t.size ++ t
noncomputable def putWs : List ByteArray → ByteArray
  | [] => noText
  | t :: l => putW t ++ putWs l
theorem putW_size (t : ByteArray) : (putW t).size ≤ t.size + 10 ∧ 1 ≤ (putW t).size := by
  have := put_size t.size
  unfold putW
  rw [ByteArray.size_append]
  omega
theorem putWs_size : ∀ (l : List ByteArray), (∀ x ∈ l, x.size ≤ 1000000) → (putWs l).size ≤ 1000010 * l.length
  | [], _ => Nat.zero_le _
  | t :: l, h => by
    have h1 := putW_size t
    have h2 := h t (List.mem_cons_self)
    have h3 := putWs_size l (fun x hx => h x (List.mem_cons_of_mem _ hx))
    simp only [putWs, ByteArray.size_append, List.length_cons]
    omega
theorem putW_both (t : ByteArray) (ht : t.size ≤ 1000000) (k : Nat) (hk : 10 ≤ k) : word_Put.f k t = some (putW t) ∧ bonsairef04_Put.f k t = some (putW t) := by
  have := wordPut t (by omega) k hk
  exact ⟨this.1, this.2.trans this.1⟩
theorem enc_words (k : Nat) (hk : 10 ≤ k) : ∀ (l : List ByteArray) (acc : ByteArray), (∀ x ∈ l, x.size ≤ 1000000) → acc.size + 1000010 * l.length ≤ 140737488355328 → dict_Encode.g k l acc = some (acc ++ putWs l)
  | [], acc, _, _ => by rw [dict_Encode.g, putWs, app_no]
  | t :: l, acc, h, hs => by
    have ht := h t (List.mem_cons_self)
    have hz := putW_size t
    simp only [List.length_cons] at hs
    simp only [dict_Encode.g, (putW_both t ht k hk).1, Option.bind_some]
    rw [if_pos (by omega), enc_words k hk l _ (fun x hx => h x (List.mem_cons_of_mem _ hx)) (by rw [ByteArray.size_append]; omega), putWs, ByteArray.append_assoc]
theorem refEnc_words (w : List ByteArray) (a : List Int) (hw : (w.length : Int) ≤ 1000000) (hs : ∀ x ∈ w, x.size ≤ 1000000) (ha : (a.length : Int) ≤ 1000000) (ha0 : ∀ x ∈ a, 0 ≤ x ∧ x < 18446744073709551616) :
    ∀ (d k i : Nat) (acc : ByteArray), i + d = w.length → d + a.length + 20 ≤ k → acc.size + 1000010 * d ≤ 140737488355328 → bonsairef08_Encode.l0 k w a acc (i : Int) = some (acc ++ (putWs (w.drop i) ++ encR (runs a)))
  | 0, k, i, acc, hd, hk, hz => by
    obtain ⟨k, rfl⟩ : ∃ k', k = k' + 1 := ⟨k - 1, by omega⟩
    have h1 := encR_size (runs a)
    have h2 := len_runs a
    unfold bonsairef08_Encode.l0
    rw [if_neg (by omega), List.drop_eq_nil_of_le (by omega), (enc_some a (by omega) ha0 k (by omega)).2]
    simp only [Option.bind_some, putWs]
    rw [if_pos (by omega), no_app]
  | d + 1, k, i, acc, hd, hk, hz => by
    obtain ⟨k, rfl⟩ : ∃ k', k = k' + 1 := ⟨k - 1, by omega⟩
    have hi : i < w.length := by omega
    have ht := hs w[i] (List.getElem_mem hi)
    have hp := putW_size w[i]
    unfold bonsairef08_Encode.l0
    rw [if_pos (by omega), if_pos (by omega), rd_txt hi, LibV.w64 (by omega) (by omega), show (i : Int) + 1 = ((i + 1 : Nat) : Int) by omega, (putW_both _ ht k (by omega)).2]
    simp only [Option.bind_some]
    rw [if_pos (by omega), refEnc_words w a hw hs ha ha0 d k (i + 1) _ (by omega) (by omega) (by rw [ByteArray.size_append]; omega), List.drop_eq_getElem_cons hi, putWs]
    simp only [ByteArray.append_assoc]
noncomputable def encD (l : List ByteArray) : ByteArray := put ((dictG l [] []).1.length : Int) ++ (putWs (dictG l [] []).1 ++ encR (runs (dictG l [] []).2))
theorem encD_some (l : List ByteArray) (hl : (l.length : Int) ≤ 1000000) (hs : ∀ x ∈ l, x.size ≤ 1000000) (k : Nat) (hk : 3 * l.length + 30 ≤ k) : dict_Encode.f k l = some (encD l) ∧ bonsairef08_Encode.f k l = some (encD l) := by
  have hg := dictG_len l [] []
  simp only [List.length_nil] at hg
  have hm : ∀ x ∈ (dictG l [] []).1, x.size ≤ 1000000 := fun x hx => hs x ((dictG_mem l [] [] x hx).resolve_left (by simp))
  have ha : ∀ x ∈ (dictG l [] []).2, 0 ≤ x ∧ x < 18446744073709551616 := fun x hx => by
    have := dictG_at l [] [] (by simp) (by simp) x hx
    omega
  have hp := put_both ((dictG l [] []).1.length : Int) (by omega) (by omega) k (by omega)
  have hz := put_size ((dictG l [] []).1.length : Int)
  have hwz := putWs_size _ hm
  have hrz := encR_size (runs (dictG l [] []).2)
  have hrl := len_runs (dictG l [] []).2
  refine ⟨?_, ?_⟩
  · unfold dict_Encode.f
    rw [words_some l (by omega) (fun s h => by have := hs s h; omega)]
    simp only [Option.bind_some]
    rw [if_pos (by omega), w64' (by omega) (by omega), hp.1]
    simp only [Option.bind_some]
    rw [if_pos (by omega), enc_words k (by omega) _ _ hm (by omega), (enc_some _ (by omega) ha k (by omega)).1]
    simp only [Option.bind_some]
    rw [if_pos (by rw [ByteArray.size_append]; omega), encD, ByteArray.append_assoc]
  · unfold bonsairef08_Encode.f
    rw [refWords_some l (by omega) k (by omega)]
    simp only [Option.bind_some]
    rw [w64' (by omega) (by omega), hp.2]
    simp only [Option.bind_some]
    have := refEnc_words (dictG l [] []).1 (dictG l [] []).2 (by omega) hm (by omega) ha (dictG l [] []).1.length k 0 (put ((dictG l [] []).1.length : Int)) (by omega) (by omega) (by omega)
    simpa [encD] using this
noncomputable def tk (s : ByteArray) (a most : Int) : ByteArray × Int × Int := (word_Take.f (s.size + 60) s a most).getD (noText, 0, 1)
theorem tk_some (s : ByteArray) (hs : s.size ≤ 140737488351232) (a most : Int) (hm0 : -9223372036854775808 ≤ most) (hm1 : most ≤ 9223372036854775807) :
    (∀ k, s.size + 60 ≤ k → word_Take.f k s a most = some (tk s a most) ∧ bonsairef04_Take.f k s a most = some (tk s a most)) ∧
    ((tk s a most).2.2 ≠ 0 → tk s a most = (noText, 0, (tk s a most).2.2)) ∧
    ((tk s a most).2.2 = 0 → 0 ≤ a ∧ 0 ≤ (tk s a most).2.1 ∧ (tk s a most).2.1 ≤ s.size ∧ a < (tk s a most).2.1 ∧ (tk s a most).1.size ≤ s.size ∧ ((tk s a most).1.size : Int) ≤ most ∧ Go.Proofs.Ytbgjoiccehiglaa.LibA.Vld (tk s a most).1) := by
  obtain ⟨t, b, e, h1, h2, h3⟩ := take_both s hs a most hm0 hm1
  have he : tk s a most = (t, b, e) := by
    unfold tk
    rw [(h1 _ (Nat.le_refl _)).1]
    rfl
  rw [he]
  refine ⟨h1, fun h => ?_, fun h => ?_⟩
  · obtain ⟨r1, r2⟩ := h2 h
    rw [r1, r2]
  · obtain ⟨ha, v, n, hv, hn, hnm, ht, hab, hb, _⟩ := h3 h
    exact ⟨ha, by simp only; omega, hb, by simp only; omega, by simp only; omega, by simp only; omega, hv⟩
noncomputable def endD (s : ByteArray) (n a : Int) (ws : List ByteArray) : List ByteArray × Int :=
  if (decTo (s.extract a.toNat s.size) n).2 = 0 then (if mayD ws (decTo (s.extract a.toNat s.size) n).1 = true then ((pickOf ws (decTo (s.extract a.toNat s.size) n).1).1, 0) else ([], 5)) else ([], (decTo (s.extract a.toNat s.size) n).2)
noncomputable def lpD (s : ByteArray) (n most : Int) : Nat → Int → List ByteArray → List ByteArray × Int
  | 0, a, ws => endD s n a ws
  | c + 1, a, ws => if (tk s a most).2.2 = 0 then lpD s n most c (tk s a most).2.1 (ws ++ [(tk s a most).1]) else ([], (tk s a most).2.2)
theorem lp_both (s : ByteArray) (hs : s.size ≤ 140737488351232) (n most : Int) (hn : n ≤ 4096) (hm0 : -9223372036854775808 ≤ most) (hm1 : most ≤ 9223372036854775807) (c : Nat) (hc : c ≤ 4096) (K : Nat) (hK : 1000002 ≤ K) :
    ∀ (d k i : Nat) (a : Int) (ws : List ByteArray), i + d = c → ws.length = i → Short ws → 0 ≤ a → a ≤ s.size → (s.size + 1) * K + 5000 * K + 5000 + 10000 + s.size + 100 + d ≤ k →
      dict_Decode.l0 k s n most ws a (c : Int) (i : Int) = some (lpD s n most d a ws) ∧ bonsairef08_Decode.l0 k s n most (c : Int) ws a (i : Int) = some (lpD s n most d a ws)
  | 0, k, i, a, ws, hd, hw, hsh, ha0, ha1, hk => by
    obtain ⟨k, rfl⟩ : ∃ k', k = k' + 1 := ⟨k - 1, by omega⟩
    have hsz : (s.extract a.toNat s.size).size ≤ s.size := by rw [ByteArray.size_extract]; omega
    have hmul : ((s.extract a.toNat s.size).size + 1) * K ≤ (s.size + 1) * K := Nat.mul_le_mul_right _ (by omega)
    have hd1 := dec_some (s.extract a.toNat s.size) (by omega) n K hK k (by omega)
    have hd2 := refDec_some (s.extract a.toNat s.size) (by omega) n K hK k (by omega)
    have hwas := dec_was (s.extract a.toNat s.size) (by omega) n
    unfold dict_Decode.l0 bonsairef08_Decode.l0 lpD endD
    rw [if_neg (show ¬ (i : Int) < (c : Int) by omega), if_pos ha0, if_pos ha1, if_neg (show ¬ (i : Int) < (c : Int) by omega), hd1, hd2]
    rw [if_pos ha0, if_pos ha1]
    simp only [Option.bind_some]
    by_cases he : (decTo (s.extract a.toNat s.size) n).2 = 0
    · obtain ⟨hl, _, hx⟩ := hwas.1 he
      simp only [if_pos he]
      rw [may_some ws _ (by omega) hsh (by omega) (fun x h => (hx x h).1), refMay_some ws _ (by omega) (by omega) (fun x h => (hx x h).1) k (by omega)]
      simp only [Option.bind_some]
      rw [pick_some ws _ (by omega) (by omega) (fun x h => (hx x h).1), refPick_some ws _ (by omega) (by omega) (fun x h => (hx x h).1) k (by omega)]
      simp only [Option.bind_some]
      split <;> exact ⟨rfl, rfl⟩
    · simp only [if_neg he, and_self]
  | d + 1, k, i, a, ws, hd, hw, hsh, ha0, ha1, hk => by
    obtain ⟨k, rfl⟩ : ∃ k', k = k' + 1 := ⟨k - 1, by omega⟩
    obtain ⟨h1, _, h3⟩ := tk_some s hs a most hm0 hm1
    obtain ⟨h11, h12⟩ := h1 k (by omega)
    unfold dict_Decode.l0 bonsairef08_Decode.l0 lpD
    have hlt : (i : Int) < (c : Int) := by omega
    have hlen : ws.length < 8796093022208 := by omega
    simp only [if_pos hlt, h11, h12, Option.bind_some]
    by_cases he : (tk s a most).2.2 = 0
    · obtain ⟨_, r1, r2, _, r3, _⟩ := h3 he
      simp only [if_pos he, if_pos hlen]
      rw [w64' (by omega) (by omega), show (i : Int) + 1 = ((i + 1 : Nat) : Int) by omega]
      exact lp_both s hs n most hn hm0 hm1 c hc K hK d k (i + 1) _ _ (by omega) (by simp; omega) (by
        intro x hx
        rcases List.mem_append.mp hx with hx | hx
        · exact hsh x hx
        · simp at hx; rw [hx]; omega) r1 r2 (by omega)
    · simp only [if_neg he, and_self]
noncomputable def decD (s : ByteArray) (n most : Int) : List ByteArray × Int :=
  if n < 0 then ([], 1) else if n > 4096 then ([], 10) else if (numT s).2.2 = 0 then (if (numT s).1 > n then ([], 10) else lpD s n most (numT s).1.toNat ((s.size : Int) - (numT s).2.1.size) []) else ([], (numT s).2.2)
theorem decD_some (s : ByteArray) (hs : s.size ≤ 140737488351232) (n most : Int) (hm0 : -9223372036854775808 ≤ most) (hm1 : most ≤ 9223372036854775807) (K : Nat) (hK : 1000002 ≤ K) (k : Nat) (hk : (s.size + 1) * K + 5000 * K + 5000 + 20000 + s.size + 100 ≤ k) :
    dict_Decode.f k s n most = some (decD s n most) ∧ bonsairef08_Decode.f k s n most = some (decD s n most) := by
  unfold dict_Decode.f bonsairef08_Decode.f decD
  by_cases h0 : n < 0
  · rw [if_pos h0, if_pos h0, if_pos h0]
    exact ⟨rfl, rfl⟩
  rw [if_neg h0, if_neg h0, if_neg h0]
  by_cases h1 : n > 4096
  · rw [if_pos h1, if_pos h1, if_pos h1]
    exact ⟨rfl, rfl⟩
  rw [if_neg h1, if_neg h1, if_neg h1]
  have hS := Sim.begin s hs 0 (by omega) (by omega)
  have hsz : s.extract (0 : Int).toNat s.size = s := LibF.take_all s
  rw [hsz] at hS
  obtain ⟨v, r', e', a', hp, hr, hS', hv0, hv1, _, he2, he3, he4⟩ := hS.num 0
  have hn := num_numT s (by omega)
  have heq : numT s = (v, r', e') := Option.some.inj (hn.symm.trans hp)
  rw [heq, hr k (by omega)]
  simp only [pack_New.f, Option.bind_some]
  rw [hp]
  simp only [Option.bind_some, pack_Reader_Err.f]
  by_cases he : e' = 0
  · rw [if_pos he, if_pos he, if_pos he, w64' (by omega) (by omega)]
    by_cases hvn : v > n
    · rw [if_pos hvn, if_pos hvn, if_pos hvn]
      exact ⟨rfl, rfl⟩
    · rw [if_neg hvn, if_neg hvn, if_neg hvn]
      simp only [pack_Reader_Left.f, Option.bind_some]
      have hsz' := hS'.size
      have hlo := hS'.lo
      rw [LibV.w64 (by omega) (by omega)]
      have := lp_both s hs n most (by omega) hm0 hm1 v.toNat (by omega) K hK v.toNat k 0 ((s.size : Int) - r'.size) [] (by omega) rfl (fun _ h => by simp at h) (by omega) (by omega) (by omega)
      rw [show ((v.toNat : Nat) : Int) = v by omega] at this
      rw [show a' = (s.size : Int) - r'.size by omega]
      exact this
  · rw [if_neg he, if_neg he, if_neg he]
    exact ⟨rfl, rfl⟩
end Go.Proofs.Ytbgjoiccehiglaa.LibM
end
section
namespace Go.Proofs.Ytbgjoiccehiglaa.LibN
open Go.RowKit Go.Proofs.Ytbgjoiccehiglaa.Print Go.Proofs.YtbgjoiccehiglaaW.PrintWords Go.Proofs.YtbgjoiccehiglaaW.PrintLast Go.Proofs.YtbgjoiccehiglaaW.PrintMore Go.Proofs.Ytbgjoiccehiglaa.LibB
set_option maxRecDepth 100000 in
theorem live08 : bonsailaw08_live.f 60 = some true := by decide +kernel
theorem live08_at {k : Nat} (hk : 60 ≤ k) : bonsailaw08_live.f k = some true := at_rounds (g := bonsailaw08_live.f) (fun k => bonsailaw08_live.mono k) hk live08
end Go.Proofs.Ytbgjoiccehiglaa.LibN
end
section
namespace Go.Proofs.Ytbgjoiccehiglaa.LibP
open Go.RowKit Go.Proofs.Ytbgjoiccehiglaa.Print Go.Proofs.YtbgjoiccehiglaaW.PrintWords Go.Proofs.YtbgjoiccehiglaaW.PrintLast Go.Proofs.YtbgjoiccehiglaaW.PrintMore Go.Proofs.Ytbgjoiccehiglaa.LibA Go.Proofs.Ytbgjoiccehiglaa.LibC Go.Proofs.Ytbgjoiccehiglaa.LibU Go.Proofs.Ytbgjoiccehiglaa.LibE Go.Proofs.Ytbgjoiccehiglaa.LibG Go.Proofs.Ytbgjoiccehiglaa.LibW Go.Proofs.Ytbgjoiccehiglaa.LibX Go.Proofs.Ytbgjoiccehiglaa.LibK Go.Proofs.Ytbgjoiccehiglaa.LibL Go.Proofs.Ytbgjoiccehiglaa.LibM
theorem tk_was (s : ByteArray) (hs : s.size ≤ 140737488351232) (a most : Int) (hm0 : -9223372036854775808 ≤ most) (hm1 : most ≤ 9223372036854775807) (h : (tk s a most).2.2 = 0) :
    s.extract a.toNat s.size = putW (tk s a most).1 ++ s.extract (tk s a most).2.1.toNat s.size := by
  obtain ⟨t, b, e, h1, h2, h3⟩ := take_both s hs a most hm0 hm1
  have he : tk s a most = (t, b, e) := by
    unfold tk
    rw [(h1 _ (Nat.le_refl _)).1]
    rfl
  rw [he] at h ⊢
  simp only at h ⊢
  subst h
  obtain ⟨ha, v, n, hv, hn, hnm, ht, hab, hb, htx, hnum, hvb⟩ := h3 rfl
  have hsz : (s.extract a.toNat s.size).size ≤ s.size := by rw [ByteArray.size_extract]; omega
  have hN := num_numT (s.extract a.toNat s.size) (by omega)
  have heq := Option.some.inj (hN.symm.trans hnum)
  have hwas := numT_was (s.extract a.toNat s.size) (by omega) (by rw [heq])
  rw [heq] at hwas
  simp only at hwas
  rw [hwas, putW, ht, ByteArray.append_assoc]
  congr 1
  have ex : ∀ i j i' j' : Nat, i = i' → j = j' → s.extract i j = s.extract i' j' := fun _ _ _ _ h1 h2 => by rw [h1, h2]
  have h4 := take_drop (s.extract v.toNat s.size) n.toNat (by rw [ByteArray.size_extract]; omega)
  rw [ByteArray.extract_extract, ByteArray.extract_extract, ByteArray.size_extract] at h4
  rw [← h4, htx]
  rw [ex _ _ (b - n).toNat b.toNat (by omega) (by omega), ex (v.toNat + n.toNat) _ b.toNat s.size (by omega) (by omega)]
theorem lpD_was (s : ByteArray) (hs : s.size ≤ 140737488351232) (n most : Int) (hm0 : -9223372036854775808 ≤ most) (hm1 : most ≤ 9223372036854775807) : ∀ (c : Nat) (a : Int) (ws : List ByteArray),
    ((lpD s n most c a ws).2 ≠ 0 → (lpD s n most c a ws).1 = []) ∧ ((lpD s n most c a ws).2 = 0 →
      ∃ (r : List ByteArray) (A : List Int), r.length = c ∧ (∀ x ∈ r, (x.size : Int) ≤ most) ∧ (A.length : Int) = n ∧ (∀ x ∈ A, 0 ≤ x ∧ x < 18446744073709551616) ∧ mayD (ws ++ r) A = true ∧ lpD s n most c a ws = ((pickOf (ws ++ r) A).1, 0) ∧ s.extract a.toNat s.size = putWs r ++ encR (runs A))
  | 0, a, ws => by
    have hsz : (s.extract a.toNat s.size).size ≤ s.size := by rw [ByteArray.size_extract]; omega
    have hw := dec_was (s.extract a.toNat s.size) (by omega) n
    unfold lpD endD
    by_cases he : (decTo (s.extract a.toNat s.size) n).2 = 0
    · obtain ⟨w1, w2, w3⟩ := hw.1 he
      rw [if_pos he]
      by_cases hm : mayD ws (decTo (s.extract a.toNat s.size) n).1 = true
      · rw [if_pos hm]
        refine ⟨fun h => absurd rfl h, fun _ => ⟨[], _, rfl, by simp, w1, w3, by simpa using hm, by simp, ?_⟩⟩
        rw [putWs, LibW.no_app, w2]
      · rw [if_neg hm]
        exact ⟨fun _ => rfl, fun h => absurd h (by decide)⟩
    · rw [if_neg he]
      exact ⟨fun _ => rfl, fun h => absurd h he⟩
  | c + 1, a, ws => by
    unfold lpD
    by_cases he : (tk s a most).2.2 = 0
    · rw [if_pos he]
      have ih := lpD_was s hs n most hm0 hm1 c (tk s a most).2.1 (ws ++ [(tk s a most).1])
      refine ⟨ih.1, fun h => ?_⟩
      obtain ⟨r, A, r1, r2, r3, r4, r5, r6, r7⟩ := ih.2 h
      obtain ⟨_, _, h3⟩ := tk_some s hs a most hm0 hm1
      obtain ⟨_, _, _, _, _, h4, _⟩ := h3 he
      refine ⟨(tk s a most).1 :: r, A, by simp [r1], ?_, r3, r4, by simpa using r5, by simpa using r6, ?_⟩
      · intro x hx
        rcases List.mem_cons.mp hx with rfl | hx
        · exact h4
        · exact r2 x hx
      · rw [tk_was s hs a most hm0 hm1 he, r7, putWs, ByteArray.append_assoc]
    · rw [if_neg he]
      exact ⟨fun _ => rfl, fun h => absurd h he⟩
theorem may_pick {W : List ByteArray} {A : List Int} (h : mayD W A = true) : (∀ x ∈ A, x < (W.length : Int)) ∧ pickOf W A = (pk W A, true) ∧ dictG (pk W A) [] [] = (W, A) := by
  unfold mayD at h
  unfold pickOf
  rw [dictP_is] at h ⊢
  by_cases hall : ∀ x ∈ A, x < (W.length : Int)
  · rw [if_pos hall] at h ⊢
    simp only [List.nil_append, decide_eq_true_eq] at h
    exact ⟨hall, by simp, h⟩
  · rw [if_neg hall] at h
    exact absurd h (by simp)
theorem decD_was (s : ByteArray) (hs : s.size ≤ 140737488351232) (n most : Int) (hm0 : -9223372036854775808 ≤ most) (hm1 : most ≤ 9223372036854775807) :
    ((decD s n most).2 ≠ 0 → (decD s n most).1 = []) ∧ ((decD s n most).2 = 0 → ((decD s n most).1.length : Int) = n ∧ n ≤ 4096 ∧ (∀ x ∈ (decD s n most).1, (x.size : Int) ≤ most) ∧ encD (decD s n most).1 = s) := by
  unfold decD
  by_cases h0 : n < 0
  · rw [if_pos h0]; exact ⟨fun _ => rfl, fun h => absurd h (by decide)⟩
  rw [if_neg h0]
  by_cases h1 : n > 4096
  · rw [if_pos h1]; exact ⟨fun _ => rfl, fun h => absurd h (by decide)⟩
  rw [if_neg h1]
  by_cases he : (numT s).2.2 = 0
  rotate_left
  · rw [if_neg he]; exact ⟨fun _ => rfl, fun h => absurd h he⟩
  rw [if_pos he]
  by_cases hv : (numT s).1 > n
  · rw [if_pos hv]; exact ⟨fun _ => rfl, fun h => absurd h (by decide)⟩
  rw [if_neg hv]
  have hL := lpD_was s hs n most hm0 hm1 (numT s).1.toNat ((s.size : Int) - (numT s).2.1.size) []
  refine ⟨hL.1, fun h => ?_⟩
  obtain ⟨r, A, r1, r2, r3, r4, r5, r6, r7⟩ := hL.2 h
  rw [r6]
  simp only [List.nil_append] at r5 ⊢
  obtain ⟨p1, p2, p3⟩ := may_pick r5
  rw [p2]
  have hr := numT_range s (by omega)
  refine ⟨by simp [pk]; omega, by omega, ?_, ?_⟩
  · intro x hx
    simp only [pk, List.mem_map] at hx
    obtain ⟨y, hy, rfl⟩ := hx
    have y0 := (r4 y hy).1
    have y1 := p1 y hy
    obtain ⟨j, rfl⟩ := Int.eq_ofNat_of_zero_le y0
    rw [rd_txt (by omega)]
    exact r2 _ (List.getElem_mem _)
  · unfold encD
    rw [p3]
    have hw := numT_was s (by omega) he
    have hz := numT_size s
    have hcut : s.extract ((s.size : Int) - (numT s).2.1.size).toNat s.size = (numT s).2.1 := by
      have hsz : s.size = (put (numT s).1).size + (numT s).2.1.size := by
        conv => lhs; rw [hw]
        exact ByteArray.size_append
      have := app_cut (put (numT s).1) (numT s).2.1
      rw [← hw] at this
      rw [show ((s.size : Int) - (numT s).2.1.size).toNat = (put (numT s).1).size by omega]
      exact this
    rw [hcut] at r7
    simp only
    rw [r1, ← r7, show (((numT s).1.toNat : Nat) : Int) = (numT s).1 by omega]
    exact hw.symm
end Go.Proofs.Ytbgjoiccehiglaa.LibP
end
section
namespace Go.Proofs.Ytbgjoiccehiglaa.LibQ
open Go.RowKit Go.Proofs.Ytbgjoiccehiglaa.Print Go.Proofs.YtbgjoiccehiglaaW.PrintWords Go.Proofs.Ytbgjoiccehiglaa.LibK Go.Proofs.Ytbgjoiccehiglaa.LibL Go.Proofs.Ytbgjoiccehiglaa.LibM
theorem dict_pre : ∀ (l w : List ByteArray) (a : List Int), ∃ t u, (dictG l w a).1 = w ++ t ∧ (dictG l w a).2 = a ++ u
  | [], w, a => ⟨[], [], by simp [dictG], by simp [dictG]⟩
  | s :: l, w, a => by
    simp only [dictG]
    cases wordAt s w 0 with
    | none => obtain ⟨t, u, h, h'⟩ := dict_pre l (w ++ [s]) (a ++ [(w.length : Int)]); exact ⟨s :: t, (w.length : Int) :: u, by simpa using h, by simpa using h'⟩
    | some k => obtain ⟨t, u, h, h'⟩ := dict_pre l w (a ++ [(k : Int)]); exact ⟨t, (k : Int) :: u, h, by simpa using h'⟩
theorem pk_dict : ∀ (l w : List ByteArray) (a : List Int), pk (dictG l w a).1 (dictG l w a).2 = pk (dictG l w a).1 a ++ l
  | [], w, a => by simp [dictG]
  | s :: l, w, a => by
    simp only [dictG]
    cases hq : wordAt s w 0 with
    | none =>
      simp only
      obtain ⟨t, u, h, _⟩ := dict_pre l (w ++ [s]) (a ++ [(w.length : Int)])
      rw [pk_dict l _ _]
      have hr : rdOf ByteArray.empty (dictG l (w ++ [s]) (a ++ [(w.length : Int)])).1 (w.length : Int) = s := by
        rw [h, rd_txt (by simp)]
        simp
      simp only [pk, List.map_append, List.map_cons, List.map_nil, hr, List.append_assoc, List.singleton_append]
    | some k =>
      simp only
      obtain ⟨t, u, h, _⟩ := dict_pre l w (a ++ [(k : Int)])
      obtain ⟨h1, _, h2⟩ := wordAt_some _ _ _ _ hq
      simp only [Nat.sub_zero] at h1 h2
      rw [pk_dict l _ _]
      have hr : rdOf ByteArray.empty (dictG l w (a ++ [(k : Int)])).1 (k : Int) = s := by
        rw [h, rd_txt (by simp; omega), List.getElem_append_left h1]
        exact h2
      simp only [pk, List.map_append, List.map_cons, List.map_nil, hr, List.append_assoc, List.singleton_append]
theorem dictP_dict (l : List ByteArray) : dictP (dictG l [] []).1 (dictG l [] []).2 [] = some l := by
  rw [dictP_is, if_pos (fun x hx => (dictG_at l [] [] (by simp) (by simp) x hx).2), pk_dict]
  simp [pk]
theorem pickOf_dict (l : List ByteArray) : pickOf (dictG l [] []).1 (dictG l [] []).2 = (l, true) := by
  unfold pickOf
  rw [dictP_dict]
theorem mayD_dict (l : List ByteArray) : mayD (dictG l [] []).1 (dictG l [] []).2 = true := by
  unfold mayD
  rw [dictP_dict]
  simp
theorem mem_dict (l : List ByteArray) : ∀ x ∈ l, x ∈ (dictG l [] []).1 := fun x hx => by
  have h := pk_dict l [] []
  simp only [pk, List.map_nil, List.nil_append] at h
  rw [← h] at hx
  simp only [List.mem_map] at hx
  obtain ⟨y, hy, rfl⟩ := hx
  obtain ⟨y0, y1⟩ := dictG_at l [] [] (by simp) (by simp) y hy
  obtain ⟨j, rfl⟩ := Int.eq_ofNat_of_zero_le y0
  rw [rd_txt (by omega)]
  exact List.getElem_mem _
end Go.Proofs.Ytbgjoiccehiglaa.LibQ
end
section
namespace Go.Proofs.Ytbgjoiccehiglaa.LibR2
open Go.RowKit Go.Proofs.Ytbgjoiccehiglaa.Print Go.Proofs.YtbgjoiccehiglaaW.PrintWords Go.Proofs.YtbgjoiccehiglaaW.PrintLast Go.Proofs.YtbgjoiccehiglaaW.PrintMore Go.Proofs.Ytbgjoiccehiglaa.LibA Go.Proofs.Ytbgjoiccehiglaa.LibC Go.Proofs.Ytbgjoiccehiglaa.LibU Go.Proofs.Ytbgjoiccehiglaa.LibE Go.Proofs.Ytbgjoiccehiglaa.LibG Go.Proofs.Ytbgjoiccehiglaa.LibW Go.Proofs.Ytbgjoiccehiglaa.LibX Go.Proofs.Ytbgjoiccehiglaa.LibK Go.Proofs.Ytbgjoiccehiglaa.LibL Go.Proofs.Ytbgjoiccehiglaa.LibM Go.Proofs.Ytbgjoiccehiglaa.LibP Go.Proofs.Ytbgjoiccehiglaa.LibQ
theorem tk_put (t u p : ByteArray) (most : Int) (hm0 : 0 ≤ most) (hm1 : most ≤ 9223372036854775807) (ht : (t.size : Int) ≤ most) (hs : (p ++ (putW t ++ u)).size ≤ 140737488351232) :
    tk (p ++ (putW t ++ u)) p.size most = if Vld t then (t, ((p.size + (putW t).size : Nat) : Int), 0) else (noText, 0, 4) := by
  have h := take_put t u p most hm0 hm1 ht hs ((p ++ (putW t ++ u)).size + 60) (Nat.le_refl _)
  have h2 := ((tk_some (p ++ (putW t ++ u)) hs p.size most (by omega) hm1).1 _ (Nat.le_refl _)).1
  exact Option.some.inj (h2.symm.trans h)
theorem tk_big (t u p : ByteArray) (most : Int) (hm0 : 0 ≤ most) (hm1 : most ≤ 9223372036854775807) (ht : most < (t.size : Int)) (hs : (p ++ (putW t ++ u)).size ≤ 140737488351232) :
    tk (p ++ (putW t ++ u)) p.size most = (noText, 0, 10) := by
  have h2 := ((tk_some (p ++ (putW t ++ u)) hs p.size most (by omega) hm1).1 _ (Nat.le_refl _)).1
  refine Option.some.inj (h2.symm.trans ?_)
  generalize hk : (p ++ (putW t ++ u)).size + 60 = k
  obtain ⟨k, rfl⟩ : ∃ m, k = m + 2 := ⟨k - 2, by omega⟩
  have hz : (p ++ (putW t ++ u)).size = p.size + ((putW t).size + u.size) := by simp only [ByteArray.size_append]
  have hpz : (putW t).size = (put t.size).size + t.size := by unfold putW; exact ByteArray.size_append
  have hrest : (p ++ (putW t ++ u)).extract (p.size : Int).toNat (p ++ (putW t ++ u)).size = put t.size ++ (t ++ u) := by
    rw [Int.toNat_natCast, app_cut, putW, ByteArray.append_assoc]
  have hN : pack_Reader_Num.f (put t.size ++ (t ++ u)) 0 = some ((t.size : Int), t ++ u, 0) := by
    rw [num_numT _ (by simp only [ByteArray.size_append]; omega), numT_put _ (by omega) (by omega)]
  unfold word_Take.f
  rw [if_neg (by omega), decide_eq_false (by omega)]
  simp only [word_Take.j0, Bool.false_eq_true, if_false, pack_New.f, Option.bind_some]
  rw [if_pos (by omega), if_pos (by omega), hrest, hN]
  simp only [Option.bind_some, pack_Reader_Err.f, if_true]
  rw [if_neg (show ¬ most < 0 by omega), decide_eq_true (show (t.size : Int) > IntKind.u64.wrap most by rw [LibX.w64' (by omega) (by omega)]; omega)]
  simp only [word_Take.j1, if_true]
  rfl
theorem lp_enc (n most : Int) (hm0 : 0 ≤ most) (hm1 : most ≤ 9223372036854775807) (v : ByteArray) : ∀ (r : List ByteArray) (p : ByteArray) (ws : List ByteArray), (p ++ (putWs r ++ v)).size ≤ 140737488351232 →
    ((∀ x ∈ r, Vld x ∧ (x.size : Int) ≤ most) → lpD (p ++ (putWs r ++ v)) n most r.length p.size ws = endD (p ++ (putWs r ++ v)) n ((p ++ putWs r).size : Nat) (ws ++ r)) ∧
    ((∃ x ∈ r, ¬ Vld x) → (∀ x ∈ r, (x.size : Int) ≤ most) → (lpD (p ++ (putWs r ++ v)) n most r.length p.size ws).2 = 4) ∧
    ((∃ x ∈ r, most < (x.size : Int)) → (lpD (p ++ (putWs r ++ v)) n most r.length p.size ws).2 = 4 ∨ (lpD (p ++ (putWs r ++ v)) n most r.length p.size ws).2 = 10)
  | [], p, ws, hs => by
    refine ⟨fun _ => ?_, fun h => by simp at h, fun h => by simp at h⟩
    simp only [List.length_nil, lpD, putWs, List.append_nil]
    rw [LibW.app_no]
  | t :: r, p, ws, hs => by
    have hat : p ++ (putWs (t :: r) ++ v) = p ++ (putW t ++ (putWs r ++ v)) := by rw [putWs, ByteArray.append_assoc]
    have hat2 : p ++ (putW t ++ (putWs r ++ v)) = (p ++ putW t) ++ (putWs r ++ v) := by rw [ByteArray.append_assoc]
    have hpw : (p ++ putW t).size = p.size + (putW t).size := ByteArray.size_append
    have ih := lp_enc n most hm0 hm1 v r (p ++ putW t) (ws ++ [t]) (by rw [← hat2, ← hat]; exact hs)
    rw [← hat2] at ih
    rw [hat] at hs ⊢
    simp only [List.length_cons, lpD]
    by_cases hb : most < (t.size : Int)
    · rw [tk_big t _ p most hm0 hm1 hb hs]
      simp only
      rw [if_neg (by decide)]
      exact ⟨fun h => by have := (h t (by simp)).2; omega, fun _ h => by have := h t (by simp); omega, fun _ => .inr rfl⟩
    · rw [tk_put t _ p most hm0 hm1 (by omega) hs]
      by_cases hV : Vld t
      · rw [if_pos hV]
        simp only [if_true]
        rw [← hpw]
        refine ⟨fun h => ?_, fun h h' => ?_, fun h => ?_⟩
        · rw [ih.1 (fun x hx => h x (by simp [hx]))]
          simp only [List.append_assoc, List.singleton_append, putWs, ByteArray.append_assoc]
        · obtain ⟨x, hx, hx'⟩ := h
          refine ih.2.1 ⟨x, ?_, hx'⟩ (fun y hy => h' y (by simp [hy]))
          rcases List.mem_cons.mp hx with rfl | hx
          · exact absurd hV hx'
          · exact hx
        · obtain ⟨x, hx, hx'⟩ := h
          refine ih.2.2 ⟨x, ?_, hx'⟩
          rcases List.mem_cons.mp hx with rfl | hx
          · omega
          · exact hx
      · rw [if_neg hV]
        simp only
        rw [if_neg (by decide)]
        exact ⟨fun h => absurd (h t (by simp)).1 hV, fun _ _ => rfl, fun _ => .inl rfl⟩
theorem enc_dec (l : List ByteArray) (hl : l.length ≤ 4096) (hs : ∀ x ∈ l, x.size ≤ 1000000) (n most : Int) (hm0 : 0 ≤ most) (hm1 : most ≤ 9223372036854775807) :
    ((∀ x ∈ l, Vld x ∧ (x.size : Int) ≤ most) → decD (encD l) l.length most = (l, 0)) ∧
    ((∃ x ∈ l, ¬ Vld x) → (∀ x ∈ l, (x.size : Int) ≤ most) → (decD (encD l) l.length most).2 = 4) ∧
    ((∃ x ∈ l, most < (x.size : Int)) → (decD (encD l) l.length most).2 = 4 ∨ (decD (encD l) l.length most).2 = 10) ∧
    (n ≠ l.length → (∀ x ∈ l, (x.size : Int) ≤ most) → (decD (encD l) n most).2 ≠ 0) ∧ (encD l).size ≤ 140737488351232 := by
  have hg := dictG_len l [] []
  have hmem := dictG_mem l [] []
  have hmem2 := mem_dict l
  have hat := dictG_at l [] [] (by simp) (by simp)
  have hpick := pickOf_dict l
  have hmay := mayD_dict l
  have hdef : encD l = put ((dictG l [] []).1.length : Int) ++ (putWs (dictG l [] []).1 ++ encR (runs (dictG l [] []).2)) := rfl
  generalize (dictG l [] []).1 = W at *
  generalize (dictG l [] []).2 = A at *
  simp only [List.length_nil, Nat.zero_add] at hg
  have hA : ∀ x ∈ A, 0 ≤ x ∧ x < 18446744073709551616 := fun x hx => by have := hat x hx; omega
  have hin : ∀ x ∈ W, x ∈ l := fun x hx => (hmem x hx).resolve_left (by simp)
  have hz1 := put_size (W.length : Int)
  have hz2 := putWs_size W (fun x hx => hs x (hin x hx))
  have hz3 := encR_size (runs A)
  have hz4 := len_runs A
  have hsz : (encD l).size = (put (W.length : Int)).size + ((putWs W).size + (encR (runs A)).size) := by rw [hdef, ByteArray.size_append, ByteArray.size_append]
  have hbig : (encD l).size ≤ 140737488351232 := by omega
  have hnum : numT (encD l) = ((W.length : Int), putWs W ++ encR (runs A), 0) := by rw [hdef, numT_put _ (by omega) (by omega)]
  have hplace : ((encD l).size : Int) - (putWs W ++ encR (runs A)).size = ((put (W.length : Int)).size : Int) := by rw [hsz, ByteArray.size_append]; omega
  have hgo : ∀ m : Int, decD (encD l) m most = if m < 0 then ([], 1) else if m > 4096 then ([], 10) else if (W.length : Int) > m then ([], 10) else lpD (encD l) m most W.length ((put (W.length : Int)).size : Int) [] := fun m => by
    unfold decD
    rw [hnum]
    simp only [if_true, hplace, Int.toNat_natCast]
  have hlp := fun m => lp_enc m most hm0 hm1 (encR (runs A)) W (put (W.length : Int)) [] (by rw [← hdef]; exact hbig)
  rw [← hdef] at hlp
  have hcut : (encD l).extract (((put (W.length : Int) ++ putWs W).size : Nat) : Int).toNat (encD l).size = encR (runs A) := by
    rw [hdef, ← ByteArray.append_assoc, Int.toNat_natCast]
    exact app_cut _ _
  have hde := dec_enc A (by omega) hA
  have hbad : (∃ x ∈ l, ¬ Vld x) → ∃ x ∈ W, ¬ Vld x := fun ⟨x, hx, h⟩ => ⟨x, hmem2 x hx, h⟩
  have hlen : decD (encD l) l.length most = lpD (encD l) l.length most W.length ((put (W.length : Int)).size : Int) [] := by
    rw [hgo, if_neg (by omega), if_neg (by omega), if_neg (by omega)]
  refine ⟨fun h => ?_, fun h h' => ?_, fun ⟨x, hx, h⟩ => ?_, fun hn h => ?_, hbig⟩
  · rw [hlen, (hlp _).1 (fun x hx => h x (hin x hx))]
    unfold endD
    rw [hcut, show (l.length : Int) = (A.length : Int) by omega, hde.1]
    simp only [if_true, List.nil_append, hmay, hpick]
  · rw [hlen]
    exact (hlp _).2.1 (hbad h) (fun x hx => h' x (hin x hx))
  · rw [hlen]
    exact (hlp _).2.2 ⟨x, hmem2 x hx, h⟩
  · rw [hgo]
    split
    · exact (by decide : (1 : Int) ≠ 0)
    split
    · exact (by decide : (10 : Int) ≠ 0)
    split
    · exact (by decide : (10 : Int) ≠ 0)
    by_cases hv : ∀ x ∈ l, Vld x
    · rw [(hlp _).1 (fun x hx => ⟨hv x (hin x hx), h x (hin x hx)⟩)]
      unfold endD
      rw [hcut, if_neg (hde.2 n (by omega))]
      exact hde.2 n (by omega)
    · have hb : ∃ x ∈ l, ¬ Vld x := by
        refine Classical.byContradiction fun hc => hv fun x hx => Classical.byContradiction fun hx' => hc ⟨x, hx, hx'⟩
      rw [(hlp _).2.1 (hbad hb) (fun x hx => h x (hin x hx))]
      decide
end Go.Proofs.Ytbgjoiccehiglaa.LibR2
end
