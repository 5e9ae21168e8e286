/- Part 4 of what OplogRanks stands on: merged by a program of this session out of its texts. -/
import Derived.Test.YtfgnjndfnijjoaaGreatCOplogRanks3
section
namespace Go.Proofs.YtfgnjndfnijjoaaGreat.Print
open Go.RowKit Go.Proofs.YtfgnjndfnijjoaaGreatW.PrintWords Go.Proofs.YtfgnjndfnijjoaaGreatW.PrintLast Go.Proofs.YtfgnjndfnijjoaaGreatW.PrintMore
attribute [local go_sem] dJ dK eF eG cZ dc dL dM
attribute [local go_sem] bH
set_option linter.unusedVariables false
set_option linter.unusedSimpArgs false
def fI.f (l0 : List Int) (a1 : Int) : Option (List Int) := if l0.length = 1 then (if 0 ≤ a1 ∧ a1 ≤ 1000000 then some (List.replicate a1.toNat (rd l0 0)) else none) else none
set_option maxHeartbeats 8000000 in
set_option maxRecDepth 100000 in
theorem fI.calls (A0 : Option Addr) (c0 : Nat) (l0 : List Int) (a1 : Int) (r : List Int) (w : World) (hr0 : Kd.C (Kd.int .u64) w A0 l0.length l0) (hc0 : l0.length ≤ c0) (h : fI.f l0 a1 = some r) :
    Calls Tryz.prog 163 #[.slice A0 l0.length c0, .int .i64 a1] w fun e w' => ∃ v0_ : Value, e = .returned (v0_) ∧ Kd.R (Kd.int .u64) 60 w' w.heap.size (fun _ => True) v0_ r ∧ Below w.heap.size w w' := by
 unfold fI.f at h
 by_cases hl : l0.length = 1
 case neg => rw [if_neg hl] at h; exact absurd h (by simp)
 rw [if_pos hl] at h
 by_cases ha : 0 ≤ a1 ∧ a1 ≤ 1000000
 case neg => rw [if_neg ha] at h; exact absurd h (by simp)
 rw [if_pos ha] at h; obtain rfl := Option.some.inj h; clear h; have c1 : decide (a1 < 0) = false := decide_eq_false (by omega)
 have hm : ∀ w : World, Calls Tryz.prog 176 #[.int .u64 1, .int .u64 a1] w fun e w' => e = .returned (.tuple #[.int .u64 0, .int .u64 a1]) ∧ w' = w := fun w => by
  have m := Tryz.bits_Mul 1 a1.toNat (by omega) (by omega) w; rw [show 1 * a1.toNat / 18446744073709551616 = 0 by omega, show 1 * a1.toNat % 18446744073709551616 = a1.toNat by omega] at m; rw [Int.toNat_of_nonneg ha.1] at m; exact m
 have c2 : decide (9223372036854775807 < a1) = false := decide_eq_false (by omega); obtain ⟨i0, hi, hz0, hz1, hz2⟩ := info_parts wj; obtain ⟨N, hN⟩ : ∃ N, N = a1.toNat := ⟨_, rfl⟩
 have hmk : ∀ w, (Instr.makeSlice 58 (.int .i64 a1) (.int .i64 a1)).run Tryz.prog w = .ok (.slice (some ⟨w.heap.size, 0, none⟩) N N) (w.alloc (.cells (List.replicate N (Value.int .u64 0)).toArray 60)) := fun w => by
  have h := run_make (P := Tryz.prog) w 58 60 i0 _ Tryz.underlying58 hi hz0 .i64 .i64 a1 a1 ha.1 (Int.le_refl _) (by rw [hz2]; omega) (by omega); rw [h, ← hN, hz1]
  congr 2
  congr 1
  apply Array.ext
  · simp [madeCells]
  ·
   intro j h1 h2
   simp [madeCells, Value.cells, Nat.mod_one]
 have hN' := Aside0.mk hN; have HMK := Aside0.mk hmk; clear hmk; have hszE : (Tryz.prog.info? 60).map (·.size) = some 1 := by rw [hi]; simp [hz1]
 obtain ⟨X, rfl⟩ := List.length_eq_one_iff.mp hl
 obtain ⟨A, hA⟩ : ∃ A, A0 = some A ∧ w.cell? A = some (.int .u64 X) := by
  obtain ⟨ad, e, hx⟩ := Kd.jE hr0 0 (by omega) (by simp); exact ⟨ad, e, by simpa [Addr.add, rd] using hx⟩
 obtain ⟨rfl, hcell⟩ := hA; clear hN hl; have hu58 := Tryz.underlying58
 have hAlt : A.block < w.heap.size := by
  rcases Nat.lt_or_ge A.block w.heap.size with h' | h'
  · exact h'
  · simp [World.cell?, Array.getElem?_eq_none h'] at hcell
 have hcp : ∀ w3, Below w.heap.size w w3 → ∀ (j : Nat) v, (List.replicate (Nat.min 1 N) (Value.int .u64 X))[j]? = some v → w3.cell? (A.add j) = some v := fun w3 hb j v hv => by
  rw [List.getElem?_replicate] at hv
  split at hv
  ·
   rename_i hj
   obtain rfl : j = 0 := by have h_ : Nat.min 1 N ≤ 1 := Nat.min_le_left 1 N; omega
   obtain rfl := Option.some.inj hv; rw [show A.add 0 = A by simp [Addr.add], hb.cell hAlt]; exact hcell
  · cases hv
 show Calls Tryz.prog 163 #[.slice (some A) 1 c0, .int .i64 a1] w _; go_enter Tryz.func163, Tryz.ntmps163
 go_wp2_with (first | (go_at_call 176; (with_reducible refine (hm _).mono ?_); rintro e w2 ⟨rfl, rfl⟩) | ((with_reducible refine bG (N := 30) rfl ?_); (refine Build.rY rfl (D := 30) rfl (cs := (List.replicate N (Value.int .u64 0)).toArray) (t := 60) N N ?hr ?_); (case hr => (have h_ := HMK.out w2); first | (go_simp; done) | (go_simp; rfl) | (go_simp; rw [h_]; rfl)); intro g hg w3 hblk hb; subst hg) | ((with_reducible refine bG (N := 33) rfl ?_); (refine wpList_copy_splice rfl (.tmp 31) (.tmp 32) 58 58 rfl 60 Tryz.underlying58 hszE _ _ _ _ _ _ rfl rfl w2.heap.size 0 (List.replicate N (.int .u64 0)) 60 (by first | exact hblk | simpa using hblk) (List.replicate (Nat.min 1 N) (.int .u64 X)) (by simp) ?hpos ?hfit ?h1 w2.heap.size w2 hb (Nat.le_refl _) ?_); (case hpos => intro h0_; exact ⟨rfl, A, rfl, fun j v hv => hcp w3 hb j v hv⟩); (case hfit => simp only [List.length_replicate, Nat.zero_add]; exact Nat.min_le_right 1 N); (case h1 => intro v hv; rw [List.eq_of_mem_replicate hv]; rfl); intro w4 hblk4 hb4))
 have HBK := Aside0.mk hblk4; have HB4 := Aside0.mk hb4; clear hblk4 hb4 hcp hblk hb; obtain ⟨Z, hZ⟩ : ∃ Z, Z = Value.int .u64 0 := ⟨_, rfl⟩
 go_loopg [8] (N + 1) (fun kq v8 w' => ∃ n9 : Int, v8 = .int .i64 n9 ∧ Aside0 (0 ≤ n9 ∧ n9 ≤ N ∧ (N : Int) + 1 ≤ kq + n9 ∧ (0 < N → 1 ≤ n9)) ∧ Aside0 (w'.heap[w2.heap.size]? = some (.cells (List.replicate n9.toNat (Value.int .u64 X) ++ List.replicate (N - n9.toNat) (Value.int .u64 0)).toArray 60 (0, 0))) ∧ Aside0 (Below w2.heap.size w2 w'))
 case atStart =>
  refine ⟨((Nat.min 1 N : Nat) : Int), (by first | rfl | (simp; done) | (simp [goInt]; done)), ⟨by have h1_ : Nat.min 1 N ≤ N := Nat.min_le_right 1 N; have h2_ : 0 < N → Nat.min 1 N = 1 := fun h => Nat.min_eq_left h; omega⟩, ⟨?_⟩, HB4⟩; refine Eq.trans HBK.out ?_
  congr 2
  simp [splice]
 case round =>
  clear HBK HB4; obtain ⟨n9, rfl, HK, HBK, HB⟩ := hrel
  cases gk with
  | zero => have := HK.out; exact absurd this (by omega)
  | succ k1 =>
   by_cases hi9 : n9 < (N : Int)
   ·
    have d5 : decide (n9 < (N : Int)) = true := decide_eq_true hi9; have hk9 := HK.out; have p9 : 0 ≤ n9 := by omega
    have q9 : n9 ≤ (N : Int) := by omega
    have hne := eq_false (show ¬ N = n9.toNat by omega); have hm1 : Nat.min n9.toNat (N - n9.toNat) ≤ n9.toNat := Nat.min_le_left _ _; have hm2 : Nat.min n9.toNat (N - n9.toNat) ≤ N - n9.toNat := Nat.min_le_right _ _; have hm3 : 0 < Nat.min n9.toNat (N - n9.toNat) := by rw [show ∀ a b, Nat.min a b = min a b from fun _ _ => rfl]; omega
    have hsrc : ∀ (j : Nat) v, (List.replicate (Nat.min n9.toNat (N - n9.toNat)) (Value.int .u64 X))[j]? = some v → wr.cell? (Addr.add ⟨w2.heap.size, 0, none⟩ j) = some v := fun j v hv => by
     rw [List.getElem?_replicate] at hv
     split at hv
     ·
      rename_i hj
      obtain rfl := Option.some.inj hv; rw [show Addr.add ⟨w2.heap.size, 0, none⟩ j = ⟨w2.heap.size, j, none⟩ by unfold Addr.add; split <;> simp_all]; unfold World.cell?; simp only [HBK.out]; have hjn : j < n9.toNat := by omega
      simp [List.getElem?_append_left, hjn]
     · cases hv
    obtain ⟨M, hM⟩ : ∃ M, M = Nat.min n9.toNat (N - n9.toNat) := ⟨_, rfl⟩; rw [← hM] at hm1 hm2 hm3 hsrc; have hM' := Aside0.mk hM; clear hM
    go_wp2
    go_region_law (refine step_copy_splice rfl (.tmp 41) (.tmp 44) 58 58 rfl 60 Tryz.underlying58 hszE (some ⟨w2.heap.size, n9.toNat, none⟩) (some ⟨w2.heap.size, 0, none⟩) (N - n9.toNat) (N - n9.toNat) n9.toNat N (by simp [Act.eval, Act.put, hne]) (by simp [Act.eval, Act.put]) w2.heap.size n9.toNat (List.replicate n9.toNat (Value.int .u64 X) ++ List.replicate (N - n9.toNat) (Value.int .u64 0)) 60 HBK.out (List.replicate M (Value.int .u64 X)) (by rw [List.length_replicate]; exact hM'.out) (fun _ => ⟨rfl, _, rfl, hsrc⟩) (by simp only [List.length_append, List.length_replicate]; omega) (fun v hv => by rw [List.eq_of_mem_replicate hv]; rfl) w2.heap.size w2 (by first | exact HB.out | exact bw HB.out) (Nat.le_refl _) ?_; intro w4 hg4 hb4)
    have hw : IntKind.i64.wrap (n9 + (M : Int)) = n9 + (M : Int) := by rw [IntKind.wrap_i64]; have := hN'.out; omega
    go_wp2
    go_roundg k1
    case measure => omega
    case rel =>
     refine ⟨n9 + (M : Int), (by first | rfl | (simp; done) | (simp [hw]; done) | (simp [goInt, hw]; done)), ⟨by omega⟩, ⟨Eq.trans hg4 ?_⟩, ⟨hb4⟩⟩; have e1 : (n9 + (M : Int)).toNat = n9.toNat + M := by omega
     rw [e1]
     congr 2
     unfold splice; rw [List.length_replicate, List.take_left' (List.length_replicate ..), ← List.drop_drop, List.drop_left' (List.length_replicate ..), List.drop_replicate, ← List.append_assoc, List.replicate_append_replicate, show N - n9.toNat - M = N - (n9.toNat + M) by omega]
   ·
    have d5 : decide (n9 < (N : Int)) = false := decide_eq_false hi9; have hk9 := HK.out
    go_wp2
    go_ret
    have hn9 : n9.toNat = N := by omega
    refine ⟨_, rfl, Kd.rU (enc := Value.int .u64) (h1 := fun _ => rfl) ?_ (fun _ _ => trivial), HB.out⟩; have hb9 := HBK.out; rw [hn9, Nat.sub_self] at hb9; have hNN := hN'.out; refine ⟨by simp [encs], .inr ⟨w2.heap.size, N, _, by simp [← hNN], Nat.le_refl _, hb9, by simp [← hNN], by unfold maxLen; omega, by simp, by simp [encs, ← hNN, rd]⟩⟩
mutual
def bV.j0 : Nat → List (cB) → Int → Bool → Option (List Int × Bool)
 | 0, _, _, _ => none
 | k + 1, x0, x1, x15 => if x15 = true then (some (([] : List Int), false)) else (bV.l0 k x1 ([] : List Int) x0 (x0.length : Int) 0)
def bV.l0 : Nat → Int → List Int → List (cB) → Int → Int → Option (List Int × Bool)
 | 0, _, _, _, _, _ => none
 | k + 1, x1, x6, x16, x17, x18 => if x18 < x17 then (if 0 ≤ x18 then (if x18 < (x16.length : Int) then (if ((bn x16 x18).f1) > (wrap64 (x1 - (x6.length : Int))) then (some (([] : List Int), false)) else ((fI.f (([(bn x16 x18).f0] : List Int)) ((bn x16 x18).f1)).bind fun tJ => (if x6.length + tJ.length < 17592186044416 then (bV.l0 k x1 (x6 ++ tJ) x16 x17 (wrap64 (x18 + 1))) else (none)))) else (none)) else (none)) else (some (x6, true))
end
def bV.f (k : Nat) (l0 : List (cB)) (a1 : Int) : Option (List Int × Bool) := (eO.f k l0).bind fun Ia => (if Ia = true then (bV.j0 k l0 a1 (decide (a1 < 0))) else (bV.j0 k l0 a1 true))
theorem bV.cF : ∀ k, (∀ y0 y1 y2, LeO (bV.j0 k y0 y1 y2) (bV.j0 (k + 1) y0 y1 y2)) ∧ (∀ y0 y1 y2 y3 y4, LeO (bV.l0 k y0 y1 y2 y3 y4) (bV.l0 (k + 1) y0 y1 y2 y3 y4))
 | 0 => ⟨fun _ _ _ r h => by simp [bV.j0] at h, fun _ _ _ _ _ r h => by simp [bV.l0] at h⟩
 | k + 1 => by
  obtain ⟨ih0, ih1⟩ := bV.cF k; refine ⟨?_, ?_⟩
  ·
   intro y0 y1 y2; unfold bV.j0
   repeat' first
   | (with_reducible exact ih0 _ _ _)
   | (with_reducible exact ih1 _ _ _ _ _)
   | (with_reducible exact eO.mono _ _)
   | (with_reducible exact LeO.refl _)
   | (with_reducible exact LeO.none _)
   | (with_reducible refine LeO.ite ?_ ?_)
   | (with_reducible refine LeO.bind ?_ (fun _ => ?_))
  ·
   intro y0 y1 y2 y3 y4; unfold bV.l0
   repeat' first
   | (with_reducible exact ih0 _ _ _)
   | (with_reducible exact ih1 _ _ _ _ _)
   | (with_reducible exact eO.mono _ _)
   | (with_reducible exact LeO.refl _)
   | (with_reducible exact LeO.none _)
   | (with_reducible refine LeO.ite ?_ ?_)
   | (with_reducible refine LeO.bind ?_ (fun _ => ?_))
theorem bV.mono : ∀ a0 a1 k, LeO (bV.f k a0 a1) (bV.f (k + 1) a0 a1) := by
 intro a0 a1 k; obtain ⟨ih0, ih1⟩ := bV.cF k; unfold bV.f
 repeat' first
  | (with_reducible exact ih0 _ _ _)
  | (with_reducible exact ih1 _ _ _ _ _)
  | (with_reducible exact eO.mono _ _)
  | (with_reducible exact LeO.refl _)
  | (with_reducible exact LeO.none _)
  | (with_reducible refine LeO.ite ?_ ?_)
  | (with_reducible refine LeO.bind ?_ (fun _ => ?_))
set_option maxHeartbeats 8000000 in
set_option maxRecDepth 100000 in
theorem bV.calls (k : Nat) (A0 : Option Addr) (c0 : Nat) (l0 : List (cB)) (a1 : Int) (r1 : List Int) (r2 : Bool) (w : World) (hr0 : Kd.C tv w A0 l0.length l0) (hc0 : l0.length ≤ c0) (h : bV.f k l0 a1 = some (r1, r2)) :
 Calls Tryz.prog 121 #[.slice A0 l0.length c0, .int .i64 a1] w fun e w' => ∃ v0_ : Value, e = .returned (.tuple #[v0_, .bool r2]) ∧ Kd.R (Kd.int .u64) 60 w' w.heap.size (fun _ => True) v0_ r1 ∧ Below w.heap.size w w' := by
 have hu133 := Tryz.underlying133; have HR0 := Aside0.mk hr0; have HC0 := Aside0.mk hc0; clear hr0 hc0; have HB := Aside0.mk (Below.refl w.heap.size w); have H := h; unfold bV.f at H; clear h; have HC3 := Aside0.mk H; clear H; go_enter Tryz.func121, Tryz.ntmps121
 go_upto_region 1 with (fail)
 go_cut [15] (fun v15 wc => ∃ (kq : Nat) (zT : Bool), v15 = .bool zT ∧ Aside0 (bV.j0 kq l0 a1 zT = some (r1, r2)) ∧ Aside0 (kq ≤ k) ∧ Aside0 (Below w.heap.size w wc))
 case first =>
  have H := HC3.out; clear HC3; obtain ⟨Ia, A4, H⟩ := bnz H; (try dsimp only at H)
  by_cases c5 : Ia = true
  ·
   subst c5; rw [if_pos rfl] at H; have H' := Aside0.mk H; clear H
   go_wp2_with (first | ((with_reducible refine ak (f := 162) rfl ?_); refine aD (some 10) rfl rfl Tryz.func162 (by kernel_rfl) rfl #[.slice A0 l0.length c0] rfl mz ?_; (with_reducible refine (eO.calls k _ _ l0 true _ ?side1 ?side2 A4.out).mono ?_); (case side1 => repeat (first | exact (Kd.fc HR0.out HB.out) | (with_reducible refine Kd.bO ?_ _) | (with_reducible refine Kd.bQ ?_ _) | (with_reducible refine Kd.bZ ?_))); (case side2 => exact HC0.out); rintro e w6 ⟨rfl, hb⟩; refine ⟨_, rfl, ?_⟩; replace HB := sb HB hb; (try clear hb); (try clear hb2); (try clear hk); (try clear hi)))
   go_meet
   case rel => exact ⟨_, (decide (a1 < 0)), sz, H', ⟨by first | omega | exact Nat.le_refl _⟩, ⟨hz HB.out⟩⟩
  ·
   replace c5 := Bool.eq_false_iff.mpr c5; subst c5; rw [if_neg (show ¬ (false = true) by decide)] at H; have H' := Aside0.mk H; clear H
   go_wp2_with (first | ((with_reducible refine ak (f := 162) rfl ?_); refine aD (some 10) rfl rfl Tryz.func162 (by kernel_rfl) rfl #[.slice A0 l0.length c0] rfl mz ?_; (with_reducible refine (eO.calls k _ _ l0 false _ ?side1 ?side2 A4.out).mono ?_); (case side1 => repeat (first | exact (Kd.fc HR0.out HB.out) | (with_reducible refine Kd.bO ?_ _) | (with_reducible refine Kd.bQ ?_ _) | (with_reducible refine Kd.bZ ?_))); (case side2 => exact HC0.out); rintro e w7 ⟨rfl, hb⟩; refine ⟨_, rfl, ?_⟩; replace HB := sb HB hb; (try clear hb); (try clear hb2); (try clear hk); (try clear hi)))
   go_meet
   case rel => exact ⟨_, (true), sz, H', ⟨by first | omega | exact Nat.le_refl _⟩, ⟨hz HB.out⟩⟩
 case rest =>
  clear HC3
  try clear c1
  try clear p2
  try clear c5
  obtain ⟨kq, zT, rfl, HA, HJ2, HB⟩ := hcut
  cases kq with
  | zero => exact absurd HA.out (by simp [bV.j0])
  | succ kj2 =>
   have H := HA.out; clear HA; simp only [bV.j0] at H
   by_cases c8 : zT = true
   ·
    subst c8; rw [if_pos rfl] at H; simp only [Option.some.injEq, Prod.mk.injEq] at H; obtain ⟨rfl, rfl⟩ := H
    go_wp2
    go_ret2
    exact ⟨_, ez, nz, hz HB.out⟩
   ·
    replace c8 := Bool.eq_false_iff.mpr c8; subst c8; rw [if_neg (show ¬ (false = true) by decide)] at H; have H' := Aside0.mk H; clear H
    go_wp2
    go_loopg [6, 18] kj2 (fun kq v6 v18 w' => ∃ (sD : List Int) (fM : Int), v18 = .int .i64 fM ∧ Aside0 (bV.l0 kq a1 sD l0 (l0.length : Int) fM = some (r1, r2)) ∧ Aside0 (kq ≤ kj2) ∧ Aside0 (Kd.R (Kd.int .u64) 60 w' w.heap.size (fun _ => True) v6 sD) ∧ Aside0 (Below w.heap.size w w'))
    case atStart => exact ⟨(([] : List Int)), (0), sz, H', ⟨Nat.le_refl _⟩, ⟨nz⟩, ⟨hz HB.out⟩⟩
    case round =>
     clear H'
     try clear c1
     try clear p2
     try clear c5
     try clear c8
     try clear p2
     obtain ⟨sD, fM, rfl, HA, HK2, HO_6, HB⟩ := hrel
     cases gk with
     | zero => exact absurd HA.out (by simp [bV.l0])
     | succ k2 =>
      have H := HA.out; clear HA; simp only [bV.l0] at H
      by_cases c9 : fM < (l0.length : Int)
      ·
       rw [if_pos c9] at H; have tC := decide_eq_true c9; clear c9; obtain ⟨c10, H⟩ := ifz H; have r9 : decide (0 ≤ fM) = true := decide_eq_true c10; clear c10; obtain ⟨c11, H⟩ := ifz H; have EB : decide (fM < (l0.length : Int)) = true := decide_eq_true c11; clear c11
       by_cases c12 : ((bn l0 fM).f1) > (wrap64 (a1 - (sD.length : Int)))
       ·
        rw [if_pos c12] at H; have nR : decide ((wrap64 (a1 - (sD.length : Int))) < ((bn l0 fM).f1)) = true := decide_eq_true c12; clear c12; simp only [Option.some.injEq, Prod.mk.injEq] at H; obtain ⟨rfl, rfl⟩ := H; have p296 : 0 ≤ (fM : Int) := of_decide_eq_true az; have q296 : fM < (l0.length : Int) := of_decide_eq_true az; obtain ⟨O4, e296, qL, qM⟩ := jD HR0.out fM p296 q296
        cases e296
        replace qL := cz HB.out qL; replace qM := cz HB.out qM; replace p296 := eq_true p296; replace q296 := eq_true q296
        go_wp2_with (first | ((with_reducible refine bG (N := 8) rfl ?_); refine bW ?hg (N := 8) ?hd (cs := #[.int .u64 0, .int .i64 0]) (t := 133) ?hr ?_; (case hd => rfl); (case hg => rfl); (case hr => first | (go_simp; done) | (go_simp; rfl)); intro jA hg w13 hbox hb; replace HO_6 := rb HO_6 hb; have iP := am (hbox); have O5 := am ((by rw [hg]; exact (ai (hz HB.out)) : w.heap.size ≤ jA)); have oN := am ((by rw [hg]; exact (ai (hz HB.out)) : w.heap.size ≤ jA)); replace HB := sb HB hb; clear hb hbox hg; have xO : w13.cell? ⟨jA, 0, none⟩ = some (.int .u64 0) := (af iP.out 0).trans rfl; have xP : w13.cell? ⟨jA, 1, none⟩ = some (.int .i64 0) := (af iP.out 1).trans rfl; have xQ := aj iP.out 0; have xR := aj iP.out 1; obtain ⟨Qb, Mr, G8⟩ := Kd.bu HO_6.out; subst G8))
        go_ret2
        exact ⟨_, ez, nz, hz1 HB.out oN.out⟩
       ·
        rw [if_neg c12] at H; have nR : decide ((wrap64 (a1 - (sD.length : Int))) < ((bn l0 fM).f1)) = false := decide_eq_false c12; clear c12; obtain ⟨EM, EN⟩ : ∃ y_ : List Int, y_ = (([(bn l0 fM).f0] : List Int)) := ⟨_, rfl⟩; (try rw [← EN] at H); have Jv := Aside0.mk EN; clear EN; obtain ⟨tJ, A16, H⟩ := bnz H; (try dsimp only at H); obtain ⟨c17, H⟩ := ifz H; have D4 := Aside0.mk c17; clear c17; obtain ⟨QT, EO⟩ : ∃ y_ : List Int, y_ = (sD ++ tJ) := ⟨_, rfl⟩; (try rw [← EO] at H); have O6 := Aside0.mk EO; clear EO; have H' := Aside0.mk H; clear H; have p296 : 0 ≤ (fM : Int) := of_decide_eq_true az; have q296 : fM < (l0.length : Int) := of_decide_eq_true az; obtain ⟨O4, e296, qL, qM⟩ := jD HR0.out fM p296 q296
        cases e296
        replace qL := cz HB.out qL; replace qM := cz HB.out qM; replace p296 := eq_true p296; replace q296 := eq_true q296
        go_wp2_with (first | ((with_reducible refine bG (N := 8) rfl ?_); refine bW ?hg (N := 8) ?hd (cs := #[.int .u64 0, .int .i64 0]) (t := 133) ?hr ?_; (case hd => rfl); (case hg => rfl); (case hr => first | (go_simp; done) | (go_simp; rfl)); intro jA hg w18 hbox hb; replace HO_6 := rb HO_6 hb; have iP := am (hbox); have O5 := am ((by rw [hg]; exact (ai (hz HB.out)) : w.heap.size ≤ jA)); have oN := am ((by rw [hg]; exact (ai (hz HB.out)) : w.heap.size ≤ jA)); replace HB := sb HB hb; clear hb hbox hg; have Te : w18.cell? ⟨jA, 0, none⟩ = some (.int .u64 0) := (af iP.out 0).trans rfl; have Tf : w18.cell? ⟨jA, 1, none⟩ = some (.int .i64 0) := (af iP.out 1).trans rfl; have Tg := aj iP.out 0; have Th := aj iP.out 1; obtain ⟨QU, QV, QW⟩ := Kd.bu HO_6.out; subst QW) | ((with_reducible refine bG (N := 32) rfl ?_); refine Kd.rW (Kd.int .u64) _ 60 ?hg (N := 32) ?hd (xs := ([(bn l0 fM).f0] : List Int)) (inner := [.int .u64 ((bn l0 fM).f0)]) (ok := fun _ => True) (okp := fun _ => True) ?hr ?hp (fun _ hk => hk) trivial (Below.refl _ _) (Nat.le_refl _) (by simp) ?_; (case hd => rfl); (case hg => rfl); (case hr => first | (go_simp; done) | (go_simp; rfl)); (case hp => exact (bK.one (show Kd.M (Kd.int .u64) _ _ _ ((bn l0 fM).f0) [.int .u64 ((bn l0 fM).f0)] from rfl) (bK.none _ _))); intro v299 w21 sx hb hg_ hnew_; clear hg_ hnew_; (first | rw [← Jv.out] at sx | (simp only [Int.reduceToNat, Int.toNat_natCast] at sx; rw [← Jv.out] at sx)); have oO := am (Kd.cV (Kd.cL sx (Kd.cA (by (with_reducible repeat (first | apply Kd.ay | apply Kd.aC | apply Kd.ax)); exact (Kd.au (Kd.eu (p := ⟨jA, 1, none⟩) (Kd.eu (p := ⟨jA, 0, none⟩) (Kd.kH HO_6.out iP.out (by decide)) (fun _ hk => hk.2) (.int .u64 ((bn l0 fM).f0))) (fun _ hk => hk.2) (.int .i64 ((bn l0 fM).f1))) (fun _ h_ => h_.1))))) (ai (hz1 HB.out oN.out))); replace HO_6 := am (Kd.bT (by (with_reducible repeat (first | apply Kd.ay | apply Kd.aC | apply Kd.ax)); exact (Kd.au (Kd.eu (p := ⟨jA, 1, none⟩) (Kd.eu (p := ⟨jA, 0, none⟩) (Kd.kH HO_6.out iP.out (by decide)) (fun _ hk => hk.2) (.int .u64 ((bn l0 fM).f0))) (fun _ hk => hk.2) (.int .i64 ((bn l0 fM).f1))) (fun _ h_ => h_.1))) (Kd.cK sx) hb); replace iP := am (aX (g := jA) (o := .cells #[.int .u64 ((bn l0 fM).f0), .int .i64 ((bn l0 fM).f1)] 133 (0, 0)) (by (with_reducible repeat (first | refine bz ?_ _ | refine cQ ?_ | refine bx ?_ _)); refine fO (cs := #[.int .u64 ((bn l0 fM).f0), .int .i64 0]) ?_ 1 _ rfl; (with_reducible repeat (first | refine bz ?_ _ | refine cQ ?_ | refine bx ?_ _)); refine fO (cs := #[.int .u64 0, .int .i64 0]) ?_ 0 _ rfl; (with_reducible repeat (first | refine bz ?_ _ | refine cQ ?_ | refine bx ?_ _)); exact iP.out) hb); replace HB := am (aM (hz1 HB.out oN.out) hb); clear hb sx; have Ti : w21.cell? ⟨jA, 0, none⟩ = some (.int .u64 ((bn l0 fM).f0)) := (af iP.out 0).trans rfl; have Tj : w21.cell? ⟨jA, 1, none⟩ = some (.int .i64 ((bn l0 fM).f1)) := (af iP.out 1).trans rfl; have Tk := aj iP.out 0; have Tm := aj iP.out 1; obtain ⟨yg, yh, Bt⟩ := Kd.bu oO.out; subst Bt) | ((with_reducible refine ak (f := 163) rfl ?_); refine aD (some 35) rfl rfl Tryz.func163 (by kernel_rfl) rfl #[.slice yg EM.length yh, .int .i64 ((bn l0 fM).f1)] rfl mz ?_; (with_reducible refine (fI.calls _ _ EM ((bn l0 fM).f1) tJ _ ?side1 ?side2 A16.out).mono ?_); (case side1 => repeat (first | exact (Kd.av oO.out).2.2 | (with_reducible refine Kd.bO ?_ _) | (with_reducible refine Kd.bQ ?_ _) | (with_reducible refine Kd.bZ ?_))); (case side2 => exact (Kd.av oO.out).2.1); rintro e w25 ⟨v302, rfl, ho0, hb⟩; refine ⟨_, rfl, ?_⟩; have wI := am (Kd.cV (Kd.cL (Kd.cL ho0 (Kd.cA (rz HO_6.out))) (Kd.cA (rz oO.out))) (ai (hz1 HB.out oN.out))); replace HO_6 := am (Kd.bT (rz HO_6.out) (Kd.cK ho0) hb); replace oO := am (Kd.bT (rz oO.out) (Kd.cK ho0) hb); replace iP := am (aX (g := jA) (o := .cells #[.int .u64 ((bn l0 fM).f0), .int .i64 ((bn l0 fM).f1)] 133 (0, 0)) (kz iP.out) hb); replace HB := am (aM (hz1 HB.out oN.out) hb); (try clear hb); (try clear hb2); (try clear hk); (try clear hi); (try clear ho0); obtain ⟨Hs, Ht, Hu⟩ := Kd.bu wI.out; subst Hu) | ((with_reducible refine eB (b := .append) (xs := #[.tmp 29, .tmp 35]) rfl ?_); at_builtin; refine Kd.sV (Kd.int .u64) (w0 := w) w.heap.size rfl (.tmp 29) (.tmp 35) 58 60 (.int .u64 0) 8 rfl Tryz.underlying58 wj rfl (by decide) (by omega) (.slice QU sD.length QV) sD tJ _ _ _ (fun k_ => some k_ ≠ (.slice yg EM.length yh : Value).ownBlock ∧ some k_ ≠ (.slice Hs tJ.length Ht : Value).ownBlock) (fun _ => False) rfl rfl ?aO ?aR (fun _ _ h => h) (fun _ h => h.elim) ?aF ?aB ?aS ?aL ?_; (case aR => repeat (first | exact (Kd.av wI.out).2.2 | (with_reducible refine Kd.bO ?_ _) | (with_reducible refine Kd.bQ ?_ _) | (with_reducible refine Kd.bZ ?_))); (case aB => exact (hz1 HB.out oN.out)); (case aF => exact (fun k_ hk => ⟨Kd.fresh' (Kd.cA (rz oO.out)) k_ hk, Kd.fresh' (Kd.cA (rz wI.out)) k_ hk⟩)); (case aO => exact (by (with_reducible repeat (first | apply Kd.ay | apply Kd.aC | apply Kd.ax)); exact Kd.au HO_6.out (fun _ hk => ⟨hk.1.2, hk.2⟩))); (case aS => exact (ai (hz1 HB.out oN.out))); (case aL => have := D4.out; omega); intro v305 w26 ho hb hg hat; rw [← O6.out] at ho; replace iP := am (eL (g := jA) (o := .cells #[.int .u64 ((bn l0 fM).f0), .int .i64 ((bn l0 fM).f1)] 133 (0, 0)) (kz iP.out) hg (Kd.l9 HO_6.out iP.out (by decide))); replace oO := am (Kd.ee (ok := (fun k_ => some k_ ≠ (.slice Hs tJ.length Ht : Value).ownBlock)) (by (with_reducible repeat (first | apply Kd.ay | apply Kd.aC | apply Kd.ax)); exact Kd.au oO.out (fun _ hk => ⟨hk.2, hk.1.2⟩)) hg hat); replace wI := am (Kd.ee (ok := (fun k_ => some k_ ≠ (.slice yg EM.length yh : Value).ownBlock)) (by (with_reducible repeat (first | apply Kd.ay | apply Kd.aC | apply Kd.ax)); exact Kd.au wI.out (fun _ hk => ⟨hk.2, hk.1.2⟩)) hg hat); replace HB := am (hb); have O7 := am (ho); clear HO_6; clear ho hb hg hat))
        go_roundg k2
        case measure => have := HJ2.out; have := HK2.out; omega
        case rel => exact ⟨(QT), (wrap64 (fM + 1)), sz, H', ⟨by have := HJ2.out; have := HK2.out; omega⟩, ⟨by (with_reducible repeat (first | apply Kd.ay | apply Kd.aC | apply Kd.ax)); exact Kd.au O7.out (fun _ hk => trivial)⟩, ⟨hz1 HB.out oN.out⟩⟩
      ·
       rw [if_neg c9] at H; have tC := decide_eq_false c9; clear c9; simp only [Option.some.injEq, Prod.mk.injEq] at H; obtain ⟨rfl, rfl⟩ := H
       go_wp2
       go_ret2
       exact ⟨_, ez, by (with_reducible repeat (first | apply Kd.ay | apply Kd.aC | apply Kd.ax)); exact HO_6.out, hz HB.out⟩
def cJ.l0 : Nat → Int → List (cB) → Int → ByteArray → Int → Option (List Int × Int)
 | 0, _, _, _, _, _ => none
 | k + 1, x1, x7, x8, x310000, x310001 => (aV.f x310000 x310001).bind fun EP => (if EP.1 > 0 then ((aJ.f EP.2.1 EP.2.2).bind fun wJ => ((aJ.f wJ.2.1 wJ.2.2).bind fun pQ => ((bh.f pQ.2.1 pQ.2.2).bind fun uz => (if uz.1 = 0 then (if pQ.1 = 0 then (some (([] : List Int), 5)) else (if pQ.1 > (IntKind.u64.wrap (x8)) then (some (([] : List Int), 5)) else (if (wrap64 ((x7.length : Int) - 1)) ≥ 0 then (if 0 ≤ (wrap64 ((x7.length : Int) - 1)) then (if (wrap64 ((x7.length : Int) - 1)) < (x7.length : Int) then (if ((bn x7 (wrap64 ((x7.length : Int) - 1))).f0) = wJ.1 then (some (([] : List Int), 5)) else (if x7.length < 8796093022208 then (cJ.l0 k x1 (x7 ++ [(⟨wJ.1, wrap64 (pQ.1)⟩ : cB)]) (wrap64 (x8 - (wrap64 (pQ.1)))) uz.2.1 uz.2.2) else (none))) else (none)) else (none)) else (if x7.length < 8796093022208 then (cJ.l0 k x1 (x7 ++ [(⟨wJ.1, wrap64 (pQ.1)⟩ : cB)]) (wrap64 (x8 - (wrap64 (pQ.1)))) uz.2.1 uz.2.2) else (none))))) else (some (([] : List Int), uz.1)))))) else (if x8 > 0 then (some (([] : List Int), 5)) else ((bV.f k x7 x1).bind fun O8 => (some (O8.1, 0)))))
def cJ.f (k : Nat) (a0 : ByteArray) (a1 : Int) : Option (List Int × Int) := if a1 < 0 then (some (([] : List Int), 1)) else (if a1 > 4096 then (some (([] : List Int), 10)) else ((eD.f a0).bind fun Jw => (cJ.l0 k a1 ([] : List (cB)) a1 Jw.1 Jw.2)))
theorem cJ.cF : ∀ k, (∀ y0 y1 y2 y3 y4, LeO (cJ.l0 k y0 y1 y2 y3 y4) (cJ.l0 (k + 1) y0 y1 y2 y3 y4))
 | 0 => fun _ _ _ _ _ r h => by simp [cJ.l0] at h
 | k + 1 => by
  have ih0 := cJ.cF k
  ·
   intro y0 y1 y2 y3 y4; unfold cJ.l0
   repeat' first
   | (with_reducible exact ih0 _ _ _ _ _)
   | (with_reducible exact bV.mono _ _ _)
   | (with_reducible exact LeO.refl _)
   | (with_reducible exact LeO.none _)
   | (with_reducible refine LeO.ite ?_ ?_)
   | (with_reducible refine LeO.bind ?_ (fun _ => ?_))
theorem cJ.mono : ∀ a0 a1 k, LeO (cJ.f k a0 a1) (cJ.f (k + 1) a0 a1) := by
 intro a0 a1 k; have ih0 := cJ.cF k; unfold cJ.f
 repeat' first
  | (with_reducible exact ih0 _ _ _ _ _)
  | (with_reducible exact bV.mono _ _ _)
  | (with_reducible exact LeO.refl _)
  | (with_reducible exact LeO.none _)
  | (with_reducible refine LeO.ite ?_ ?_)
  | (with_reducible refine LeO.bind ?_ (fun _ => ?_))
set_option maxHeartbeats 8000000 in
set_option maxRecDepth 100000 in
theorem cJ.calls (k : Nat) (a0 : ByteArray) (a1 : Int) (r1 : List Int) (r2 : Int) (w : World) (h : cJ.f k a0 a1 = some (r1, r2)) :
 Calls Tryz.prog 61 #[.string a0, .int .i64 a1] w fun e w' => ∃ v0_ : Value, e = .returned (.tuple #[v0_, .int .i64 r2]) ∧ Kd.R (Kd.int .u64) 60 w' w.heap.size (fun _ => True) v0_ r1 ∧ Below w.heap.size w w' := by
 have hu133 := Tryz.underlying133; have HB := Aside0.mk (Below.refl w.heap.size w); have H := h; unfold cJ.f at H; clear h
 by_cases c3 : a1 < 0
 ·
  rw [if_pos c3] at H; have gD := decide_eq_true c3; clear c3; simp only [Option.some.injEq, Prod.mk.injEq] at H; obtain ⟨rfl, rfl⟩ := H; go_enter Tryz.func61, Tryz.ntmps61
  go_wp2
  go_ret2
  exact ⟨_, ez, nz, hz HB.out⟩
 ·
  rw [if_neg c3] at H; have gD := decide_eq_false c3; clear c3
  by_cases c4 : a1 > 4096
  ·
   rw [if_pos c4] at H; have iC : decide (4096 < a1) = true := decide_eq_true c4; clear c4; simp only [Option.some.injEq, Prod.mk.injEq] at H; obtain ⟨rfl, rfl⟩ := H; go_enter Tryz.func61, Tryz.ntmps61
   go_wp2
   go_ret2
   exact ⟨_, ez, nz, hz HB.out⟩
  ·
   rw [if_neg c4] at H; have iC : decide (4096 < a1) = false := decide_eq_false c4; clear c4; obtain ⟨⟨MQ, MR⟩, A5, H⟩ := bnz H; (try dsimp only at H); have H' := Aside0.mk H; clear H; go_enter Tryz.func61, Tryz.ntmps61
   go_wp2_with (first | ((with_reducible refine ak (f := 40) rfl ?_); refine aD (some 22) rfl rfl Tryz.func40 (by kernel_rfl) rfl #[.string a0] rfl mz ?_; (with_reducible refine (eD.calls a0 MQ MR w _ ?side1 A5.out).mono ?_); (case side1 => exact hz HB.out); rintro e w6 ⟨g309, rfl, hi, hb, hb2⟩; refine ⟨_, rfl, ?_⟩; replace HB := am (hb); have aY := am (hi); (try clear hb); (try clear hb2); (try clear hk); (try clear hi)))
   go_loopg [7, 8] k (fun kq v7 v8 w' => ∃ (bD : List (cB)) (cR : Int) (fT : ByteArray) (fU : Int), v8 = .int .i64 cR ∧ Aside0 (cJ.l0 kq a1 bD cR fT fU = some (r1, r2)) ∧ Aside0 (kq ≤ k) ∧ Aside0 (Kd.R tv 133 w' w.heap.size (fun _ => True) v7 bD) ∧ Aside0 (ag w w' g309 fT fU) ∧ Aside0 (Below w.heap.size w w'))
   case atStart => exact ⟨(([] : List (cB))), (a1), (MQ), (MR), sz, H', ⟨Nat.le_refl _⟩, ⟨nz⟩, ⟨ag.lz aY.out⟩, ⟨hz1 HB.out (ag.ge aY.out)⟩⟩
   case round =>
    clear H'
    try clear p2
    try clear c3
    try clear gD
    try clear c4
    try clear iC
    try clear c6
    obtain ⟨bD, cR, fT, fU, rfl, HA, HK1, HO_7, aY, HB⟩ := hrel
    cases gk with
    | zero => exact absurd HA.out (by simp [cJ.l0])
    | succ k1 =>
     have H := HA.out; clear HA; simp only [cJ.l0] at H; obtain ⟨⟨pg, jZ, j3⟩, A7, H⟩ := bnz H; (try dsimp only at H)
     by_cases c8 : pg > 0
     ·
      rw [if_pos c8] at H; have o7 : decide (0 < pg) = true := decide_eq_true c8; clear c8; obtain ⟨⟨kr, kM, kN⟩, A9, H⟩ := bnz H; (try dsimp only at H); obtain ⟨⟨jo, kO, kP⟩, A10, H⟩ := bnz H; (try dsimp only at H); obtain ⟨⟨pq, tK, tL⟩, A11, H⟩ := bnz H; (try dsimp only at H)
      by_cases c12 : pq = 0
      ·
       rw [if_pos c12] at H; have nR : (pq == 0) = true := beq_iff_eq.mpr c12; have uy : (pq != 0) = false := bne_eq_false_iff_eq.mpr c12; clear c12
       by_cases c13 : jo = 0
       ·
        rw [if_pos c13] at H; have wq : (jo == 0) = true := beq_iff_eq.mpr c13; have wu : (jo != 0) = false := bne_eq_false_iff_eq.mpr c13; clear c13; simp only [Option.some.injEq, Prod.mk.injEq] at H; obtain ⟨rfl, rfl⟩ := H
        go_wp2_with (first | ((with_reducible refine ak (f := 43) rfl ?_); refine aD (some 25) rfl rfl Tryz.func43 (by kernel_rfl) rfl #[.pointer (some ⟨g309, 0, none⟩)] rfl mz ?_; (with_reducible refine (aV.calls g309 fT fU pg jZ j3 w _ ?side1 ?side2 A7.out).mono ?_); (case side1 => exact ag.lz aY.out); (case side2 => exact hz1 HB.out (ag.ge aY.out)); rintro e w14 ⟨rfl, hi, hb, hk⟩; refine ⟨_, rfl, ?_⟩; replace HO_7 := am (Kd.au (Kd.di (ag.apart (show ag w _ g309 fT fU from ag.lz aY.out) (rz HO_7.out) (by decide)) hk (fun _ h => h.2)) (fun _ h => h.1)); replace HB := am (hb); replace aY := am (hi); (try clear hb); (try clear hb2); (try clear hk); (try clear hi)) | ((with_reducible refine ak (f := 41) rfl ?_); refine aD (some 28) rfl rfl Tryz.func41 (by kernel_rfl) rfl #[.pointer (some ⟨g309, 0, none⟩)] rfl mz ?_; (with_reducible refine (aJ.calls g309 jZ j3 kr kM kN w _ ?side1 ?side2 A9.out).mono ?_); (case side1 => exact ag.lz aY.out); (case side2 => exact hz1 HB.out (ag.ge aY.out)); rintro e w15 ⟨rfl, hi, hb, hk⟩; refine ⟨_, rfl, ?_⟩; replace HO_7 := am (Kd.au (Kd.di (ag.apart (show ag w _ g309 jZ j3 from ag.lz aY.out) (rz HO_7.out) (by decide)) hk (fun _ h => h.2)) (fun _ h => h.1)); replace HB := am (hb); replace aY := am (hi); (try clear hb); (try clear hb2); (try clear hk); (try clear hi)) | ((with_reducible refine ak (f := 41) rfl ?_); refine aD (some 30) rfl rfl Tryz.func41 (by kernel_rfl) rfl #[.pointer (some ⟨g309, 0, none⟩)] rfl mz ?_; (with_reducible refine (aJ.calls g309 kM kN jo kO kP w _ ?side1 ?side2 A10.out).mono ?_); (case side1 => exact ag.lz aY.out); (case side2 => exact hz1 HB.out (ag.ge aY.out)); rintro e w16 ⟨rfl, hi, hb, hk⟩; refine ⟨_, rfl, ?_⟩; replace HO_7 := am (Kd.au (Kd.di (ag.apart (show ag w _ g309 kM kN from ag.lz aY.out) (rz HO_7.out) (by decide)) hk (fun _ h => h.2)) (fun _ h => h.1)); replace HB := am (hb); replace aY := am (hi); (try clear hb); (try clear hb2); (try clear hk); (try clear hi)) | ((with_reducible refine ak (f := 42) rfl ?_); refine aD (some 32) rfl rfl Tryz.func42 (by kernel_rfl) rfl #[.pointer (some ⟨g309, 0, none⟩)] rfl mz ?_; (with_reducible refine (bh.calls g309 kO kP pq tK tL w _ ?side1 ?side2 A11.out).mono ?_); (case side1 => exact ag.lz aY.out); (case side2 => exact hz1 HB.out (ag.ge aY.out)); rintro e w17 ⟨rfl, hi, hb, hk⟩; refine ⟨_, rfl, ?_⟩; replace HO_7 := am (Kd.au (Kd.di (ag.apart (show ag w _ g309 kO kP from ag.lz aY.out) (rz HO_7.out) (by decide)) hk (fun _ h => h.2)) (fun _ h => h.1)); replace HB := am (hb); replace aY := am (hi); (try clear hb); (try clear hb2); (try clear hk); (try clear hi); obtain ⟨Ms, Mt, G9⟩ := Kd.bu HO_7.out; subst G9))
        go_ret2
        exact ⟨_, ez, nz, hz1 HB.out (ag.ge aY.out)⟩
       ·
        rw [if_neg c13] at H; have wq : (jo == 0) = false := beq_eq_false_iff_ne.mpr c13; have wu : (jo != 0) = true := bne_iff_ne.mpr c13
        by_cases c19 : jo > (IntKind.u64.wrap (cR))
        ·
         rw [if_pos c19] at H; have zU : decide ((IntKind.u64.wrap (cR)) < jo) = true := decide_eq_true c19; clear c19; simp only [Option.some.injEq, Prod.mk.injEq] at H; obtain ⟨rfl, rfl⟩ := H
         go_wp2_with (first | ((with_reducible refine ak (f := 43) rfl ?_); refine aD (some 25) rfl rfl Tryz.func43 (by kernel_rfl) rfl #[.pointer (some ⟨g309, 0, none⟩)] rfl mz ?_; (with_reducible refine (aV.calls g309 fT fU pg jZ j3 w _ ?side1 ?side2 A7.out).mono ?_); (case side1 => exact ag.lz aY.out); (case side2 => exact hz1 HB.out (ag.ge aY.out)); rintro e w20 ⟨rfl, hi, hb, hk⟩; refine ⟨_, rfl, ?_⟩; replace HO_7 := am (Kd.au (Kd.di (ag.apart (show ag w _ g309 fT fU from ag.lz aY.out) (rz HO_7.out) (by decide)) hk (fun _ h => h.2)) (fun _ h => h.1)); replace HB := am (hb); replace aY := am (hi); (try clear hb); (try clear hb2); (try clear hk); (try clear hi)) | ((with_reducible refine ak (f := 41) rfl ?_); refine aD (some 28) rfl rfl Tryz.func41 (by kernel_rfl) rfl #[.pointer (some ⟨g309, 0, none⟩)] rfl mz ?_; (with_reducible refine (aJ.calls g309 jZ j3 kr kM kN w _ ?side1 ?side2 A9.out).mono ?_); (case side1 => exact ag.lz aY.out); (case side2 => exact hz1 HB.out (ag.ge aY.out)); rintro e w21 ⟨rfl, hi, hb, hk⟩; refine ⟨_, rfl, ?_⟩; replace HO_7 := am (Kd.au (Kd.di (ag.apart (show ag w _ g309 jZ j3 from ag.lz aY.out) (rz HO_7.out) (by decide)) hk (fun _ h => h.2)) (fun _ h => h.1)); replace HB := am (hb); replace aY := am (hi); (try clear hb); (try clear hb2); (try clear hk); (try clear hi)) | ((with_reducible refine ak (f := 41) rfl ?_); refine aD (some 30) rfl rfl Tryz.func41 (by kernel_rfl) rfl #[.pointer (some ⟨g309, 0, none⟩)] rfl mz ?_; (with_reducible refine (aJ.calls g309 kM kN jo kO kP w _ ?side1 ?side2 A10.out).mono ?_); (case side1 => exact ag.lz aY.out); (case side2 => exact hz1 HB.out (ag.ge aY.out)); rintro e w22 ⟨rfl, hi, hb, hk⟩; refine ⟨_, rfl, ?_⟩; replace HO_7 := am (Kd.au (Kd.di (ag.apart (show ag w _ g309 kM kN from ag.lz aY.out) (rz HO_7.out) (by decide)) hk (fun _ h => h.2)) (fun _ h => h.1)); replace HB := am (hb); replace aY := am (hi); (try clear hb); (try clear hb2); (try clear hk); (try clear hi)) | ((with_reducible refine ak (f := 42) rfl ?_); refine aD (some 32) rfl rfl Tryz.func42 (by kernel_rfl) rfl #[.pointer (some ⟨g309, 0, none⟩)] rfl mz ?_; (with_reducible refine (bh.calls g309 kO kP pq tK tL w _ ?side1 ?side2 A11.out).mono ?_); (case side1 => exact ag.lz aY.out); (case side2 => exact hz1 HB.out (ag.ge aY.out)); rintro e w23 ⟨rfl, hi, hb, hk⟩; refine ⟨_, rfl, ?_⟩; replace HO_7 := am (Kd.au (Kd.di (ag.apart (show ag w _ g309 kO kP from ag.lz aY.out) (rz HO_7.out) (by decide)) hk (fun _ h => h.2)) (fun _ h => h.1)); replace HB := am (hb); replace aY := am (hi); (try clear hb); (try clear hb2); (try clear hk); (try clear hi); obtain ⟨yg, yh, Bt⟩ := Kd.bu HO_7.out; subst Bt))
         go_ret2
         exact ⟨_, ez, nz, hz1 HB.out (ag.ge aY.out)⟩
        ·
         rw [if_neg c19] at H; have zU : decide ((IntKind.u64.wrap (cR)) < jo) = false := decide_eq_false c19; clear c19
         by_cases c25 : (wrap64 ((bD.length : Int) - 1)) ≥ 0
         ·
          rw [if_pos c25] at H; have uk : decide (0 ≤ (wrap64 ((bD.length : Int) - 1))) = true := decide_eq_true c25; clear c25; obtain ⟨m9, nS⟩ : ∃ j_ : Int, (wrap64 ((bD.length : Int) - 1)) = j_ := ⟨_, rfl⟩
          (first | rw [nS] at H | simp only [nS] at H)
          (try rw [nS] at uk); (try rw [nS] at A7); (try rw [nS] at A9); (try rw [nS] at A10); (try rw [nS] at A11); have hji26w : (IntKind.i64.wrap ((bD.length : Int) - 1)) = m9 := (bN _).trans nS; obtain ⟨c27, H⟩ := ifz H; have O9 : decide (0 ≤ (m9)) = true := decide_eq_true c27; clear c27; obtain ⟨c28, H⟩ := ifz H; have Pa : decide ((m9) < (bD.length : Int)) = true := decide_eq_true c28; clear c28
          by_cases c29 : ((bn bD (m9)).f0) = kr
          ·
           rw [if_pos c29] at H; have zV : (((bn bD (m9)).f0) == kr) = true := beq_iff_eq.mpr c29; have zW : (((bn bD (m9)).f0) != kr) = false := bne_eq_false_iff_eq.mpr c29; clear c29; simp only [Option.some.injEq, Prod.mk.injEq] at H; obtain ⟨rfl, rfl⟩ := H
           go_wp2_with (first | ((with_reducible refine ak (f := 43) rfl ?_); refine aD (some 25) rfl rfl Tryz.func43 (by kernel_rfl) rfl #[.pointer (some ⟨g309, 0, none⟩)] rfl mz ?_; (with_reducible refine (aV.calls g309 fT fU pg jZ j3 w _ ?side1 ?side2 A7.out).mono ?_); (case side1 => exact ag.lz aY.out); (case side2 => exact hz1 HB.out (ag.ge aY.out)); rintro e w30 ⟨rfl, hi, hb, hk⟩; refine ⟨_, rfl, ?_⟩; replace HO_7 := am (Kd.au (Kd.di (ag.apart (show ag w _ g309 fT fU from ag.lz aY.out) (rz HO_7.out) (by decide)) hk (fun _ h => h.2)) (fun _ h => h.1)); replace HB := am (hb); replace aY := am (hi); (try clear hb); (try clear hb2); (try clear hk); (try clear hi)) | ((with_reducible refine ak (f := 41) rfl ?_); refine aD (some 28) rfl rfl Tryz.func41 (by kernel_rfl) rfl #[.pointer (some ⟨g309, 0, none⟩)] rfl mz ?_; (with_reducible refine (aJ.calls g309 jZ j3 kr kM kN w _ ?side1 ?side2 A9.out).mono ?_); (case side1 => exact ag.lz aY.out); (case side2 => exact hz1 HB.out (ag.ge aY.out)); rintro e w31 ⟨rfl, hi, hb, hk⟩; refine ⟨_, rfl, ?_⟩; replace HO_7 := am (Kd.au (Kd.di (ag.apart (show ag w _ g309 jZ j3 from ag.lz aY.out) (rz HO_7.out) (by decide)) hk (fun _ h => h.2)) (fun _ h => h.1)); replace HB := am (hb); replace aY := am (hi); (try clear hb); (try clear hb2); (try clear hk); (try clear hi)) | ((with_reducible refine ak (f := 41) rfl ?_); refine aD (some 30) rfl rfl Tryz.func41 (by kernel_rfl) rfl #[.pointer (some ⟨g309, 0, none⟩)] rfl mz ?_; (with_reducible refine (aJ.calls g309 kM kN jo kO kP w _ ?side1 ?side2 A10.out).mono ?_); (case side1 => exact ag.lz aY.out); (case side2 => exact hz1 HB.out (ag.ge aY.out)); rintro e w32 ⟨rfl, hi, hb, hk⟩; refine ⟨_, rfl, ?_⟩; replace HO_7 := am (Kd.au (Kd.di (ag.apart (show ag w _ g309 kM kN from ag.lz aY.out) (rz HO_7.out) (by decide)) hk (fun _ h => h.2)) (fun _ h => h.1)); replace HB := am (hb); replace aY := am (hi); (try clear hb); (try clear hb2); (try clear hk); (try clear hi)) | ((with_reducible refine ak (f := 42) rfl ?_); refine aD (some 32) rfl rfl Tryz.func42 (by kernel_rfl) rfl #[.pointer (some ⟨g309, 0, none⟩)] rfl mz ?_; (with_reducible refine (bh.calls g309 kO kP pq tK tL w _ ?side1 ?side2 A11.out).mono ?_); (case side1 => exact ag.lz aY.out); (case side2 => exact hz1 HB.out (ag.ge aY.out)); rintro e w33 ⟨rfl, hi, hb, hk⟩; refine ⟨_, rfl, ?_⟩; replace HO_7 := am (Kd.au (Kd.di (ag.apart (show ag w _ g309 kO kP from ag.lz aY.out) (rz HO_7.out) (by decide)) hk (fun _ h => h.2)) (fun _ h => h.1)); replace HB := am (hb); replace aY := am (hi); (try clear hb); (try clear hb2); (try clear hk); (try clear hi); obtain ⟨Ib, Ic, Ie⟩ := Kd.bu HO_7.out; subst Ie; have p326 : 0 ≤ ((m9) : Int) := of_decide_eq_true az; have q326 : (m9) < (bD.length : Int) := of_decide_eq_true az; obtain ⟨Jy, e326, K3, K4⟩ := jD (Kd.av HO_7.out).2.2 (m9) p326 q326; cases e326; replace p326 := eq_true p326; replace q326 := eq_true q326))
           go_ret2
           (try simp only [nS]); exact ⟨_, by first | rfl | (simp [gX, gY] <;> rfl) | (simp only [← nS]; first | rfl | (simp [gX, gY] <;> rfl)) | (simp [*, gX, gY] <;> rfl), nz, hz1 HB.out (ag.ge aY.out)⟩
          ·
           rw [if_neg c29] at H; have zV : (((bn bD (m9)).f0) == kr) = false := beq_eq_false_iff_ne.mpr c29; have zW : (((bn bD (m9)).f0) != kr) = true := bne_iff_ne.mpr c29; obtain ⟨c35, H⟩ := ifz H; have Pb := Aside0.mk c35; clear c35; obtain ⟨QX, ER⟩ : ∃ y_ : List (cB), y_ = (bD ++ [(⟨kr, wrap64 (jo)⟩ : cB)]) := ⟨_, rfl⟩; (try rw [← ER] at H); have Pc := Aside0.mk ER; clear ER; have H' := Aside0.mk H; clear H
           go_wp2_with (first | ((with_reducible refine ak (f := 43) rfl ?_); refine aD (some 25) rfl rfl Tryz.func43 (by kernel_rfl) rfl #[.pointer (some ⟨g309, 0, none⟩)] rfl mz ?_; (with_reducible refine (aV.calls g309 fT fU pg jZ j3 w _ ?side1 ?side2 A7.out).mono ?_); (case side1 => exact ag.lz aY.out); (case side2 => exact hz1 HB.out (ag.ge aY.out)); rintro e w36 ⟨rfl, hi, hb, hk⟩; refine ⟨_, rfl, ?_⟩; replace HO_7 := am (Kd.au (Kd.di (ag.apart (show ag w _ g309 fT fU from ag.lz aY.out) (rz HO_7.out) (by decide)) hk (fun _ h => h.2)) (fun _ h => h.1)); replace HB := am (hb); replace aY := am (hi); (try clear hb); (try clear hb2); (try clear hk); (try clear hi)) | ((with_reducible refine ak (f := 41) rfl ?_); refine aD (some 28) rfl rfl Tryz.func41 (by kernel_rfl) rfl #[.pointer (some ⟨g309, 0, none⟩)] rfl mz ?_; (with_reducible refine (aJ.calls g309 jZ j3 kr kM kN w _ ?side1 ?side2 A9.out).mono ?_); (case side1 => exact ag.lz aY.out); (case side2 => exact hz1 HB.out (ag.ge aY.out)); rintro e w37 ⟨rfl, hi, hb, hk⟩; refine ⟨_, rfl, ?_⟩; replace HO_7 := am (Kd.au (Kd.di (ag.apart (show ag w _ g309 jZ j3 from ag.lz aY.out) (rz HO_7.out) (by decide)) hk (fun _ h => h.2)) (fun _ h => h.1)); replace HB := am (hb); replace aY := am (hi); (try clear hb); (try clear hb2); (try clear hk); (try clear hi)) | ((with_reducible refine ak (f := 41) rfl ?_); refine aD (some 30) rfl rfl Tryz.func41 (by kernel_rfl) rfl #[.pointer (some ⟨g309, 0, none⟩)] rfl mz ?_; (with_reducible refine (aJ.calls g309 kM kN jo kO kP w _ ?side1 ?side2 A10.out).mono ?_); (case side1 => exact ag.lz aY.out); (case side2 => exact hz1 HB.out (ag.ge aY.out)); rintro e w38 ⟨rfl, hi, hb, hk⟩; refine ⟨_, rfl, ?_⟩; replace HO_7 := am (Kd.au (Kd.di (ag.apart (show ag w _ g309 kM kN from ag.lz aY.out) (rz HO_7.out) (by decide)) hk (fun _ h => h.2)) (fun _ h => h.1)); replace HB := am (hb); replace aY := am (hi); (try clear hb); (try clear hb2); (try clear hk); (try clear hi)) | ((with_reducible refine ak (f := 42) rfl ?_); refine aD (some 32) rfl rfl Tryz.func42 (by kernel_rfl) rfl #[.pointer (some ⟨g309, 0, none⟩)] rfl mz ?_; (with_reducible refine (bh.calls g309 kO kP pq tK tL w _ ?side1 ?side2 A11.out).mono ?_); (case side1 => exact ag.lz aY.out); (case side2 => exact hz1 HB.out (ag.ge aY.out)); rintro e w39 ⟨rfl, hi, hb, hk⟩; refine ⟨_, rfl, ?_⟩; replace HO_7 := am (Kd.au (Kd.di (ag.apart (show ag w _ g309 kO kP from ag.lz aY.out) (rz HO_7.out) (by decide)) hk (fun _ h => h.2)) (fun _ h => h.1)); replace HB := am (hb); replace aY := am (hi); (try clear hb); (try clear hb2); (try clear hk); (try clear hi); obtain ⟨jC, jx, tG⟩ := Kd.bu HO_7.out; subst tG; have p326 : 0 ≤ ((m9) : Int) := of_decide_eq_true az; have q326 : (m9) < (bD.length : Int) := of_decide_eq_true az; obtain ⟨Jy, e326, K3, K4⟩ := jD (Kd.av HO_7.out).2.2 (m9) p326 q326; cases e326; replace p326 := eq_true p326; replace q326 := eq_true q326) | ((with_reducible refine eB (b := .append) (xs := #[.tmp 64, .tmp 69]) rfl ?_); at_builtin; refine Kd.gQ tv (w0 := w) w.heap.size rfl (.tmp 64) (.tmp 69) 130 133 (.agg #[(.int .u64 0), (.int .i64 0)]) 16 rfl Tryz.underlying130 CW rfl (by decide) (by omega) (.slice (some Jy) bD.length jx) bD (⟨kr, wrap64 (jo)⟩ : cB) [.int .u64 kr, .int .i64 (wrap64 (jo))] (fun _ => True) (fun _ => False) rfl rfl ?aP (fun _ hk => hk.elim) ?aF ?aO ?aB ?aS ?aL ?_; (case aP => exact AQ _ _ _ (⟨kr, wrap64 (jo)⟩ : cB)); (case aB => exact (hz1 HB.out (ag.ge aY.out))); (case aF => exact (fun _ _ => trivial)); (case aO => exact (rz HO_7.out)); (case aS => exact (ai (hz1 HB.out (ag.ge aY.out)))); (case aL => have := Pb.out; omega); intro v328 w41 ho hb hg hat; rw [← Pc.out] at ho; replace aY := am (ag.grown (ag.lz aY.out) hg (ag.nW aY.out HO_7.out (by decide))); replace HB := am (hb); have Pd := am (ho); clear HO_7; clear ho hb hg hat))
           go_roundg k1
           case measure => have := HK1.out; omega
           case rel => exact ⟨(QX), (wrap64 (cR - (wrap64 (jo)))), (tK), (tL), sz, H', ⟨by have := HK1.out; omega⟩, ⟨rz Pd.out⟩, ⟨ag.lz aY.out⟩, ⟨hz1 HB.out (ag.ge aY.out)⟩⟩
         ·
          rw [if_neg c25] at H; have uk : decide (0 ≤ (wrap64 ((bD.length : Int) - 1))) = false := decide_eq_false c25; clear c25; obtain ⟨c42, H⟩ := ifz H; have Pe := Aside0.mk c42; clear c42; obtain ⟨QY, ES⟩ : ∃ y_ : List (cB), y_ = (bD ++ [(⟨kr, wrap64 (jo)⟩ : cB)]) := ⟨_, rfl⟩; (try rw [← ES] at H); have Pf := Aside0.mk ES; clear ES; have H' := Aside0.mk H; clear H
          go_wp2_with (first | ((with_reducible refine ak (f := 43) rfl ?_); refine aD (some 25) rfl rfl Tryz.func43 (by kernel_rfl) rfl #[.pointer (some ⟨g309, 0, none⟩)] rfl mz ?_; (with_reducible refine (aV.calls g309 fT fU pg jZ j3 w _ ?side1 ?side2 A7.out).mono ?_); (case side1 => exact ag.lz aY.out); (case side2 => exact hz1 HB.out (ag.ge aY.out)); rintro e w43 ⟨rfl, hi, hb, hk⟩; refine ⟨_, rfl, ?_⟩; replace HO_7 := am (Kd.au (Kd.di (ag.apart (show ag w _ g309 fT fU from ag.lz aY.out) (rz HO_7.out) (by decide)) hk (fun _ h => h.2)) (fun _ h => h.1)); replace HB := am (hb); replace aY := am (hi); (try clear hb); (try clear hb2); (try clear hk); (try clear hi)) | ((with_reducible refine ak (f := 41) rfl ?_); refine aD (some 28) rfl rfl Tryz.func41 (by kernel_rfl) rfl #[.pointer (some ⟨g309, 0, none⟩)] rfl mz ?_; (with_reducible refine (aJ.calls g309 jZ j3 kr kM kN w _ ?side1 ?side2 A9.out).mono ?_); (case side1 => exact ag.lz aY.out); (case side2 => exact hz1 HB.out (ag.ge aY.out)); rintro e w44 ⟨rfl, hi, hb, hk⟩; refine ⟨_, rfl, ?_⟩; replace HO_7 := am (Kd.au (Kd.di (ag.apart (show ag w _ g309 jZ j3 from ag.lz aY.out) (rz HO_7.out) (by decide)) hk (fun _ h => h.2)) (fun _ h => h.1)); replace HB := am (hb); replace aY := am (hi); (try clear hb); (try clear hb2); (try clear hk); (try clear hi)) | ((with_reducible refine ak (f := 41) rfl ?_); refine aD (some 30) rfl rfl Tryz.func41 (by kernel_rfl) rfl #[.pointer (some ⟨g309, 0, none⟩)] rfl mz ?_; (with_reducible refine (aJ.calls g309 kM kN jo kO kP w _ ?side1 ?side2 A10.out).mono ?_); (case side1 => exact ag.lz aY.out); (case side2 => exact hz1 HB.out (ag.ge aY.out)); rintro e w45 ⟨rfl, hi, hb, hk⟩; refine ⟨_, rfl, ?_⟩; replace HO_7 := am (Kd.au (Kd.di (ag.apart (show ag w _ g309 kM kN from ag.lz aY.out) (rz HO_7.out) (by decide)) hk (fun _ h => h.2)) (fun _ h => h.1)); replace HB := am (hb); replace aY := am (hi); (try clear hb); (try clear hb2); (try clear hk); (try clear hi)) | ((with_reducible refine ak (f := 42) rfl ?_); refine aD (some 32) rfl rfl Tryz.func42 (by kernel_rfl) rfl #[.pointer (some ⟨g309, 0, none⟩)] rfl mz ?_; (with_reducible refine (bh.calls g309 kO kP pq tK tL w _ ?side1 ?side2 A11.out).mono ?_); (case side1 => exact ag.lz aY.out); (case side2 => exact hz1 HB.out (ag.ge aY.out)); rintro e w46 ⟨rfl, hi, hb, hk⟩; refine ⟨_, rfl, ?_⟩; replace HO_7 := am (Kd.au (Kd.di (ag.apart (show ag w _ g309 kO kP from ag.lz aY.out) (rz HO_7.out) (by decide)) hk (fun _ h => h.2)) (fun _ h => h.1)); replace HB := am (hb); replace aY := am (hi); (try clear hb); (try clear hb2); (try clear hk); (try clear hi); obtain ⟨En, Eo, Ep⟩ := Kd.bu HO_7.out; subst Ep) | ((with_reducible refine eB (b := .append) (xs := #[.tmp 64, .tmp 69]) rfl ?_); at_builtin; refine Kd.gQ tv (w0 := w) w.heap.size rfl (.tmp 64) (.tmp 69) 130 133 (.agg #[(.int .u64 0), (.int .i64 0)]) 16 rfl Tryz.underlying130 CW rfl (by decide) (by omega) (.slice En bD.length Eo) bD (⟨kr, wrap64 (jo)⟩ : cB) [.int .u64 kr, .int .i64 (wrap64 (jo))] (fun _ => True) (fun _ => False) rfl rfl ?aP (fun _ hk => hk.elim) ?aF ?aO ?aB ?aS ?aL ?_; (case aP => exact AQ _ _ _ (⟨kr, wrap64 (jo)⟩ : cB)); (case aB => exact (hz1 HB.out (ag.ge aY.out))); (case aF => exact (fun _ _ => trivial)); (case aO => exact (rz HO_7.out)); (case aS => exact (ai (hz1 HB.out (ag.ge aY.out)))); (case aL => have := Pe.out; omega); intro v331 w48 ho hb hg hat; rw [← Pf.out] at ho; replace aY := am (ag.grown (ag.lz aY.out) hg (ag.nW aY.out HO_7.out (by decide))); replace HB := am (hb); have Pg := am (ho); clear HO_7; clear ho hb hg hat))
          go_roundg k1
          case measure => have := HK1.out; omega
          case rel => exact ⟨(QY), (wrap64 (cR - (wrap64 (jo)))), (tK), (tL), sz, H', ⟨by have := HK1.out; omega⟩, ⟨rz Pg.out⟩, ⟨ag.lz aY.out⟩, ⟨hz1 HB.out (ag.ge aY.out)⟩⟩
      ·
       rw [if_neg c12] at H; have nR : (pq == 0) = false := beq_eq_false_iff_ne.mpr c12; have uy : (pq != 0) = true := bne_iff_ne.mpr c12; simp only [Option.some.injEq, Prod.mk.injEq] at H; obtain ⟨rfl, rfl⟩ := H
       go_wp2_with (first | ((with_reducible refine ak (f := 43) rfl ?_); refine aD (some 25) rfl rfl Tryz.func43 (by kernel_rfl) rfl #[.pointer (some ⟨g309, 0, none⟩)] rfl mz ?_; (with_reducible refine (aV.calls g309 fT fU pg jZ j3 w _ ?side1 ?side2 A7.out).mono ?_); (case side1 => exact ag.lz aY.out); (case side2 => exact hz1 HB.out (ag.ge aY.out)); rintro e w49 ⟨rfl, hi, hb, hk⟩; refine ⟨_, rfl, ?_⟩; replace HO_7 := am (Kd.au (Kd.di (ag.apart (show ag w _ g309 fT fU from ag.lz aY.out) (rz HO_7.out) (by decide)) hk (fun _ h => h.2)) (fun _ h => h.1)); replace HB := am (hb); replace aY := am (hi); (try clear hb); (try clear hb2); (try clear hk); (try clear hi)) | ((with_reducible refine ak (f := 41) rfl ?_); refine aD (some 28) rfl rfl Tryz.func41 (by kernel_rfl) rfl #[.pointer (some ⟨g309, 0, none⟩)] rfl mz ?_; (with_reducible refine (aJ.calls g309 jZ j3 kr kM kN w _ ?side1 ?side2 A9.out).mono ?_); (case side1 => exact ag.lz aY.out); (case side2 => exact hz1 HB.out (ag.ge aY.out)); rintro e w50 ⟨rfl, hi, hb, hk⟩; refine ⟨_, rfl, ?_⟩; replace HO_7 := am (Kd.au (Kd.di (ag.apart (show ag w _ g309 jZ j3 from ag.lz aY.out) (rz HO_7.out) (by decide)) hk (fun _ h => h.2)) (fun _ h => h.1)); replace HB := am (hb); replace aY := am (hi); (try clear hb); (try clear hb2); (try clear hk); (try clear hi)) | ((with_reducible refine ak (f := 41) rfl ?_); refine aD (some 30) rfl rfl Tryz.func41 (by kernel_rfl) rfl #[.pointer (some ⟨g309, 0, none⟩)] rfl mz ?_; (with_reducible refine (aJ.calls g309 kM kN jo kO kP w _ ?side1 ?side2 A10.out).mono ?_); (case side1 => exact ag.lz aY.out); (case side2 => exact hz1 HB.out (ag.ge aY.out)); rintro e w51 ⟨rfl, hi, hb, hk⟩; refine ⟨_, rfl, ?_⟩; replace HO_7 := am (Kd.au (Kd.di (ag.apart (show ag w _ g309 kM kN from ag.lz aY.out) (rz HO_7.out) (by decide)) hk (fun _ h => h.2)) (fun _ h => h.1)); replace HB := am (hb); replace aY := am (hi); (try clear hb); (try clear hb2); (try clear hk); (try clear hi)) | ((with_reducible refine ak (f := 42) rfl ?_); refine aD (some 32) rfl rfl Tryz.func42 (by kernel_rfl) rfl #[.pointer (some ⟨g309, 0, none⟩)] rfl mz ?_; (with_reducible refine (bh.calls g309 kO kP pq tK tL w _ ?side1 ?side2 A11.out).mono ?_); (case side1 => exact ag.lz aY.out); (case side2 => exact hz1 HB.out (ag.ge aY.out)); rintro e w52 ⟨rfl, hi, hb, hk⟩; refine ⟨_, rfl, ?_⟩; replace HO_7 := am (Kd.au (Kd.di (ag.apart (show ag w _ g309 kO kP from ag.lz aY.out) (rz HO_7.out) (by decide)) hk (fun _ h => h.2)) (fun _ h => h.1)); replace HB := am (hb); replace aY := am (hi); (try clear hb); (try clear hb2); (try clear hk); (try clear hi)))
       go_ret2
       exact ⟨_, ez, nz, hz1 HB.out (ag.ge aY.out)⟩
     ·
      rw [if_neg c8] at H; have o7 : decide (0 < pg) = false := decide_eq_false c8; clear c8
      by_cases c53 : cR > 0
      ·
       rw [if_pos c53] at H; have Ph : decide (0 < cR) = true := decide_eq_true c53; clear c53; simp only [Option.some.injEq, Prod.mk.injEq] at H; obtain ⟨rfl, rfl⟩ := H
       go_wp2_with (first | ((with_reducible refine ak (f := 43) rfl ?_); refine aD (some 25) rfl rfl Tryz.func43 (by kernel_rfl) rfl #[.pointer (some ⟨g309, 0, none⟩)] rfl mz ?_; (with_reducible refine (aV.calls g309 fT fU pg jZ j3 w _ ?side1 ?side2 A7.out).mono ?_); (case side1 => exact ag.lz aY.out); (case side2 => exact hz1 HB.out (ag.ge aY.out)); rintro e w54 ⟨rfl, hi, hb, hk⟩; refine ⟨_, rfl, ?_⟩; replace HO_7 := am (Kd.au (Kd.di (ag.apart (show ag w _ g309 fT fU from ag.lz aY.out) (rz HO_7.out) (by decide)) hk (fun _ h => h.2)) (fun _ h => h.1)); replace HB := am (hb); replace aY := am (hi); (try clear hb); (try clear hb2); (try clear hk); (try clear hi)))
       go_ret2
       exact ⟨_, ez, nz, hz1 HB.out (ag.ge aY.out)⟩
      ·
       rw [if_neg c53] at H; have Ph : decide (0 < cR) = false := decide_eq_false c53; clear c53; obtain ⟨⟨QZ, Q0⟩, A55, H⟩ := bnz H; (try dsimp only at H); simp only [Option.some.injEq, Prod.mk.injEq] at H; obtain ⟨rfl, rfl⟩ := H
       go_wp2_with (first | ((with_reducible refine ak (f := 43) rfl ?_); refine aD (some 25) rfl rfl Tryz.func43 (by kernel_rfl) rfl #[.pointer (some ⟨g309, 0, none⟩)] rfl mz ?_; (with_reducible refine (aV.calls g309 fT fU pg jZ j3 w _ ?side1 ?side2 A7.out).mono ?_); (case side1 => exact ag.lz aY.out); (case side2 => exact hz1 HB.out (ag.ge aY.out)); rintro e w56 ⟨rfl, hi, hb, hk⟩; refine ⟨_, rfl, ?_⟩; replace HO_7 := am (Kd.au (Kd.di (ag.apart (show ag w _ g309 fT fU from ag.lz aY.out) (rz HO_7.out) (by decide)) hk (fun _ h => h.2)) (fun _ h => h.1)); replace HB := am (hb); replace aY := am (hi); (try clear hb); (try clear hb2); (try clear hk); (try clear hi); obtain ⟨Ig, Ih, Ii⟩ := Kd.bu HO_7.out; subst Ii) | ((with_reducible refine ak (f := 121) rfl ?_); refine aD (some 76) rfl rfl Tryz.func121 (by kernel_rfl) rfl #[.slice Ig bD.length Ih, .int .i64 a1] rfl mz ?_; (with_reducible refine (bV.calls k1 _ _ bD a1 QZ Q0 _ ?side1 ?side2 A55.out).mono ?_); (case side1 => repeat (first | exact (Kd.av HO_7.out).2.2 | (with_reducible refine Kd.bO ?_ _) | (with_reducible refine Kd.bQ ?_ _) | (with_reducible refine Kd.bZ ?_))); (case side2 => exact (Kd.av HO_7.out).2.1); rintro e w58 ⟨v315, rfl, ho0, hb⟩; refine ⟨_, rfl, ?_⟩; replace HO_7 := rb HO_7 hb; have Pj := am (Kd.cV ho0 (ai (hz1 HB.out (ag.ge aY.out)))); replace HB := am (aM (hz1 HB.out (ag.ge aY.out)) hb); replace aY := am (ag.below (ag.lz aY.out) hb); (try clear hb); (try clear hb2); (try clear hk); (try clear hi); (try clear ho0)))
       go_ret2
       exact ⟨_, ez, by (with_reducible repeat (first | apply Kd.ay | apply Kd.aC | apply Kd.ax)); exact Pj.out, hz1 HB.out (ag.ge aY.out)⟩
end Go.Proofs.YtfgnjndfnijjoaaGreat.Print
end
section
namespace Go.Proofs.YtfgnjndfnijjoaaGreat.Print
open Go.RowKit Go.Proofs.YtfgnjndfnijjoaaGreatW.PrintWords Go.Proofs.YtfgnjndfnijjoaaGreatW.PrintLast Go.Proofs.YtfgnjndfnijjoaaGreatW.PrintMore
attribute [local go_sem] dJ dK eF eG cZ dc dL dM
attribute [local go_sem] bH
set_option linter.unusedVariables false
set_option linter.unusedSimpArgs false
mutual
def cr.j0 : Nat → ByteArray → Int → Int → Bool → Option (ByteArray × Int × Int)
 | 0, _, _, _, _ => none
 | k + 1, x0, x1, x2, x19 => if x19 = true then (some ((⟨#[]⟩ : ByteArray), 0, 1)) else (if 0 ≤ x1 then (if x1 ≤ (x0.size : Int) then ((eD.f (x0.extract (x1 : Int).toNat x0.size)).bind fun Jz => ((aJ.f Jz.1 Jz.2).bind fun wK => ((bh.f wK.2.1 wK.2.2).bind fun sG => (if sG.1 = 0 then (if x2 < 0 then (cr.j1 k x0 wK.1 true sG.2.1 sG.2.2) else (cr.j1 k x0 wK.1 (decide (wK.1 > (IntKind.u64.wrap (x2)))) sG.2.1 sG.2.2)) else ((bh.f sG.2.1 sG.2.2).bind fun Pk => (some ((⟨#[]⟩ : ByteArray), 0, Pk.1))))))) else (none)) else (none))
def cr.j1 : Nat → ByteArray → Int → Bool → ByteArray → Int → Option (ByteArray × Int × Int)
 | 0, _, _, _, _, _ => none
 | k + 1, x0, x10, x32, x336000, x336001 => if x32 = true then (some ((⟨#[]⟩ : ByteArray), 0, 10)) else ((aV.f x336000 x336001).bind fun ET => (if x10 > (IntKind.u64.wrap (ET.1)) then (some ((⟨#[]⟩ : ByteArray), 0, 2)) else ((dw.f ET.2.1 ET.2.2 (wrap64 (x10))).bind fun zX => ((iG.f zX.1).bind fun Ij => (if Ij = true then ((aV.f zX.2.1 zX.2.2).bind fun Pm => (some (zX.1, wrap64 ((x0.size : Int) - Pm.1), 0))) else (some ((⟨#[]⟩ : ByteArray), 0, 4)))))))
end
def cr.f (k : Nat) (a0 : ByteArray) (a1 : Int) (a2 : Int) : Option (ByteArray × Int × Int) := if a1 < 0 then (cr.j0 k a0 a1 a2 true) else (cr.j0 k a0 a1 a2 (decide (a1 > (a0.size : Int))))
theorem cr.cF : ∀ k, (∀ y0 y1 y2 y3, LeO (cr.j0 k y0 y1 y2 y3) (cr.j0 (k + 1) y0 y1 y2 y3)) ∧ (∀ y0 y1 y2 y3 y4, LeO (cr.j1 k y0 y1 y2 y3 y4) (cr.j1 (k + 1) y0 y1 y2 y3 y4))
 | 0 => ⟨fun _ _ _ _ r h => by simp [cr.j0] at h, fun _ _ _ _ _ r h => by simp [cr.j1] at h⟩
 | k + 1 => by
  obtain ⟨ih0, ih1⟩ := cr.cF k; refine ⟨?_, ?_⟩
  ·
   intro y0 y1 y2 y3; unfold cr.j0
   repeat' first
   | (with_reducible exact ih0 _ _ _ _)
   | (with_reducible exact ih1 _ _ _ _ _)
   | (with_reducible exact LeO.refl _)
   | (with_reducible exact LeO.none _)
   | (with_reducible refine LeO.ite ?_ ?_)
   | (with_reducible refine LeO.bind ?_ (fun _ => ?_))
  ·
   intro y0 y1 y2 y3 y4; unfold cr.j1
   repeat' first
   | (with_reducible exact ih0 _ _ _ _)
   | (with_reducible exact ih1 _ _ _ _ _)
   | (with_reducible exact LeO.refl _)
   | (with_reducible exact LeO.none _)
   | (with_reducible refine LeO.ite ?_ ?_)
   | (with_reducible refine LeO.bind ?_ (fun _ => ?_))
theorem cr.mono : ∀ a0 a1 a2 k, LeO (cr.f k a0 a1 a2) (cr.f (k + 1) a0 a1 a2) := by
 intro a0 a1 a2 k; obtain ⟨ih0, ih1⟩ := cr.cF k; unfold cr.f
 repeat' first
  | (with_reducible exact ih0 _ _ _ _)
  | (with_reducible exact ih1 _ _ _ _ _)
  | (with_reducible exact LeO.refl _)
  | (with_reducible exact LeO.none _)
  | (with_reducible refine LeO.ite ?_ ?_)
  | (with_reducible refine LeO.bind ?_ (fun _ => ?_))
set_option maxHeartbeats 8000000 in
set_option maxRecDepth 100000 in
theorem cr.calls (k : Nat) (a0 : ByteArray) (a1 : Int) (a2 : Int) (r1 : ByteArray) (r2 : Int) (r3 : Int) (w : World) (h : cr.f k a0 a1 a2 = some (r1, r2, r3)) :
 Calls Tryz.prog 122 #[.string a0, .int .i64 a1, .int .i64 a2] w fun e w' => e = .returned (.tuple #[.string r1, .int .i64 r2, .int .i64 r3]) ∧ Below w.heap.size w w' := by
 have HB := Aside0.mk (Below.refl w.heap.size w); have H := h; unfold cr.f at H; clear h; have HC4 := Aside0.mk H; clear H; go_enter Tryz.func122, Tryz.ntmps122
 go_upto_region 1 with (fail)
 go_cut [19] (fun v19 wc => ∃ (kq : Nat) (zY : Bool), v19 = .bool zY ∧ Aside0 (cr.j0 kq a0 a1 a2 zY = some (r1, r2, r3)) ∧ Aside0 (kq ≤ k) ∧ Aside0 (Below w.heap.size w wc))
 case first =>
  have H := HC4.out; clear HC4
  by_cases c5 : a1 < 0
  ·
   rw [if_pos c5] at H; have fk := decide_eq_true c5; clear c5
   (first | rw [fk] | (simp only [bN, bR]; rw [fk]) | skip)
   have H' := Aside0.mk H; clear H
   go_wp2
   go_meet
   case rel => exact ⟨_, (true), sz, H', ⟨by first | omega | exact Nat.le_refl _⟩, ⟨hz HB.out⟩⟩
  ·
   rw [if_neg c5] at H; have fk := decide_eq_false c5; clear c5
   (first | rw [fk] | (simp only [bN, bR]; rw [fk]) | skip)
   have H' := Aside0.mk H; clear H
   go_wp2
   go_meet
   case rel => exact ⟨_, (decide (a1 > (a0.size : Int))), sz, H', ⟨by first | omega | exact Nat.le_refl _⟩, ⟨hz HB.out⟩⟩
 case rest =>
  clear HC4
  try clear c1
  try clear p2
  try clear c5
  try clear fk
  obtain ⟨kq, zY, rfl, HA, HJ3, HB⟩ := hcut
  cases kq with
  | zero => exact absurd HA.out (by simp [cr.j0])
  | succ kj3 =>
   have H := HA.out; clear HA; simp only [cr.j0] at H
   by_cases c6 : zY = true
   ·
    subst c6; rw [if_pos rfl] at H; simp only [Option.some.injEq, Prod.mk.injEq] at H; obtain ⟨rfl, rfl, rfl⟩ := H
    go_wp2
    go_ret3
    exact ⟨ez, hz HB.out⟩
   ·
    replace c6 := Bool.eq_false_iff.mpr c6; subst c6; rw [if_neg (show ¬ (false = true) by decide)] at H; obtain ⟨c7, H⟩ := ifz H; have o6 := eq_true c7; have DT : decide (0 ≤ a1) = true := decide_eq_true c7; clear c7; obtain ⟨c8, H⟩ := ifz H; have o7 := eq_true c8; have Q1 : decide (a1 ≤ (a0.size : Int)) = true := decide_eq_true c8; clear c8; obtain ⟨⟨EU, EV⟩, A9, H⟩ := bnz H; (try dsimp only at H); obtain ⟨⟨pE, EW, EX⟩, A10, H⟩ := bnz H; (try dsimp only at H); obtain ⟨⟨vE, tM, tN⟩, A11, H⟩ := bnz H; (try dsimp only at H)
    by_cases c12 : vE = 0
    ·
     rw [if_pos c12] at H; have nR : (vE == 0) = true := beq_iff_eq.mpr c12; have uy : (vE != 0) = false := bne_eq_false_iff_eq.mpr c12; clear c12; have Ik := Aside0.mk H; clear H
     go_upto_region 7 with (first | ((with_reducible refine ak (f := 40) rfl ?_); refine aD (some 23) rfl rfl Tryz.func40 (by kernel_rfl) rfl #[.string (a0.extract (a1 : Int).toNat a0.size)] rfl mz ?_; (with_reducible refine (eD.calls (a0.extract (a1 : Int).toNat a0.size) EU EV w _ ?side1 A9.out).mono ?_); (case side1 => exact hz HB.out); rintro e w14 ⟨g335, rfl, hi, hb, hb2⟩; refine ⟨_, rfl, ?_⟩; replace HB := am (hb); have dW := am (hi); (try clear hb); (try clear hb2); (try clear hk); (try clear hi)) | ((with_reducible refine ak (f := 41) rfl ?_); refine aD (some 25) rfl rfl Tryz.func41 (by kernel_rfl) rfl #[.pointer (some ⟨g335, 0, none⟩)] rfl mz ?_; (with_reducible refine (aJ.calls g335 EU EV pE EW EX w _ ?side1 ?side2 A10.out).mono ?_); (case side1 => exact ag.lz dW.out); (case side2 => exact hz1 HB.out (ag.ge dW.out)); rintro e w15 ⟨rfl, hi, hb, hk⟩; refine ⟨_, rfl, ?_⟩; replace HB := am (hb); replace dW := am (hi); (try clear hb); (try clear hb2); (try clear hk); (try clear hi)) | ((with_reducible refine ak (f := 42) rfl ?_); refine aD (some 28) rfl rfl Tryz.func42 (by kernel_rfl) rfl #[.pointer (some ⟨g335, 0, none⟩)] rfl mz ?_; (with_reducible refine (bh.calls g335 EW EX vE tM tN w _ ?side1 ?side2 A11.out).mono ?_); (case side1 => exact ag.lz dW.out); (case side2 => exact hz1 HB.out (ag.ge dW.out)); rintro e w16 ⟨rfl, hi, hb, hk⟩; refine ⟨_, rfl, ?_⟩; replace HB := am (hb); replace dW := am (hi); (try clear hb); (try clear hb2); (try clear hk); (try clear hi)))
     (try simp only [Act.put, List.setIfInBounds_toArray, List.set_cons_zero, List.set_cons_succ])
     go_cut [32] (fun v32 wc => ∃ (kq : Nat) (wL : Bool), v32 = .bool wL ∧ Aside0 (cr.j1 kq a0 pE wL tM tN = some (r1, r2, r3)) ∧ Aside0 (kq ≤ kj3) ∧ Aside0 (ag w wc g335 tM tN) ∧ Aside0 (Below w.heap.size w wc))
     case first =>
      have H := Ik.out; clear Ik
      by_cases c17 : a2 < 0
      ·
       rw [if_pos c17] at H; have oM := decide_eq_true c17; clear c17
       (first | rw [oM] | (simp only [bN, bR]; rw [oM]) | skip)
       have H' := Aside0.mk H; clear H
       go_wp2
       go_meet
       case rel => exact ⟨_, (true), sz, H', ⟨by have := HJ3.out; first | omega | exact Nat.le_refl _⟩, ⟨ag.lz dW.out⟩, ⟨hz1 HB.out (ag.ge dW.out)⟩⟩
      ·
       rw [if_neg c17] at H; have oM := decide_eq_false c17; clear c17
       (first | rw [oM] | (simp only [bN, bR]; rw [oM]) | skip)
       have H' := Aside0.mk H; clear H
       go_wp2
       go_meet
       case rel => exact ⟨_, (decide (pE > (IntKind.u64.wrap (a2)))), sz, H', ⟨by have := HJ3.out; first | omega | exact Nat.le_refl _⟩, ⟨ag.lz dW.out⟩, ⟨hz1 HB.out (ag.ge dW.out)⟩⟩
     case rest =>
      clear Ik
      try clear c1
      try clear p2
      try clear c4
      try clear c5
      try clear fk
      try clear c6
      try clear c7
      try clear o6
      try clear DT
      try clear c8
      try clear o7
      try clear Q1
      try clear c12
      try clear nR
      try clear uy
      try clear c17
      try clear oM
      try clear p2
      obtain ⟨kq, wL, rfl, HA, HJ12, dW, HB⟩ := hcut
      cases kq with
      | zero => exact absurd HA.out (by simp [cr.j1])
      | succ kj12 =>
       have H := HA.out; clear HA; simp only [cr.j1] at H
       by_cases c18 : wL = true
       ·
        subst c18; rw [if_pos rfl] at H; simp only [Option.some.injEq, Prod.mk.injEq] at H; obtain ⟨rfl, rfl, rfl⟩ := H
        go_wp2
        go_ret3
        exact ⟨ez, hz1 HB.out (ag.ge dW.out)⟩
       ·
        replace c18 := Bool.eq_false_iff.mpr c18; subst c18; rw [if_neg (show ¬ (false = true) by decide)] at H; obtain ⟨⟨yo, BA, BB⟩, A19, H⟩ := bnz H; (try dsimp only at H)
        by_cases c20 : pE > (IntKind.u64.wrap (yo))
        ·
         rw [if_pos c20] at H; have oP : decide ((IntKind.u64.wrap (yo)) < pE) = true := decide_eq_true c20; clear c20; simp only [Option.some.injEq, Prod.mk.injEq] at H; obtain ⟨rfl, rfl, rfl⟩ := H
         go_wp2_with (first | ((with_reducible refine ak (f := 43) rfl ?_); refine aD (some 44) rfl rfl Tryz.func43 (by kernel_rfl) rfl #[.pointer (some ⟨g335, 0, none⟩)] rfl mz ?_; (with_reducible refine (aV.calls g335 tM tN yo BA BB w _ ?side1 ?side2 A19.out).mono ?_); (case side1 => exact ag.lz dW.out); (case side2 => exact hz1 HB.out (ag.ge dW.out)); rintro e w21 ⟨rfl, hi, hb, hk⟩; refine ⟨_, rfl, ?_⟩; replace HB := am (hb); replace dW := am (hi); (try clear hb); (try clear hb2); (try clear hk); (try clear hi)))
         go_ret3
         exact ⟨ez, hz1 HB.out (ag.ge dW.out)⟩
        ·
         rw [if_neg c20] at H; have oP : decide ((IntKind.u64.wrap (yo)) < pE) = false := decide_eq_false c20; clear c20; obtain ⟨⟨yp, Il, Im⟩, A22, H⟩ := bnz H; (try dsimp only at H); obtain ⟨Ij, A23, H⟩ := bnz H; (try dsimp only at H)
         by_cases c24 : Ij = true
         ·
          subst c24; rw [if_pos rfl] at H; obtain ⟨⟨Q2, Q3, Q4⟩, A25, H⟩ := bnz H; (try dsimp only at H); simp only [Option.some.injEq, Prod.mk.injEq] at H; obtain ⟨rfl, rfl, rfl⟩ := H
          go_wp2_with (first | ((with_reducible refine ak (f := 43) rfl ?_); refine aD (some 44) rfl rfl Tryz.func43 (by kernel_rfl) rfl #[.pointer (some ⟨g335, 0, none⟩)] rfl mz ?_; (with_reducible refine (aV.calls g335 tM tN yo BA BB w _ ?side1 ?side2 A19.out).mono ?_); (case side1 => exact ag.lz dW.out); (case side2 => exact hz1 HB.out (ag.ge dW.out)); rintro e w26 ⟨rfl, hi, hb, hk⟩; refine ⟨_, rfl, ?_⟩; replace HB := am (hb); replace dW := am (hi); (try clear hb); (try clear hb2); (try clear hk); (try clear hi)) | ((with_reducible refine ak (f := 44) rfl ?_); refine aD (some 50) rfl rfl Tryz.func44 (by kernel_rfl) rfl #[.pointer (some ⟨g335, 0, none⟩), .int .i64 (wrap64 (pE))] rfl mz ?_; (with_reducible refine (dw.calls g335 BA BB (wrap64 (pE)) yp Il Im w _ ?side1 ?side2 A22.out).mono ?_); (case side1 => exact ag.lz dW.out); (case side2 => exact hz1 HB.out (ag.ge dW.out)); rintro e w27 ⟨rfl, hi, hb, hk⟩; refine ⟨_, rfl, ?_⟩; replace HB := am (hb); replace dW := am (hi); (try clear hb); (try clear hb2); (try clear hk); (try clear hi)) | ((with_reducible refine ak (f := 164) rfl ?_); refine aD (some 52) rfl rfl Tryz.func164 (by kernel_rfl) rfl #[.string yp] rfl mz ?_; (with_reducible refine (iG.calls yp true _ A23.out).mono ?_); rintro e w28 ⟨rfl, hb⟩; refine ⟨_, rfl, ?_⟩; replace HB := am (aM (hz1 HB.out (ag.ge dW.out)) hb); replace dW := am (ag.below (ag.lz dW.out) hb); (try clear hb); (try clear hb2); (try clear hk); (try clear hi)) | ((with_reducible refine ak (f := 43) rfl ?_); refine aD (some 58) rfl rfl Tryz.func43 (by kernel_rfl) rfl #[.pointer (some ⟨g335, 0, none⟩)] rfl mz ?_; (with_reducible refine (aV.calls g335 Il Im Q2 Q3 Q4 w _ ?side1 ?side2 A25.out).mono ?_); (case side1 => exact ag.lz dW.out); (case side2 => exact hz1 HB.out (ag.ge dW.out)); rintro e w29 ⟨rfl, hi, hb, hk⟩; refine ⟨_, rfl, ?_⟩; replace HB := am (hb); replace dW := am (hi); (try clear hb); (try clear hb2); (try clear hk); (try clear hi)))
          go_ret3
          exact ⟨ez, hz1 HB.out (ag.ge dW.out)⟩
         ·
          replace c24 := Bool.eq_false_iff.mpr c24; subst c24; rw [if_neg (show ¬ (false = true) by decide)] at H; simp only [Option.some.injEq, Prod.mk.injEq] at H; obtain ⟨rfl, rfl, rfl⟩ := H
          go_wp2_with (first | ((with_reducible refine ak (f := 43) rfl ?_); refine aD (some 44) rfl rfl Tryz.func43 (by kernel_rfl) rfl #[.pointer (some ⟨g335, 0, none⟩)] rfl mz ?_; (with_reducible refine (aV.calls g335 tM tN yo BA BB w _ ?side1 ?side2 A19.out).mono ?_); (case side1 => exact ag.lz dW.out); (case side2 => exact hz1 HB.out (ag.ge dW.out)); rintro e w30 ⟨rfl, hi, hb, hk⟩; refine ⟨_, rfl, ?_⟩; replace HB := am (hb); replace dW := am (hi); (try clear hb); (try clear hb2); (try clear hk); (try clear hi)) | ((with_reducible refine ak (f := 44) rfl ?_); refine aD (some 50) rfl rfl Tryz.func44 (by kernel_rfl) rfl #[.pointer (some ⟨g335, 0, none⟩), .int .i64 (wrap64 (pE))] rfl mz ?_; (with_reducible refine (dw.calls g335 BA BB (wrap64 (pE)) yp Il Im w _ ?side1 ?side2 A22.out).mono ?_); (case side1 => exact ag.lz dW.out); (case side2 => exact hz1 HB.out (ag.ge dW.out)); rintro e w31 ⟨rfl, hi, hb, hk⟩; refine ⟨_, rfl, ?_⟩; replace HB := am (hb); replace dW := am (hi); (try clear hb); (try clear hb2); (try clear hk); (try clear hi)) | ((with_reducible refine ak (f := 164) rfl ?_); refine aD (some 52) rfl rfl Tryz.func164 (by kernel_rfl) rfl #[.string yp] rfl mz ?_; (with_reducible refine (iG.calls yp false _ A23.out).mono ?_); rintro e w32 ⟨rfl, hb⟩; refine ⟨_, rfl, ?_⟩; replace HB := am (aM (hz1 HB.out (ag.ge dW.out)) hb); replace dW := am (ag.below (ag.lz dW.out) hb); (try clear hb); (try clear hb2); (try clear hk); (try clear hi)))
          go_ret3
          exact ⟨ez, hz1 HB.out (ag.ge dW.out)⟩
    ·
     rw [if_neg c12] at H; have nR : (vE == 0) = false := beq_eq_false_iff_ne.mpr c12; have uy : (vE != 0) = true := bne_iff_ne.mpr c12; obtain ⟨⟨Q5, Q7, Q8⟩, A33, H⟩ := bnz H; (try dsimp only at H); simp only [Option.some.injEq, Prod.mk.injEq] at H; obtain ⟨rfl, rfl, rfl⟩ := H
     go_wp2_with (first | ((with_reducible refine ak (f := 40) rfl ?_); refine aD (some 23) rfl rfl Tryz.func40 (by kernel_rfl) rfl #[.string (a0.extract (a1 : Int).toNat a0.size)] rfl mz ?_; (with_reducible refine (eD.calls (a0.extract (a1 : Int).toNat a0.size) EU EV w _ ?side1 A9.out).mono ?_); (case side1 => exact hz HB.out); rintro e w34 ⟨g335, rfl, hi, hb, hb2⟩; refine ⟨_, rfl, ?_⟩; replace HB := am (hb); have dW := am (hi); (try clear hb); (try clear hb2); (try clear hk); (try clear hi)) | ((with_reducible refine ak (f := 41) rfl ?_); refine aD (some 25) rfl rfl Tryz.func41 (by kernel_rfl) rfl #[.pointer (some ⟨g335, 0, none⟩)] rfl mz ?_; (with_reducible refine (aJ.calls g335 EU EV pE EW EX w _ ?side1 ?side2 A10.out).mono ?_); (case side1 => exact ag.lz dW.out); (case side2 => exact hz1 HB.out (ag.ge dW.out)); rintro e w35 ⟨rfl, hi, hb, hk⟩; refine ⟨_, rfl, ?_⟩; replace HB := am (hb); replace dW := am (hi); (try clear hb); (try clear hb2); (try clear hk); (try clear hi)) | ((with_reducible refine ak (f := 42) rfl ?_); refine aD (some 28) rfl rfl Tryz.func42 (by kernel_rfl) rfl #[.pointer (some ⟨g335, 0, none⟩)] rfl mz ?_; (with_reducible refine (bh.calls g335 EW EX vE tM tN w _ ?side1 ?side2 A11.out).mono ?_); (case side1 => exact ag.lz dW.out); (case side2 => exact hz1 HB.out (ag.ge dW.out)); rintro e w36 ⟨rfl, hi, hb, hk⟩; refine ⟨_, rfl, ?_⟩; replace HB := am (hb); replace dW := am (hi); (try clear hb); (try clear hb2); (try clear hk); (try clear hi)) | ((with_reducible refine ak (f := 42) rfl ?_); refine aD (some 31) rfl rfl Tryz.func42 (by kernel_rfl) rfl #[.pointer (some ⟨g335, 0, none⟩)] rfl mz ?_; (with_reducible refine (bh.calls g335 tM tN Q5 Q7 Q8 w _ ?side1 ?side2 A33.out).mono ?_); (case side1 => exact ag.lz dW.out); (case side2 => exact hz1 HB.out (ag.ge dW.out)); rintro e w37 ⟨rfl, hi, hb, hk⟩; refine ⟨_, rfl, ?_⟩; replace HB := am (hb); replace dW := am (hi); (try clear hb); (try clear hb2); (try clear hk); (try clear hi)))
     go_ret3
     exact ⟨ez, hz1 HB.out (ag.ge dW.out)⟩
def wM (n : Int) : List Int → Int → Option Int
  | [], met => some met
  | k :: ks, met => if k > met then none else if k ≥ n then none else wM n ks (mx met (k + 1))
def uniq : List ByteArray → List ByteArray → List ByteArray
  | [], w => w
  | s :: l, w => match fQ s w 0 with
    | some _ => uniq l w
    | none => uniq l (w ++ [s])
structure uA (D : DataW Unit) (words : List ByteArray) : Prop where
  isMap : Maps.IsMap D
  size_ : Maps.size D = words.length
  has_ : ∀ s, Maps.has D (gM s) = (fQ s words 0).isSome
theorem F9 : uA (.map []) [] := ⟨Maps.isMap_empty, rfl, fun s => rfl⟩
theorem Ga {D : DataW Unit} {words : List ByteArray} (h : uA D words) (hT : Maps.Tidy D) (s : ByteArray) (hs : fQ s words 0 = none) (d : DataW Unit) : uA (D.put (gM s) d) (words ++ [s]) := by
 have hk : WideAt.IsKeyLit (gM s) := by unfold gM WideAt.IsKeyLit; trivial
 refine ⟨h.isMap.put _ _, ?_, fun t => ?_⟩
 · rw [Maps.size_put hT, h.has_, hs, h.size_]; simp
 ·
  rw [nQ]
  by_cases hst : s.data.toList = t.data.toList
  ·
   have e : gM t = gM s := by unfold gM; rw [hst]
   rw [e, Maps.has_put_same h.isMap hk]
   cases hw : fQ t words 0 with
   | some j => rfl
   | none => simp only [if_pos hst]; rfl
  ·
   have e : gM t ≠ gM s := by unfold gM; intro h; injection h with h; exact hst h.symm
   rw [Maps.has_put_other e, h.has_]
   cases hw : fQ t words 0 with
   | some j => rfl
   | none => simp only [if_neg hst]
theorem BC {s t : ByteArray} (h : s.data.toList = t.data.toList) : ∀ (l : List ByteArray) (i : Nat), fQ s l i = fQ t l i := by
 intro l
 induction l with
 | nil => intro i; rfl
 | cons x xs ih => intro i; unfold fQ; rw [h, ih]
theorem Gb {D : DataW Unit} {words : List ByteArray} (h : uA D words) (hT : Maps.Tidy D) (s : ByteArray) {k : Nat} (hs : fQ s words 0 = some k) (d : DataW Unit) : uA (D.put (gM s) d) words := by
 have hk : WideAt.IsKeyLit (gM s) := by unfold gM WideAt.IsKeyLit; trivial
 refine ⟨h.isMap.put _ _, ?_, fun t => ?_⟩
 · rw [Maps.size_put hT, h.has_, hs, h.size_]; simp
 ·
  by_cases hst : s.data.toList = t.data.toList
  ·
   have e : gM t = gM s := by unfold gM; rw [hst]
   rw [e, Maps.has_put_same h.isMap hk, BC hst.symm, hs]; rfl
  ·
   have e : gM t ≠ gM s := by unfold gM; intro h; injection h with h; exact hst h.symm
   rw [Maps.has_put_other e, h.has_]
def nK.f (l0 : List ByteArray) (l1 : List Int) : Option Bool := if l0.length ≤ 1000000000000 ∧ (∀ s ∈ l0, s.size ≤ 140737488355328) ∧ l1.length ≤ 1000000000000 ∧ (∀ x ∈ l1, 0 ≤ x) then (match wM (l0.length : Int) l1 0 with
  | none => some false
  | some met => if met = (l0.length : Int) then some (decide ((uniq l0 []).length = l0.length)) else some false) else none
set_option maxHeartbeats 8000000 in
set_option maxRecDepth 100000 in
theorem nK.calls (A0 : Option Addr) (c0 : Nat) (l0 : List ByteArray) (A1 : Option Addr) (c1 : Nat) (l1 : List Int) (r : Bool) (w : World) (hr0 : Kd.C Kd.string w A0 l0.length l0) (hc0 : l0.length ≤ c0) (hr1 : Kd.C (Kd.int .u64) w A1 l1.length l1) (hc1 : l1.length ≤ c1) (h : nK.f l0 l1 = some r) :
    Calls Tryz.prog 123 #[.slice A0 l0.length c0, .slice A1 l1.length c1] w fun e w' => e = .returned (.bool r) ∧ Below w.heap.size w w' := by
  have HR0 := Aside0.mk hr0
  have HC0 := Aside0.mk hc0
  have HR1 := Aside0.mk hr1
  have HC1 := Aside0.mk hc1
  unfold nK.f at h
  by_cases hlen : l0.length ≤ 1000000000000 ∧ (∀ s ∈ l0, s.size ≤ 140737488355328) ∧ l1.length ≤ 1000000000000 ∧ (∀ x ∈ l1, 0 ≤ x)
  case neg => rw [if_neg hlen] at h; exact absurd h (by simp)
  rw [if_pos hlen] at h
  obtain ⟨U, hU⟩ : ∃ U, U = uniq l0 [] := ⟨_, rfl⟩
  rw [← hU] at h
  have HU := Aside0.mk hU.symm
  clear hU
  have H' := Aside0.mk h
  have LM := Aside0.mk hlen
  clear hr0 hc0 hr1 hc1 h hlen
  have hmm : ∀ w : World, (Instr.makeMap 187 none).run Tryz.prog w = .ok (.map (some w.heap.size)) (w.alloc (.map #[] 0)) := fun _ => rfl
  have hwr0 : IntKind.u64.wrap (l0.length : Int) = (l0.length : Int) := by have := LM.out.1; simp [IntKind.wrap, IntKind.bits, IntKind.signed]; omega
  have HB := Aside0.mk (Below.refl w.heap.size w)
  go_enter Tryz.func123, Tryz.ntmps123
  go_wp2
  go_loopg [5, 13] (l1.length + 1) (fun kq v5 v13 w' => ∃ (i met : Int), v5 = .int .u64 met ∧ v13 = .int .i64 i ∧ Aside0 (0 ≤ i ∧ i ≤ l1.length ∧ (kq : Int) + i = l1.length + 1 ∧ 0 ≤ met ∧ met ≤ l0.length) ∧ Aside0 ((match wM (l0.length : Int) (l1.drop i.toNat) met with
    | none => some false
    | some met => if met = (l0.length : Int) then some (decide (U.length = l0.length)) else some false) = some r) ∧ Aside0 (Below w.heap.size w w'))
  case atStart => exact ⟨0, 0, by simp, by simp, ⟨by simp⟩, H', HB⟩
  case round =>
    clear H' HB
    obtain ⟨i, met, rfl, rfl, HK, HG, HB⟩ := hrel
    cases gk with
    | zero => have := HK.out; exact absurd this (by omega)
    | succ k1 =>
      by_cases hi : i < (l1.length : Int)
      · have hib : decide (i < (l1.length : Int)) = true := decide_eq_true hi
        have hk9 := HK.out
        have hG := HG.out
        clear HG
        obtain ⟨x, hx1⟩ : ∃ x, x = rd l1 i := ⟨_, rfl⟩
        have hdrop : l1.drop i.toNat = x :: l1.drop (i.toNat + 1) := by
          rw [List.drop_eq_getElem_cons (show i.toNat < l1.length by omega), hx1]
          congr 1
          unfold rd
          simp [List.getD_eq_getElem?_getD, show i.toNat < l1.length by omega]
        have hx9 : 0 ≤ x := LM.out.2.2.2 x (List.mem_of_mem_drop (i := i.toNat) (by rw [hdrop]; exact List.mem_cons_self))
        rw [hdrop] at hG
        unfold wM at hG
        have p29 : 0 ≤ i := by omega
        obtain ⟨ad, e0, hx0⟩ := Kd.jE HR1.out i p29 hi
        subst e0
        have hx := (HB.out.cell (World.block_lt_of_cell? w _ hx0)).trans hx0
        rw [← hx1] at hx
        have HI := Aside0.mk hi
        have HX := Aside0.mk hx9
        have hi1 : (i + 1).toNat = i.toNat + 1 := by omega
        have hwi : wrap64 (i + 1) = i + 1 := by have := LM.out.2.2.1; unfold wrap64; omega
        replace p29 := eq_true p29
        replace hi := eq_true hi
        clear hdrop hx0 hx1 hx9 hk9
        by_cases c1 : x > met
        · rw [if_pos c1] at hG
          have c1b : decide (met < x) = true := decide_eq_true c1
          clear c1
          obtain rfl := Option.some.inj hG
          go_wp2
          go_ret
          exact ⟨rfl, HB.out⟩
        · rw [if_neg c1] at hG
          have c1b : decide (met < x) = false := decide_eq_false c1
          clear c1
          by_cases c2 : x ≥ (l0.length : Int)
          · rw [if_pos c2] at hG
            have c2b : decide ((l0.length : Int) ≤ x) = true := decide_eq_true c2
            clear c2
            obtain rfl := Option.some.inj hG
            go_wp2
            go_ret
            exact ⟨rfl, HB.out⟩
          · rw [if_neg c2] at hG
            have c2b : decide ((l0.length : Int) ≤ x) = false := decide_eq_false c2
            have H' := Aside0.mk hG
            have hwx : IntKind.u64.wrap (x + 1) = x + 1 := by have := HX.out; have := LM.out.1; simp [IntKind.wrap, IntKind.bits, IntKind.signed]; omega
            have hmx : (if met < x + 1 then x + 1 else met) = mx met (x + 1) := rfl
            have HM := Aside0.mk (show 0 ≤ mx met (x + 1) ∧ mx met (x + 1) ≤ l0.length by have := HK.out; have := HX.out; unfold mx; split <;> omega)
            clear c2 hG
            go_wp2
            go_roundg k1
            case measure => have := HK.out; omega
            case rel => exact ⟨i + 1, mx met (x + 1), (by first | rfl | (simp; done) | (simp [*]; done)), (by first | rfl | (simp; done) | (simp [*]; done)), ⟨by have := HK.out; have := HI.out; have := HM.out; omega⟩, ⟨by rw [hi1]; exact H'.out⟩, HB⟩
      · have hib : decide (i < (l1.length : Int)) = false := decide_eq_false hi
        have hk9 := HK.out
        have hG := HG.out
        rw [List.drop_eq_nil_of_le (by omega)] at hG
        unfold wM at hG
        have H' := Aside0.mk hG
        have HMET := Aside0.mk (show 0 ≤ met ∧ met ≤ l0.length by omega)
        clear hG HG hi hk9 HK
        go_wp2
        have HM := Aside0.mk (World.ownsMap_made (H := Unit) wr Tryz.prog 9 (plainElem Tryz.prog 4))
        have HGE := Aside0.mk (ai HB.out)
        have HB2 := Aside0.mk (aH HB.out (.map #[] 0))
        clear HB
        generalize hbm : wr.heap.size = bm at HM HGE ⊢
        clear hbm
        go_loopg [35] (l0.length + 1) (fun kq v35 w' => ∃ (i : Int) (n : Nat) (D : DataW Unit) (words : List ByteArray), v35 = .int .i64 i ∧ Aside0 (0 ≤ i ∧ i ≤ l0.length ∧ (kq : Int) + i = l0.length + 1 ∧ n ≤ i) ∧ Aside0 (uniq (l0.drop i.toNat) words = U) ∧ Aside0 (uA D words) ∧ Aside0 (w'.ownsMap Tryz.prog 9 (plainElem Tryz.prog 4) bm n D) ∧ Aside0 (Below w.heap.size w w'))
        case atStart => exact ⟨0, 0, .map [], [], by simp, ⟨by simp⟩, ⟨by simpa using HU.out⟩, ⟨F9⟩, HM, HB2⟩
        case round =>
          clear HM HB2
          obtain ⟨i, n, D, words, rfl, HK, HG, HD, HM, HB⟩ := hrel
          cases gk with
          | zero => have := HK.out; exact absurd this (by omega)
          | succ k1 =>
            by_cases hi : i < (l0.length : Int)
            · have hib : decide (i < (l0.length : Int)) = true := decide_eq_true hi
              have hk9 := HK.out
              have hG := HG.out
              clear HG
              obtain ⟨s, hs⟩ : ∃ s, s = fW ByteArray.empty l0 i := ⟨_, rfl⟩
              have hdrop : l0.drop i.toNat = s :: l0.drop (i.toNat + 1) := by
                rw [List.drop_eq_getElem_cons (show i.toNat < l0.length by omega), hs]
                congr 1
                unfold fW
                simp [List.getD_eq_getElem?_getD, show i.toNat < l0.length by omega]
              have hsz : s.size ≤ 140737488355328 := LM.out.2.1 s (List.mem_of_mem_drop (i := i.toNat) (by rw [hdrop]; exact List.mem_cons_self))
              rw [hdrop] at hG
              have p29 : 0 ≤ i := by omega
              obtain ⟨ad, e0, hx0⟩ := Kd.nZ HR0.out i p29 hi
              subst e0
              have hx := (HB.out.cell (World.block_lt_of_cell? w _ hx0)).trans hx0
              rw [← hs] at hx
              have HKEY := Aside0.mk (Go.WideMaps.keyOf_string_mk (P := Tryz.prog) (k := 9) Tryz.underlying9 (s := s) (by have h_ : (140737488355328 : Nat) ≤ maxLen := (by decide); omega))
              have HI := Aside0.mk hi
              have hi1 : (i + 1).toNat = i.toNat + 1 := by omega
              have hwi : wrap64 (i + 1) = i + 1 := by have := LM.out.1; unfold wrap64; omega
              replace p29 := eq_true p29
              replace hi := eq_true hi
              have HG := Aside0.mk hG
              clear hdrop hx0 hs hk9 hG
              go_wp2_with (at_mapUpdate; refine wpList_mapUpdate_own _ rfl _ _ _ 187 rfl 9 4 (Maps.string_keyed Tryz.underlying9) Tryz.underlying187 (plainElem Tryz.prog 4) bm n D rfl HM.out (by have := HK.out; have := LM.out.1; have : (1000000000000 : Nat) < maxLen := (by decide); omega) _ _ (.string s.data.toList) rfl rfl HKEY.out (.lit (.bool true)) [] (plainElem_bool Tryz.underlying4 true) ?_; intro w3 hown hgr; have HT := Aside0.mk (World.ownsMap.tidy HM.out (Maps.string_keyed Tryz.underlying9)); have n2_ := Aside0.mk (HB.out.grown hgr (ai HB.out) (fun k_ hk => by have h_ := Option.some.inj hk; have := HGE.out; omega)); clear HM HB; have HM := Aside0.mk hown; have HB := n2_; clear n2_ hown hgr)
              go_roundg k1
              case measure => have := HK.out; omega
              case rel =>
                have hk := HK.out
                have hi2 := HI.out
                have hG := HG.out
                unfold uniq at hG
                cases hw : fQ s words 0 with
                | some k =>
                  rw [hw] at hG
                  exact ⟨i + 1, n + 1, _, words, (by first | rfl | (simp; done) | (simp [*]; done)), ⟨by omega⟩, ⟨by rw [hi1]; exact hG⟩, ⟨Gb HD.out HT.out s hw _⟩, HM, HB⟩
                | none =>
                  rw [hw] at hG
                  exact ⟨i + 1, n + 1, _, words ++ [s], (by first | rfl | (simp; done) | (simp [*]; done)), ⟨by omega⟩, ⟨by rw [hi1]; exact hG⟩, ⟨Ga HD.out HT.out s hw _⟩, HM, HB⟩
            · have hib : decide (i < (l0.length : Int)) = false := decide_eq_false hi
              have hk9 := HK.out
              have hG := HG.out
              rw [List.drop_eq_nil_of_le (by omega)] at hG
              have hU : words = U := hG
              have hsize : Maps.size D = U.length := by rw [HD.out.size_, hU]
              clear hG HG hi hk9 hU HD
              by_cases c3 : met = (l0.length : Int)
              · have H3 : some (decide (U.length = l0.length)) = some r := by have := H'.out; simp only [if_pos c3] at this; exact this
                have c3b : (met == (l0.length : Int)) = true := beq_iff_eq.mpr c3
                have hres := Option.some.inj H3
                clear H' H3
                subst c3
                go_wp2_with ((try (refine iq (by rfl) ?_; dsimp only)); at_len; refine wpList_len_own _ rfl _ _ rfl 9 4 Tryz.underlying187 (plainElem Tryz.prog 4) bm n D rfl HM.out ?_)
                go_ret
                refine ⟨?_, HB.out⟩
                rw [← hres]
                congr 2
                by_cases h : U.length = l0.length
                · simp [h]
                · rw [decide_eq_false h]; simp; omega
              · have H3 : some false = some r := by have := H'.out; simp only [if_neg c3] at this; exact this
                have c3b : (met == (l0.length : Int)) = false := beq_eq_false_iff_ne.mpr c3
                obtain rfl := Option.some.inj H3
                clear H' H3 c3
                go_wp2
                go_ret
                exact ⟨rfl, HB.out⟩
theorem BD {P : Program} {ops : Array Oper} {o : Oper} {a : Act} {w : World} {K : Act → World → Prop} {Q : Exit → Act → World → Prop} {E : Prop} (hw : Region.wanted o (yielded ops a.tmps) = true)
    (h : if Region.wanted { o with guard := none } (yielded ops a.tmps) = true then Oper.wp P { o with guard := none } a w K Q else E) : if Region.wanted o (yielded ops a.tmps) = true then Oper.wp P o a w K Q else E := by
 rw [if_pos hw]; rw [if_pos (show Region.wanted { o with guard := none } (yielded ops a.tmps) = true by simp [Region.wanted])] at h; exact h
theorem K5 (aw : Addr) (n c0 : Nat) (x : Int) (hx : 0 ≤ x) (h1 : x < n) (hc : n ≤ c0) (W : World) : (Instr.slice 59 (.slice (some aw) n c0) (some (.int .u64 x)) (some (.int .u64 (x + 1))) none).run Tryz.prog W = .ok (.slice (some (aw.add x.toNat)) 1 (c0 - x.toNat)) W := by
 obtain ⟨i0, hi, _, hz1, _⟩ := info_parts rZ; have h := JX (P := Tryz.prog) 59 9 .u64 .u64 Tryz.underlying59 hi 1 hz1 (some aw) n c0 x (x + 1) hx (by omega) (by omega) hc W; rw [if_neg (by omega), show (x + 1).toNat - x.toNat = 1 by omega, Nat.mul_one] at h; exact h
def zZ (words : List ByteArray) : List Int → List ByteArray → Option (List ByteArray)
  | [], out => some out
  | k :: ks, out => if k ≥ (words.length : Int) then none else zZ words ks (out ++ [fW ByteArray.empty words k])
def om.f (l0 : List ByteArray) (l1 : List Int) : Option (List ByteArray × Bool) := if l0.length ≤ 1000000000000 ∧ l1.length ≤ 1000000000000 ∧ (∀ x ∈ l1, 0 ≤ x) then (match zZ l0 l1 [] with
  | none => some ([], false)
  | some out => some (out, true)) else none
set_option maxHeartbeats 8000000 in
set_option maxRecDepth 100000 in
theorem om.calls (A0 : Option Addr) (c0 : Nat) (l0 : List ByteArray) (A1 : Option Addr) (c1 : Nat) (l1 : List Int) (r1 : List ByteArray) (r2 : Bool) (w : World) (hr0 : Kd.C Kd.string w A0 l0.length l0) (hc0 : l0.length ≤ c0) (hr1 : Kd.C (Kd.int .u64) w A1 l1.length l1) (hc1 : l1.length ≤ c1) (h : om.f l0 l1 = some (r1, r2)) :
    Calls Tryz.prog 124 #[.slice A0 l0.length c0, .slice A1 l1.length c1] w fun e w' => ∃ v0_ : Value, e = .returned (.tuple #[v0_, .bool r2]) ∧ Kd.R Kd.string 9 w' w.heap.size (fun _ => True) v0_ r1 ∧ Below w.heap.size w w' := by
  unfold om.f at h
  by_cases hlen : l0.length ≤ 1000000000000 ∧ l1.length ≤ 1000000000000 ∧ (∀ x ∈ l1, 0 ≤ x)
  case neg => rw [if_neg hlen] at h; exact absurd h (by simp)
  rw [if_pos hlen] at h
  have HR0 := Aside0.mk hr0
  have HC0 := Aside0.mk hc0
  have HR1 := Aside0.mk hr1
  have H' := Aside0.mk h
  have LM := Aside0.mk hlen
  obtain ⟨N, hN⟩ : ∃ N, N = l1.length := ⟨_, rfl⟩
  obtain ⟨i0, hi, hz0, hz1, hz2⟩ := info_parts rZ
  have hmk : ∀ w, (Instr.makeSlice 59 (.int .i64 (l1.length : Int)) (.int .i64 (l1.length : Int))).run Tryz.prog w = .ok (.slice (some ⟨w.heap.size, 0, none⟩) N N) (w.alloc (.cells (List.replicate N (Value.string ⟨#[]⟩)).toArray 9)) := fun w => by
    have h := run_make (P := Tryz.prog) w 59 9 i0 _ Tryz.underlying59 hi hz0 .i64 .i64 (l1.length : Int) (l1.length : Int) (by omega) (Int.le_refl _) (by have := LM.out.2.1; rw [hz2]; omega) (by have := LM.out.2.1; omega)
    rw [h, hN, hz1, Int.toNat_natCast]
    congr 2
    congr 1
    apply Array.ext
    · simp [madeCells]
    · intro j h1 h2
      simp [madeCells, Value.cells, Nat.mod_one]
  have hszE : (Tryz.prog.info? 9).map (·.size) = some 1 := by rw [hi]; simp [hz1]
  have HN := Aside0.mk hN
  have HMK := Aside0.mk hmk
  have hwr0 : IntKind.u64.wrap (l0.length : Int) = (l0.length : Int) := by have := LM.out.1; simp [IntKind.wrap, IntKind.bits, IntKind.signed]; omega
  clear hr0 hc0 hr1 hc1 h hlen hmk hN hi hz0 hz1 hz2
  go_enter Tryz.func124, Tryz.ntmps124
  go_wp2_with ((with_reducible refine bG (N := 11) rfl ?_); (refine Build.rY rfl (D := 11) rfl (cs := (List.replicate N (Value.string ⟨#[]⟩)).toArray) (t := 9) N N ?hr ?_); (case hr => (have h_ := HMK.out w); first | (go_simp; done) | (go_simp; rfl) | (go_simp; rw [h_]; rfl)); intro g hg w3 hblk hb; have HBK0 := Aside0.mk hblk; have HB0 := Aside0.mk hb; subst hg; clear hblk hb)
  go_loopg [14] (l1.length + 1) (fun kq v14 w' => ∃ (i : Int) (out : List ByteArray), v14 = .int .i64 i ∧ Aside0 (0 ≤ i ∧ i ≤ l1.length ∧ (kq : Int) + i = l1.length + 1 ∧ out.length = i) ∧ Aside0 ((match zZ l0 (l1.drop i.toNat) out with
    | none => some ([], false)
    | some out => some (out, true)) = some (r1, r2)) ∧ Aside0 (w'.heap[w.heap.size]? = some (.cells (out.map Value.string ++ List.replicate (N - i.toNat) (Value.string ⟨#[]⟩)).toArray 9 (0, 0))) ∧ Aside0 (Below w.heap.size w w'))
  case atStart => exact ⟨0, [], by simp, ⟨by simp⟩, H', ⟨by simpa using HBK0.out⟩, HB0⟩
  case round =>
    clear H' HB0 HBK0
    obtain ⟨i, out, rfl, HK, HG, HBK, HB⟩ := hrel
    cases gk with
    | zero => have := HK.out; exact absurd this (by omega)
    | succ k1 =>
      by_cases hi : i < (l1.length : Int)
      · have hib : decide (i < (l1.length : Int)) = true := decide_eq_true hi
        have hk9 := HK.out
        have hG := HG.out
        clear HG
        obtain ⟨x, hx1⟩ : ∃ x, x = rd l1 i := ⟨_, rfl⟩
        have hdrop : l1.drop i.toNat = x :: l1.drop (i.toNat + 1) := by
          rw [List.drop_eq_getElem_cons (show i.toNat < l1.length by omega), hx1]
          congr 1
          unfold rd
          simp [List.getD_eq_getElem?_getD, show i.toNat < l1.length by omega]
        have hx9 : 0 ≤ x := LM.out.2.2 x (List.mem_of_mem_drop (i := i.toNat) (by rw [hdrop]; exact List.mem_cons_self))
        rw [hdrop] at hG
        unfold zZ at hG
        have p29 : 0 ≤ i := by omega
        obtain ⟨ad, e0, hx0⟩ := Kd.jE HR1.out i p29 hi
        subst e0
        have hx := (HB.out.cell (World.block_lt_of_cell? w _ hx0)).trans hx0
        rw [← hx1] at hx
        have HI := Aside0.mk hi
        have HX := Aside0.mk hx9
        have hi1 : (i + 1).toNat = i.toNat + 1 := by omega
        have hwi : wrap64 (i + 1) = i + 1 := by have := LM.out.2.1; unfold wrap64; omega
        have q6 : i ≤ (N : Int) := by have := HN.out; omega
        have hne6 := eq_false (show ¬ N = i.toNat by have := HN.out; omega)
        replace q6 := eq_true q6
        replace p29 := eq_true p29
        replace hi := eq_true hi
        clear hdrop hx0 hx1 hx9 hk9
        by_cases c2 : x ≥ (l0.length : Int)
        · rw [if_pos c2] at hG
          have c2b : decide ((l0.length : Int) ≤ x) = true := decide_eq_true c2
          clear c2
          simp only [Option.some.injEq, Prod.mk.injEq] at hG
          obtain ⟨rfl, rfl⟩ := hG
          try go_wp2
          refine iZ (n := 17) (S := fun _ => True) (ds := []) (dn 17 0) (by kernel_rfl) rfl (by kernel_rfl) trivial (fun hHeld => ?_)
          refine fq (i := 0) (N := some 19) (v := .int .u64 x) (a' := ?_) (dn 17 1) rfl rfl (by kernel_rfl) (fun _ _ _ h => h) (Or.inl ⟨by kernel_rfl, fun w' => by go_simp⟩) ?_ ?_
          rotate_left
          · simp only [Act.put, List.setIfInBounds_toArray, List.set_cons_zero, List.set_cons_succ]
            rfl
          refine fq (i := 1) (N := some 20) (v := .slice A0 l0.length c0) (a' := ?_) (dn 17 3) rfl rfl (by kernel_rfl) (fun _ _ _ h => h) (Or.inl ⟨by kernel_rfl, fun w' => by go_simp⟩) ?_ ?_
          rotate_left
          · simp only [Act.put, List.setIfInBounds_toArray, List.set_cons_zero, List.set_cons_succ]
            rfl
          refine fq (i := 2) (N := some 21) (v := .int .i64 (l0.length : Int)) (a' := ?_) (dn 17 7) rfl rfl (by kernel_rfl) (fun _ _ _ h => h) (Or.inl ⟨by kernel_rfl, fun w' => by go_simp⟩) ?_ ?_
          rotate_left
          · simp only [Act.put, List.setIfInBounds_toArray, List.set_cons_zero, List.set_cons_succ]
            rfl
          refine fq (i := 3) (N := some 22) (v := .int .u64 (l0.length : Int)) (a' := ?_) (dn 17 15) rfl rfl (by kernel_rfl) (fun _ _ _ h => h) (Or.inl ⟨by kernel_rfl, fun w' => by go_simp⟩) ?_ ?_
          rotate_left
          · simp only [Act.put, List.setIfInBounds_toArray, List.set_cons_zero, List.set_cons_succ]
            rfl
          refine fq (i := 4) (N := some 23) (v := .bool true) (a' := ?_) (dn 17 31) rfl rfl (by kernel_rfl) (fun _ _ _ h => h) (Or.inl ⟨by kernel_rfl, fun w' => by go_simp⟩) ?_ ?_
          rotate_left
          · simp only [Act.put, List.setIfInBounds_toArray, List.set_cons_zero, List.set_cons_succ]
            rfl
          refine fq (i := 5) (N := some 24) (v := .bool true) (a' := ?_) (dn 17 63) rfl rfl (by kernel_rfl) (fun _ _ _ h => h) (Or.inl ⟨by kernel_rfl, fun w' => by go_simp⟩) ?_ ?_
          rotate_left
          · simp only [Act.put, List.setIfInBounds_toArray, List.set_cons_zero, List.set_cons_succ]
            rfl
          refine fq (i := 6) (N := some 25) (v := undef) (a' := ?_) (dn 17 127) rfl rfl (by kernel_rfl) (fun _ _ _ h => h) (Or.inr ⟨by kernel_rfl, rfl⟩) ?_ ?_
          rotate_left
          · simp only [Act.put, List.setIfInBounds_toArray, List.set_cons_zero, List.set_cons_succ]
            rfl
          refine fq (i := 7) (N := some 26) (v := undef) (a' := ?_) (dn 17 255) rfl rfl (by kernel_rfl) (fun _ _ _ h => h) (Or.inr ⟨by kernel_rfl, rfl⟩) ?_ ?_
          rotate_left
          · simp only [Act.put, List.setIfInBounds_toArray, List.set_cons_zero, List.set_cons_succ]
            rfl
          refine fq (i := 8) (N := some 27) (v := undef) (a' := ?_) (dn 17 511) rfl rfl (by kernel_rfl) (fun _ _ _ h => h) (Or.inr ⟨by kernel_rfl, rfl⟩) ?_ ?_
          rotate_left
          · simp only [Act.put, List.setIfInBounds_toArray, List.set_cons_zero, List.set_cons_succ]
            rfl
          refine fq (i := 9) (N := some 28) (v := undef) (a' := ?_) (dn 17 1023) rfl rfl (by kernel_rfl) (fun _ _ _ h => h) (Or.inr ⟨by kernel_rfl, rfl⟩) ?_ ?_
          rotate_left
          · simp only [Act.put, List.setIfInBounds_toArray, List.set_cons_zero, List.set_cons_succ]
            rfl
          refine fq (i := 10) (N := some 29) (v := undef) (a' := ?_) (dn 17 2047) rfl rfl (by kernel_rfl) (fun _ _ _ h => h) (Or.inr ⟨by kernel_rfl, rfl⟩) ?_ ?_
          rotate_left
          · simp only [Act.put, List.setIfInBounds_toArray, List.set_cons_zero, List.set_cons_succ]
            rfl
          refine fq (i := 11) (N := some 30) (v := undef) (a' := ?_) (dn 17 4095) rfl rfl (by kernel_rfl) (fun _ _ _ h => h) (Or.inr ⟨by kernel_rfl, rfl⟩) ?_ ?_
          rotate_left
          · simp only [Act.put, List.setIfInBounds_toArray, List.set_cons_zero, List.set_cons_succ]
            rfl
          refine fq (i := 12) (N := some 31) (v := undef) (a' := ?_) (dn 17 8191) rfl rfl (by kernel_rfl) (fun _ _ _ h => h) (Or.inr ⟨by kernel_rfl, rfl⟩) ?_ ?_
          rotate_left
          · simp only [Act.put, List.setIfInBounds_toArray, List.set_cons_zero, List.set_cons_succ]
            rfl
          refine fq (i := 13) (N := some 32) (v := undef) (a' := ?_) (dn 17 16383) rfl rfl (by kernel_rfl) (fun _ _ _ h => h) (Or.inr ⟨by kernel_rfl, rfl⟩) ?_ ?_
          rotate_left
          · simp only [Act.put, List.setIfInBounds_toArray, List.set_cons_zero, List.set_cons_succ]
            rfl
          refine fq (i := 14) (N := some 33) (v := undef) (a' := ?_) (dn 17 32767) rfl rfl (by kernel_rfl) (fun _ _ _ h => h) (Or.inr ⟨by kernel_rfl, rfl⟩) ?_ ?_
          rotate_left
          · simp only [Act.put, List.setIfInBounds_toArray, List.set_cons_zero, List.set_cons_succ]
            rfl
          refine fq (i := 15) (N := some 34) (v := undef) (a' := ?_) (dn 17 65535) rfl rfl (by kernel_rfl) (fun _ _ _ h => h) (Or.inr ⟨by kernel_rfl, rfl⟩) ?_ ?_
          rotate_left
          · simp only [Act.put, List.setIfInBounds_toArray, List.set_cons_zero, List.set_cons_succ]
            rfl
          refine fq (i := 16) (N := some 35) (v := .bool true) (a' := ?_) (dn 17 131071) rfl rfl (by kernel_rfl) (fun _ _ _ h => h) (Or.inl ⟨by kernel_rfl, fun w' => by go_simp⟩) ?_ ?_
          rotate_left
          · simp only [Act.put, List.setIfInBounds_toArray, List.set_cons_zero, List.set_cons_succ]
            rfl
          refine jF (by kernel_rfl) ?_
          try go_wp2
          go_ret2
          exact ⟨_, rfl, Kd.iE _ _ _ _ _, bw HB.out⟩
        · rw [if_neg c2] at hG
          have c2b : decide ((l0.length : Int) ≤ x) = false := decide_eq_false c2
          have H' := Aside0.mk hG
          have hwx : IntKind.u64.wrap (x + 1) = x + 1 := by have := HX.out; have := LM.out.1; simp [IntKind.wrap, IntKind.bits, IntKind.signed]; omega
          obtain ⟨aw, ew, hw0⟩ := Kd.nZ HR0.out x HX.out (by omega)
          subst ew
          have px := eq_true HX.out
          have px1 := eq_true (show x ≤ x + 1 by omega)
          have px2 := eq_true (show x + 1 ≤ (c0 : Int) by have := HC0.out; omega)
          have px3 := eq_true (show x ≤ (c0 : Int) by have := HC0.out; omega)
          have pne := eq_false (show ¬ c0 = x.toNat by have := HC0.out; have := HX.out; omega)
          have hcut : ∀ W : World, (Instr.slice 59 (.slice (some aw) l0.length c0) (some (.int .u64 x)) (some (.int .u64 (x + 1))) none).run Tryz.prog W = .ok (.slice (some (aw.add x.toNat)) 1 (c0 - x.toNat)) W := K5 aw l0.length c0 x HX.out (by omega) HC0.out
          obtain ⟨A13, hA13⟩ : ∃ A, A = aw.add x.toNat := ⟨_, rfl⟩
          obtain ⟨c13, MS⟩ : ∃ c, c = c0 - x.toNat := ⟨_, rfl⟩
          rw [← hA13, ← MS] at hcut
          have HA13 := Aside0.mk hA13
          clear c2 hG hA13 MS
          try go_wp2
          refine iZ (n := 17) (S := fun _ => True) (ds := []) (dn 17 0) (by kernel_rfl) rfl (by kernel_rfl) trivial (fun hHeld => ?_)
          refine fq (i := 0) (N := some 19) (v := .int .u64 x) (a' := ?_) (dn 17 1) rfl rfl (by kernel_rfl) (fun _ _ _ h => h) (Or.inl ⟨by kernel_rfl, fun w' => by go_simp⟩) ?_ ?_
          rotate_left
          · simp only [Act.put, List.setIfInBounds_toArray, List.set_cons_zero, List.set_cons_succ]
            rfl
          refine fq (i := 1) (N := some 20) (v := .slice (some aw) l0.length c0) (a' := ?_) (dn 17 3) rfl rfl (by kernel_rfl) (fun _ _ _ h => h) (Or.inl ⟨by kernel_rfl, fun w' => by go_simp⟩) ?_ ?_
          rotate_left
          · simp only [Act.put, List.setIfInBounds_toArray, List.set_cons_zero, List.set_cons_succ]
            rfl
          refine fq (i := 2) (N := some 21) (v := .int .i64 (l0.length : Int)) (a' := ?_) (dn 17 7) rfl rfl (by kernel_rfl) (fun _ _ _ h => h) (Or.inl ⟨by kernel_rfl, fun w' => by go_simp⟩) ?_ ?_
          rotate_left
          · simp only [Act.put, List.setIfInBounds_toArray, List.set_cons_zero, List.set_cons_succ]
            rfl
          refine fq (i := 3) (N := some 22) (v := .int .u64 (l0.length : Int)) (a' := ?_) (dn 17 15) rfl rfl (by kernel_rfl) (fun _ _ _ h => h) (Or.inl ⟨by kernel_rfl, fun w' => by go_simp⟩) ?_ ?_
          rotate_left
          · simp only [Act.put, List.setIfInBounds_toArray, List.set_cons_zero, List.set_cons_succ]
            rfl
          refine fq (i := 4) (N := some 23) (v := .bool false) (a' := ?_) (dn 17 31) rfl rfl (by kernel_rfl) (fun _ _ _ h => h) (Or.inl ⟨by kernel_rfl, fun w' => by go_simp⟩) ?_ ?_
          rotate_left
          · simp only [Act.put, List.setIfInBounds_toArray, List.set_cons_zero, List.set_cons_succ]
            rfl
          refine fq (i := 5) (N := some 24) (v := .bool false) (a' := ?_) (dn 17 63) rfl rfl (by kernel_rfl) (fun _ _ _ h => h) (Or.inl ⟨by kernel_rfl, fun w' => by go_simp⟩) ?_ ?_
          rotate_left
          · simp only [Act.put, List.setIfInBounds_toArray, List.set_cons_zero, List.set_cons_succ]
            rfl
          refine fq (i := 6) (N := some 25) (v := .slice (some ⟨w.heap.size, 0, none⟩) N N) (a' := ?_) (dn 17 127) rfl rfl (by kernel_rfl) (fun _ _ _ h => h) (Or.inl ⟨by kernel_rfl, fun w' => by go_simp⟩) ?_ ?_
          rotate_left
          · simp only [Act.put, List.setIfInBounds_toArray, List.set_cons_zero, List.set_cons_succ]
            rfl
          refine fq (i := 7) (N := some 26) (v := .int .i64 i) (a' := ?_) (dn 17 255) rfl rfl (by kernel_rfl) (fun _ _ _ h => h) (Or.inl ⟨by kernel_rfl, fun w' => by go_simp⟩) ?_ ?_
          rotate_left
          · simp only [Act.put, List.setIfInBounds_toArray, List.set_cons_zero, List.set_cons_succ]
            rfl
          refine fq (i := 8) (N := some 27) (v := .slice (some ⟨w.heap.size, i.toNat, none⟩) (N - i.toNat) (N - i.toNat)) (a' := ?_) (dn 17 511) rfl rfl (by kernel_rfl) (fun _ _ _ h => h) (Or.inl ⟨by kernel_rfl, fun w' => by go_simp⟩) ?_ ?_
          rotate_left
          · simp only [Act.put, List.setIfInBounds_toArray, List.set_cons_zero, List.set_cons_succ]
            rfl
          refine fq (i := 9) (N := some 28) (v := .slice (some aw) l0.length c0) (a' := ?_) (dn 17 1023) rfl rfl (by kernel_rfl) (fun _ _ _ h => h) (Or.inl ⟨by kernel_rfl, fun w' => by go_simp⟩) ?_ ?_
          rotate_left
          · simp only [Act.put, List.setIfInBounds_toArray, List.set_cons_zero, List.set_cons_succ]
            rfl
          refine fq (i := 10) (N := some 29) (v := .int .u64 x) (a' := ?_) (dn 17 2047) rfl rfl (by kernel_rfl) (fun _ _ _ h => h) (Or.inl ⟨by kernel_rfl, fun w' => by go_simp⟩) ?_ ?_
          rotate_left
          · simp only [Act.put, List.setIfInBounds_toArray, List.set_cons_zero, List.set_cons_succ]
            rfl
          refine fq (i := 11) (N := some 30) (v := .int .u64 x) (a' := ?_) (dn 17 4095) rfl rfl (by kernel_rfl) (fun _ _ _ h => h) (Or.inl ⟨by kernel_rfl, fun w' => by go_simp⟩) ?_ ?_
          rotate_left
          · simp only [Act.put, List.setIfInBounds_toArray, List.set_cons_zero, List.set_cons_succ]
            rfl
          refine fq (i := 12) (N := some 31) (v := .int .u64 (x + 1)) (a' := ?_) (dn 17 8191) rfl rfl (by kernel_rfl) (fun _ _ _ h => h) (Or.inl ⟨by kernel_rfl, fun w' => by go_simp⟩) ?_ ?_
          rotate_left
          · simp only [Act.put, List.setIfInBounds_toArray, List.set_cons_zero, List.set_cons_succ]
            rfl
          refine fq (i := 13) (N := some 32) (v := .slice (some A13) 1 c13) (a' := ?_) (dn 17 16383) rfl rfl (by kernel_rfl) (fun _ _ _ h => h) (Or.inl ⟨by kernel_rfl, fun w' => by go_simp⟩) ?_ ?_
          rotate_left
          · simp only [Act.put, List.setIfInBounds_toArray, List.set_cons_zero, List.set_cons_succ]
            rfl
          refine iB (i := 14) (N := some 33) (dn 17 32767) rfl rfl (by kernel_rfl) (by decide) (fun K hK => ?_)
          refine BD (by kernel_rfl) ?_
          refine step_copy_splice rfl (.tmp 27) (.tmp 32) 59 59 rfl 9 Tryz.underlying59 hszE (some ⟨w.heap.size, i.toNat, none⟩) (some A13) (N - i.toNat) (N - i.toNat) 1 c13 rfl rfl w.heap.size i.toNat (out.map Value.string ++ List.replicate (N - i.toNat) (Value.string ⟨#[]⟩)) 9 (cQ HBK.out) [Value.string (fW ByteArray.empty l0 x)] ?hl1 (fun _ => ⟨rfl, _, rfl, ?hsrc⟩) ?hfit (fun v hv => by rw [List.mem_singleton.mp hv]; rfl) w.heap.size w (bw HB.out) (Nat.le_refl _) ?_
          case hl1 => have := HN.out; have := HI.out; have := HK.out; show 1 = Nat.min 1 (N - i.toNat); rw [show ∀ a b, Nat.min a b = min a b from fun _ _ => rfl]; omega
          case hsrc =>
            intro j v hv
            have hj : j = 0 := by have := (List.getElem?_eq_some_iff.mp hv).1; simpa using this
            subst hj
            obtain rfl : Value.string (fW ByteArray.empty l0 x) = v := by simpa using hv
            rw [show A13.add 0 = A13 by simp [Addr.add], HA13.out]
            exact ((bw HB.out).cell (World.block_lt_of_cell? w _ hw0)).trans hw0
          case hfit => have := HN.out; have := HI.out; have := HK.out; simp only [List.length_append, List.length_map, List.length_replicate, List.length_cons, List.length_nil]; omega
          intro w4 hg4 hb4
          refine hK.out _ _ trivial (fun hHeld => ?_)
          clear hK K
          refine dH (a' := ?_) ?_ ?_
          rotate_left
          · show Act.put _ (some 33) _ = _
            simp only [Act.put, List.setIfInBounds_toArray, List.set_cons_zero, List.set_cons_succ]
            rfl
          refine fq (i := 15) (N := some 34) (v := .bool false) (a' := ?_) (dn 17 65535) rfl rfl (by kernel_rfl) (fun _ _ _ h => h) (Or.inl ⟨by kernel_rfl, fun w' => by go_simp⟩) ?_ ?_
          rotate_left
          · simp only [Act.put, List.setIfInBounds_toArray, List.set_cons_zero, List.set_cons_succ]
            rfl
          refine fq (i := 16) (N := some 35) (v := .bool false) (a' := ?_) (dn 17 131071) rfl rfl (by kernel_rfl) (fun _ _ _ h => h) (Or.inl ⟨by kernel_rfl, fun w' => by go_simp⟩) ?_ ?_
          rotate_left
          · simp only [Act.put, List.setIfInBounds_toArray, List.set_cons_zero, List.set_cons_succ]
            rfl
          refine jF (by kernel_rfl) ?_
          have n0_ := Aside0.mk hg4
          have n1_ := Aside0.mk hb4
          clear HBK HB hg4 hb4
          have HBK := n0_
          have HB := n1_
          clear n0_ n1_
          try go_wp2
          go_roundg k1
          case measure => have := HK.out; omega
          case rel =>
            refine ⟨i + 1, out ++ [fW ByteArray.empty l0 x], (by first | rfl | (simp; done) | (simp [*]; done)), ⟨by have := HK.out; have := HI.out; rw [List.length_append]; simp only [List.length_cons, List.length_nil]; omega⟩, ⟨by rw [hi1]; exact H'.out⟩, ⟨Eq.trans HBK.out ?_⟩, HB⟩
            have hk := HK.out
            have hii := HI.out
            have hnn := HN.out
            congr 2
            unfold splice
            have e1 : (out.map Value.string).length = i.toNat := by rw [List.length_map]; omega
            rw [← e1, List.take_left, hi1, List.map_append, ← List.drop_drop, List.drop_left, e1]
            simp only [List.length_cons, List.length_nil, List.map_cons, List.map_nil, List.drop_replicate, List.append_assoc]
            rw [show N - i.toNat - (0 + 1) = N - (i.toNat + 1) by omega]
      · have hib : decide (i < (l1.length : Int)) = false := decide_eq_false hi
        have hk9 := HK.out
        have hG := HG.out
        rw [List.drop_eq_nil_of_le (by omega)] at hG
        have hG2 : some (out, true) = some (r1, r2) := hG
        simp only [Option.some.injEq, Prod.mk.injEq] at hG2
        obtain ⟨rfl, rfl⟩ := hG2
        have hn : N - i.toNat = 0 := by have := HN.out; omega
        have hNo : N = out.length := by have := HN.out; omega
        clear hG HG hi hk9
        go_wp2
        go_ret2
        refine ⟨_, rfl, Kd.rU (enc := Value.string) (h1 := fun _ => rfl) ?_ (fun _ _ => trivial), HB.out⟩
        have hb9 := HBK.out
        rw [hn] at hb9
        simp only [List.replicate_zero, List.append_nil] at hb9
        have hb := LM.out.2.1
        have hNN := HN.out
        refine ⟨by simp [encs], .inr ⟨w.heap.size, N, _, by simp [← hNo], Nat.le_refl _, hb9, by simp [← hNo], by unfold maxLen; omega, by simp [hNo], by simp [encs, hNo, List.take_of_length_le]⟩⟩
end Go.Proofs.YtfgnjndfnijjoaaGreat.Print
end
section
namespace Go.Proofs.YtfgnjndfnijjoaaGreat.Print
open Go.RowKit Go.Proofs.YtfgnjndfnijjoaaGreatW.PrintWords Go.Proofs.YtfgnjndfnijjoaaGreatW.PrintLast Go.Proofs.YtfgnjndfnijjoaaGreatW.PrintMore
attribute [local go_sem] dJ dK eF eG cZ dc dL dM
attribute [local go_sem] bH
set_option linter.unusedVariables false
set_option linter.unusedSimpArgs false
def dS.l0 : Nat → ByteArray → Int → Int → List ByteArray → Int → Int → Int → Option (List ByteArray × Int)
 | 0, _, _, _, _, _, _, _ => none
 | k + 1, x0, x1, x2, x11, x12, x46, x47 => if x47 < x46 then ((cr.f k x0 x12 x2).bind fun z7 => (if z7.2.2 = 0 then (if x11.length < 8796093022208 then (dS.l0 k x0 x1 x2 (x11 ++ [z7.1]) z7.2.1 x46 (IntKind.u64.wrap (x47 + 1))) else (none)) else (some (([] : List ByteArray), z7.2.2)))) else (if 0 ≤ x12 then (if x12 ≤ (x0.size : Int) then ((cJ.f k (x0.extract (x12 : Int).toNat x0.size) x1).bind fun z8 => (if z8.2 = 0 then ((nK.f x11 z8.1).bind fun Io => (if Io = true then ((om.f x11 z8.1).bind fun Pn => (some (Pn.1, 0))) else (some (([] : List ByteArray), 5)))) else (some (([] : List ByteArray), z8.2)))) else (none)) else (none))
def dS.f (k : Nat) (a0 : ByteArray) (a1 : Int) (a2 : Int) : Option (List ByteArray × Int) := if a1 < 0 then (some (([] : List ByteArray), 1)) else (if a1 > 4096 then (some (([] : List ByteArray), 10)) else ((eD.f a0).bind fun JA => ((aJ.f JA.1 JA.2).bind fun Aa => ((bh.f Aa.2.1 Aa.2.2).bind fun Ab => (if Ab.1 = 0 then (if Aa.1 > (IntKind.u64.wrap (a1)) then (some (([] : List ByteArray), 10)) else ((aV.f Ab.2.1 Ab.2.2).bind fun Po => (dS.l0 k a0 a1 a2 ([] : List ByteArray) (wrap64 ((a0.size : Int) - Po.1)) Aa.1 0))) else (some (([] : List ByteArray), Ab.1)))))))
theorem dS.cF : ∀ k, (∀ y0 y1 y2 y3 y4 y5 y6, LeO (dS.l0 k y0 y1 y2 y3 y4 y5 y6) (dS.l0 (k + 1) y0 y1 y2 y3 y4 y5 y6))
 | 0 => fun _ _ _ _ _ _ _ r h => by simp [dS.l0] at h
 | k + 1 => by
  have ih0 := dS.cF k
  ·
   intro y0 y1 y2 y3 y4 y5 y6; unfold dS.l0
   repeat' first
   | (with_reducible exact ih0 _ _ _ _ _ _ _)
   | (with_reducible exact cJ.mono _ _ _)
   | (with_reducible exact cr.mono _ _ _ _)
   | (with_reducible exact LeO.refl _)
   | (with_reducible exact LeO.none _)
   | (with_reducible refine LeO.ite ?_ ?_)
   | (with_reducible refine LeO.bind ?_ (fun _ => ?_))
theorem dS.mono : ∀ a0 a1 a2 k, LeO (dS.f k a0 a1 a2) (dS.f (k + 1) a0 a1 a2) := by
 intro a0 a1 a2 k; have ih0 := dS.cF k; unfold dS.f
 repeat' first
  | (with_reducible exact ih0 _ _ _ _ _ _ _)
  | (with_reducible exact cJ.mono _ _ _)
  | (with_reducible exact cr.mono _ _ _ _)
  | (with_reducible exact LeO.refl _)
  | (with_reducible exact LeO.none _)
  | (with_reducible refine LeO.ite ?_ ?_)
  | (with_reducible refine LeO.bind ?_ (fun _ => ?_))
set_option maxHeartbeats 8000000 in
set_option maxRecDepth 100000 in
theorem dS.calls (k : Nat) (a0 : ByteArray) (a1 : Int) (a2 : Int) (r1 : List ByteArray) (r2 : Int) (w : World) (h : dS.f k a0 a1 a2 = some (r1, r2)) :
 Calls Tryz.prog 63 #[.string a0, .int .i64 a1, .int .i64 a2] w fun e w' => ∃ v0_ : Value, e = .returned (.tuple #[v0_, .int .i64 r2]) ∧ Kd.R Kd.string 9 w' w.heap.size (fun _ => True) v0_ r1 ∧ Below w.heap.size w w' := by
 have HB := Aside0.mk (Below.refl w.heap.size w); have H := h; unfold dS.f at H; clear h
 by_cases c4 : a1 < 0
 ·
  rw [if_pos c4] at H; have iC := decide_eq_true c4; clear c4; simp only [Option.some.injEq, Prod.mk.injEq] at H; obtain ⟨rfl, rfl⟩ := H; go_enter Tryz.func63, Tryz.ntmps63
  go_wp2
  go_ret2
  exact ⟨_, ez, nz, hz HB.out⟩
 ·
  rw [if_neg c4] at H; have iC := decide_eq_false c4; clear c4
  by_cases c5 : a1 > 4096
  ·
   rw [if_pos c5] at H; have fk : decide (4096 < a1) = true := decide_eq_true c5; clear c5; simp only [Option.some.injEq, Prod.mk.injEq] at H; obtain ⟨rfl, rfl⟩ := H; go_enter Tryz.func63, Tryz.ntmps63
   go_wp2
   go_ret2
   exact ⟨_, ez, nz, hz HB.out⟩
  ·
   rw [if_neg c5] at H; have fk : decide (4096 < a1) = false := decide_eq_false c5; clear c5; obtain ⟨⟨yq, yt⟩, A6, H⟩ := bnz H; (try dsimp only at H); obtain ⟨⟨tO, yu, yw⟩, A7, H⟩ := bnz H; (try dsimp only at H); obtain ⟨⟨tP, EY, EZ⟩, A8, H⟩ := bnz H; (try dsimp only at H)
   by_cases c9 : tP = 0
   ·
    rw [if_pos c9] at H; have tC : (tP == 0) = true := beq_iff_eq.mpr c9; have xN : (tP != 0) = false := bne_eq_false_iff_eq.mpr c9; clear c9
    by_cases c10 : tO > (IntKind.u64.wrap (a1))
    ·
     rw [if_pos c10] at H; have r9 : decide ((IntKind.u64.wrap (a1)) < tO) = true := decide_eq_true c10; clear c10; simp only [Option.some.injEq, Prod.mk.injEq] at H; obtain ⟨rfl, rfl⟩ := H; go_enter Tryz.func63, Tryz.ntmps63
     go_wp2_with (first | ((with_reducible refine ak (f := 40) rfl ?_); refine aD (some 27) rfl rfl Tryz.func40 (by kernel_rfl) rfl #[.string a0] rfl mz ?_; (with_reducible refine (eD.calls a0 yq yt w _ ?side1 A6.out).mono ?_); (case side1 => exact hz HB.out); rintro e w11 ⟨g357, rfl, hi, hb, hb2⟩; refine ⟨_, rfl, ?_⟩; replace HB := am (hb); have ia := am (hi); (try clear hb); (try clear hb2); (try clear hk); (try clear hi)) | ((with_reducible refine ak (f := 41) rfl ?_); refine aD (some 29) rfl rfl Tryz.func41 (by kernel_rfl) rfl #[.pointer (some ⟨g357, 0, none⟩)] rfl mz ?_; (with_reducible refine (aJ.calls g357 yq yt tO yu yw w _ ?side1 ?side2 A7.out).mono ?_); (case side1 => exact ag.lz ia.out); (case side2 => exact hz1 HB.out (ag.ge ia.out)); rintro e w12 ⟨rfl, hi, hb, hk⟩; refine ⟨_, rfl, ?_⟩; replace HB := am (hb); replace ia := am (hi); (try clear hb); (try clear hb2); (try clear hk); (try clear hi)) | ((with_reducible refine ak (f := 42) rfl ?_); refine aD (some 31) rfl rfl Tryz.func42 (by kernel_rfl) rfl #[.pointer (some ⟨g357, 0, none⟩)] rfl mz ?_; (with_reducible refine (bh.calls g357 yu yw tP EY EZ w _ ?side1 ?side2 A8.out).mono ?_); (case side1 => exact ag.lz ia.out); (case side2 => exact hz1 HB.out (ag.ge ia.out)); rintro e w13 ⟨rfl, hi, hb, hk⟩; refine ⟨_, rfl, ?_⟩; replace HB := am (hb); replace ia := am (hi); (try clear hb); (try clear hb2); (try clear hk); (try clear hi)))
     go_ret2
     exact ⟨_, ez, nz, hz1 HB.out (ag.ge ia.out)⟩
    ·
     rw [if_neg c10] at H; have r9 : decide ((IntKind.u64.wrap (a1)) < tO) = false := decide_eq_false c10; clear c10; obtain ⟨⟨MT, Q9, Ra⟩, A14, H⟩ := bnz H; (try dsimp only at H); have H' := Aside0.mk H; clear H; go_enter Tryz.func63, Tryz.ntmps63
     go_wp2_with (first | ((with_reducible refine ak (f := 40) rfl ?_); refine aD (some 27) rfl rfl Tryz.func40 (by kernel_rfl) rfl #[.string a0] rfl mz ?_; (with_reducible refine (eD.calls a0 yq yt w _ ?side1 A6.out).mono ?_); (case side1 => exact hz HB.out); rintro e w15 ⟨g357, rfl, hi, hb, hb2⟩; refine ⟨_, rfl, ?_⟩; replace HB := am (hb); have ia := am (hi); (try clear hb); (try clear hb2); (try clear hk); (try clear hi)) | ((with_reducible refine ak (f := 41) rfl ?_); refine aD (some 29) rfl rfl Tryz.func41 (by kernel_rfl) rfl #[.pointer (some ⟨g357, 0, none⟩)] rfl mz ?_; (with_reducible refine (aJ.calls g357 yq yt tO yu yw w _ ?side1 ?side2 A7.out).mono ?_); (case side1 => exact ag.lz ia.out); (case side2 => exact hz1 HB.out (ag.ge ia.out)); rintro e w16 ⟨rfl, hi, hb, hk⟩; refine ⟨_, rfl, ?_⟩; replace HB := am (hb); replace ia := am (hi); (try clear hb); (try clear hb2); (try clear hk); (try clear hi)) | ((with_reducible refine ak (f := 42) rfl ?_); refine aD (some 31) rfl rfl Tryz.func42 (by kernel_rfl) rfl #[.pointer (some ⟨g357, 0, none⟩)] rfl mz ?_; (with_reducible refine (bh.calls g357 yu yw tP EY EZ w _ ?side1 ?side2 A8.out).mono ?_); (case side1 => exact ag.lz ia.out); (case side2 => exact hz1 HB.out (ag.ge ia.out)); rintro e w17 ⟨rfl, hi, hb, hk⟩; refine ⟨_, rfl, ?_⟩; replace HB := am (hb); replace ia := am (hi); (try clear hb); (try clear hb2); (try clear hk); (try clear hi)) | ((with_reducible refine ak (f := 43) rfl ?_); refine aD (some 44) rfl rfl Tryz.func43 (by kernel_rfl) rfl #[.pointer (some ⟨g357, 0, none⟩)] rfl mz ?_; (with_reducible refine (aV.calls g357 EY EZ MT Q9 Ra w _ ?side1 ?side2 A14.out).mono ?_); (case side1 => exact ag.lz ia.out); (case side2 => exact hz1 HB.out (ag.ge ia.out)); rintro e w18 ⟨rfl, hi, hb, hk⟩; refine ⟨_, rfl, ?_⟩; replace HB := am (hb); replace ia := am (hi); (try clear hb); (try clear hb2); (try clear hk); (try clear hi)))
     go_loopg [11, 12, 47] k (fun kq v11 v12 v47 w' => ∃ (ng : List ByteArray) (cX : Int) (wN : Int), v12 = .int .i64 cX ∧ v47 = .int .u64 wN ∧ Aside0 (dS.l0 kq a0 a1 a2 ng cX tO wN = some (r1, r2)) ∧ Aside0 (kq ≤ k) ∧ Aside0 (Kd.R Kd.string 9 w' w.heap.size (fun _ => True) v11 ng) ∧ Aside0 (Below w.heap.size w w'))
     case atStart => exact ⟨(([] : List ByteArray)), (wrap64 ((a0.size : Int) - MT)), (0), sz, sz, H', ⟨Nat.le_refl _⟩, ⟨nz⟩, ⟨hz1 HB.out (ag.ge ia.out)⟩⟩
     case round =>
      clear H'
      try clear c1
      try clear p2
      try clear c4
      try clear iC
      try clear c5
      try clear fk
      try clear c6
      try clear p6
      try clear c9
      try clear tC
      try clear xN
      try clear c10
      try clear r9
      obtain ⟨ng, cX, wN, rfl, rfl, HA, HK1, HO_11, HB⟩ := hrel
      cases gk with
      | zero => exact absurd HA.out (by simp [dS.l0])
      | succ k1 =>
       have H := HA.out; clear HA; simp only [dS.l0] at H
       by_cases c19 : wN < tO
       ·
        rw [if_pos c19] at H; have zU := decide_eq_true c19; clear c19; obtain ⟨⟨BF, Ip, vF⟩, A20, H⟩ := bnz H; (try dsimp only at H)
        by_cases c21 : vF = 0
        ·
         rw [if_pos c21] at H; have JB : (vF == 0) = true := beq_iff_eq.mpr c21; have JC : (vF != 0) = false := bne_eq_false_iff_eq.mpr c21; clear c21; obtain ⟨c22, H⟩ := ifz H; have EC := Aside0.mk c22; clear c22; obtain ⟨Rb, E0⟩ : ∃ y_ : List ByteArray, y_ = (ng ++ [BF]) := ⟨_, rfl⟩; (try rw [← E0] at H); have Pp := Aside0.mk E0; clear E0; have H' := Aside0.mk H; clear H
         go_wp2_with (first | ((with_reducible refine ak (f := 122) rfl ?_); refine aD (some 53) rfl rfl Tryz.func122 (by kernel_rfl) rfl #[.string a0, .int .i64 cX, .int .i64 a2] rfl mz ?_; (with_reducible refine (cr.calls k1 a0 cX a2 BF Ip vF _ A20.out).mono ?_); rintro e w23 ⟨rfl, hb⟩; refine ⟨_, rfl, ?_⟩; replace HO_11 := rb HO_11 hb; replace HB := sb HB hb; (try clear hb); (try clear hb2); (try clear hk); (try clear hi)) | ((with_reducible refine eB (b := .append) (xs := #[.tmp 60, .tmp 62]) rfl ?_); at_builtin; refine Kd.gQ Kd.string (w0 := w) w.heap.size rfl (.tmp 60) (.tmp 62) 59 9 (.string ⟨#[]⟩) 16 rfl Tryz.underlying59 rZ rfl (by decide) (by omega) u11 ng BF [.string BF] (fun _ => True) (fun _ => False) rfl rfl ?aP (fun _ hk => hk.elim) ?aF ?aO ?aB ?aS ?aL ?_; (case aP => exact rfl); (case aB => exact (hz HB.out)); (case aF => exact (fun _ _ => trivial)); (case aO => exact (rz HO_11.out)); (case aS => exact (ai (hz HB.out))); (case aL => have := EC.out; omega); intro v371 w24 ho hb hg hat; rw [← Pp.out] at ho; replace HB := am (hb); have Pq := am (ho); clear HO_11; clear ho hb hg hat))
         go_roundg k1
         case measure => have := HK1.out; omega
         case rel => exact ⟨(Rb), (Ip), (IntKind.u64.wrap (wN + 1)), sz, sz, H', ⟨by have := HK1.out; omega⟩, ⟨rz Pq.out⟩, ⟨hz HB.out⟩⟩
        ·
         rw [if_neg c21] at H; have JB : (vF == 0) = false := beq_eq_false_iff_ne.mpr c21; have JC : (vF != 0) = true := bne_iff_ne.mpr c21; simp only [Option.some.injEq, Prod.mk.injEq] at H; obtain ⟨rfl, rfl⟩ := H
         go_wp2_with (first | ((with_reducible refine ak (f := 122) rfl ?_); refine aD (some 53) rfl rfl Tryz.func122 (by kernel_rfl) rfl #[.string a0, .int .i64 cX, .int .i64 a2] rfl mz ?_; (with_reducible refine (cr.calls k1 a0 cX a2 BF Ip vF _ A20.out).mono ?_); rintro e w25 ⟨rfl, hb⟩; refine ⟨_, rfl, ?_⟩; replace HO_11 := rb HO_11 hb; replace HB := sb HB hb; (try clear hb); (try clear hb2); (try clear hk); (try clear hi)))
         go_ret2
         exact ⟨_, ez, nz, hz HB.out⟩
       ·
        rw [if_neg c19] at H; have zU := decide_eq_false c19; clear c19; obtain ⟨c26, H⟩ := ifz H; have JD := eq_true c26; have JE : decide (0 ≤ cX) = true := decide_eq_true c26; clear c26; obtain ⟨c27, H⟩ := ifz H; have O9 := eq_true c27; have Ur : decide (cX ≤ (a0.size : Int)) = true := decide_eq_true c27; clear c27; obtain ⟨⟨sH, tQ⟩, A28, H⟩ := bnz H; (try dsimp only at H)
        by_cases c29 : tQ = 0
        ·
         rw [if_pos c29] at H; have zV : (tQ == 0) = true := beq_iff_eq.mpr c29; have zW : (tQ != 0) = false := bne_eq_false_iff_eq.mpr c29; clear c29; obtain ⟨Io, A30, H⟩ := bnz H; (try dsimp only at H)
         by_cases c31 : Io = true
         ·
          subst c31; rw [if_pos rfl] at H; obtain ⟨⟨Rc, Rd⟩, A32, H⟩ := bnz H; (try dsimp only at H); simp only [Option.some.injEq, Prod.mk.injEq] at H; obtain ⟨rfl, rfl⟩ := H
          go_wp2_with (first | ((with_reducible refine ak (f := 61) rfl ?_); refine aD (some 71) rfl rfl Tryz.func61 (by kernel_rfl) rfl #[.string (a0.extract (cX : Int).toNat a0.size), .int .i64 a1] rfl mz ?_; (with_reducible refine (cJ.calls k1 (a0.extract (cX : Int).toNat a0.size) a1 sH tQ _ A28.out).mono ?_); rintro e w33 ⟨v375, rfl, ho0, hb⟩; refine ⟨_, rfl, ?_⟩; replace HO_11 := rb HO_11 hb; have jS := am (Kd.cV ho0 (ai (hz HB.out))); replace HB := sb HB hb; (try clear hb); (try clear hb2); (try clear hk); (try clear hi); (try clear ho0); obtain ⟨Ib, Ic, Ie⟩ := Kd.bu HO_11.out; subst Ie; obtain ⟨tE, tF, Em⟩ := Kd.bu jS.out; subst Em) | ((with_reducible refine ak (f := 123) rfl ?_); refine aD (some 79) rfl rfl Tryz.func123 (by kernel_rfl) rfl #[.slice Ib ng.length Ic, .slice tE sH.length tF] rfl mz ?_; (with_reducible refine (nK.calls _ _ ng _ _ sH true _ ?side1 ?side2 ?side3 ?side4 A30.out).mono ?_); (case side1 => repeat (first | exact (Kd.av HO_11.out).2.2 | (with_reducible refine Kd.bO ?_ _) | (with_reducible refine Kd.bQ ?_ _) | (with_reducible refine Kd.bZ ?_))); (case side2 => exact (Kd.av HO_11.out).2.1); (case side3 => repeat (first | exact (Kd.av jS.out).2.2 | (with_reducible refine Kd.bO ?_ _) | (with_reducible refine Kd.bQ ?_ _) | (with_reducible refine Kd.bZ ?_))); (case side4 => exact (Kd.av jS.out).2.1); rintro e w36 ⟨rfl, hb⟩; refine ⟨_, rfl, ?_⟩; replace HO_11 := rb HO_11 hb; replace jS := rb jS hb; replace HB := sb HB hb; (try clear hb); (try clear hb2); (try clear hk); (try clear hi)) | ((with_reducible refine ak (f := 124) rfl ?_); refine aD (some 84) rfl rfl Tryz.func124 (by kernel_rfl) rfl #[.slice Ib ng.length Ic, .slice tE sH.length tF] rfl mz ?_; (with_reducible refine (om.calls _ _ ng _ _ sH Rc Rd _ ?side1 ?side2 ?side3 ?side4 A32.out).mono ?_); (case side1 => repeat (first | exact (Kd.av HO_11.out).2.2 | (with_reducible refine Kd.bO ?_ _) | (with_reducible refine Kd.bQ ?_ _) | (with_reducible refine Kd.bZ ?_))); (case side2 => exact (Kd.av HO_11.out).2.1); (case side3 => repeat (first | exact (Kd.av jS.out).2.2 | (with_reducible refine Kd.bO ?_ _) | (with_reducible refine Kd.bQ ?_ _) | (with_reducible refine Kd.bZ ?_))); (case side4 => exact (Kd.av jS.out).2.1); rintro e w37 ⟨v380, rfl, ho0, hb⟩; refine ⟨_, rfl, ?_⟩; replace jS := rb jS hb; have Pr := am (Kd.cV (Kd.cL ho0 (Kd.cA (rz HO_11.out))) (ai (hz HB.out))); replace HO_11 := am (Kd.bT (rz HO_11.out) (Kd.cK ho0) hb); replace HB := sb HB hb; (try clear hb); (try clear hb2); (try clear hk); (try clear hi); (try clear ho0)))
          go_ret2
          exact ⟨_, ez, by (with_reducible repeat (first | apply Kd.ay | apply Kd.aC | apply Kd.ax)); exact Kd.au Pr.out (fun _ hk => trivial), hz HB.out⟩
         ·
          replace c31 := Bool.eq_false_iff.mpr c31; subst c31; rw [if_neg (show ¬ (false = true) by decide)] at H; simp only [Option.some.injEq, Prod.mk.injEq] at H; obtain ⟨rfl, rfl⟩ := H
          go_wp2_with (first | ((with_reducible refine ak (f := 61) rfl ?_); refine aD (some 71) rfl rfl Tryz.func61 (by kernel_rfl) rfl #[.string (a0.extract (cX : Int).toNat a0.size), .int .i64 a1] rfl mz ?_; (with_reducible refine (cJ.calls k1 (a0.extract (cX : Int).toNat a0.size) a1 sH tQ _ A28.out).mono ?_); rintro e w38 ⟨v375, rfl, ho0, hb⟩; refine ⟨_, rfl, ?_⟩; replace HO_11 := rb HO_11 hb; have jS := am (Kd.cV ho0 (ai (hz HB.out))); replace HB := sb HB hb; (try clear hb); (try clear hb2); (try clear hk); (try clear hi); (try clear ho0); obtain ⟨Re, Rf, Rg⟩ := Kd.bu HO_11.out; subst Rg; obtain ⟨jC, jx, tG⟩ := Kd.bu jS.out; subst tG) | ((with_reducible refine ak (f := 123) rfl ?_); refine aD (some 79) rfl rfl Tryz.func123 (by kernel_rfl) rfl #[.slice Re ng.length Rf, .slice jC sH.length jx] rfl mz ?_; (with_reducible refine (nK.calls _ _ ng _ _ sH false _ ?side1 ?side2 ?side3 ?side4 A30.out).mono ?_); (case side1 => repeat (first | exact (Kd.av HO_11.out).2.2 | (with_reducible refine Kd.bO ?_ _) | (with_reducible refine Kd.bQ ?_ _) | (with_reducible refine Kd.bZ ?_))); (case side2 => exact (Kd.av HO_11.out).2.1); (case side3 => repeat (first | exact (Kd.av jS.out).2.2 | (with_reducible refine Kd.bO ?_ _) | (with_reducible refine Kd.bQ ?_ _) | (with_reducible refine Kd.bZ ?_))); (case side4 => exact (Kd.av jS.out).2.1); rintro e w41 ⟨rfl, hb⟩; refine ⟨_, rfl, ?_⟩; replace HO_11 := rb HO_11 hb; replace jS := rb jS hb; replace HB := sb HB hb; (try clear hb); (try clear hb2); (try clear hk); (try clear hi)))
          go_ret2
          exact ⟨_, ez, nz, hz HB.out⟩
        ·
         rw [if_neg c29] at H; have zV : (tQ == 0) = false := beq_eq_false_iff_ne.mpr c29; have zW : (tQ != 0) = true := bne_iff_ne.mpr c29; simp only [Option.some.injEq, Prod.mk.injEq] at H; obtain ⟨rfl, rfl⟩ := H
         go_wp2_with (first | ((with_reducible refine ak (f := 61) rfl ?_); refine aD (some 71) rfl rfl Tryz.func61 (by kernel_rfl) rfl #[.string (a0.extract (cX : Int).toNat a0.size), .int .i64 a1] rfl mz ?_; (with_reducible refine (cJ.calls k1 (a0.extract (cX : Int).toNat a0.size) a1 sH tQ _ A28.out).mono ?_); rintro e w42 ⟨v375, rfl, ho0, hb⟩; refine ⟨_, rfl, ?_⟩; replace HO_11 := rb HO_11 hb; have jS := am (Kd.cV ho0 (ai (hz HB.out))); replace HB := sb HB hb; (try clear hb); (try clear hb2); (try clear hk); (try clear hi); (try clear ho0)))
         go_ret2
         exact ⟨_, ez, nz, hz HB.out⟩
   ·
    rw [if_neg c9] at H; have tC : (tP == 0) = false := beq_eq_false_iff_ne.mpr c9; have xN : (tP != 0) = true := bne_iff_ne.mpr c9; simp only [Option.some.injEq, Prod.mk.injEq] at H; obtain ⟨rfl, rfl⟩ := H; go_enter Tryz.func63, Tryz.ntmps63
    go_wp2_with (first | ((with_reducible refine ak (f := 40) rfl ?_); refine aD (some 27) rfl rfl Tryz.func40 (by kernel_rfl) rfl #[.string a0] rfl mz ?_; (with_reducible refine (eD.calls a0 yq yt w _ ?side1 A6.out).mono ?_); (case side1 => exact hz HB.out); rintro e w43 ⟨g357, rfl, hi, hb, hb2⟩; refine ⟨_, rfl, ?_⟩; replace HB := am (hb); have ia := am (hi); (try clear hb); (try clear hb2); (try clear hk); (try clear hi)) | ((with_reducible refine ak (f := 41) rfl ?_); refine aD (some 29) rfl rfl Tryz.func41 (by kernel_rfl) rfl #[.pointer (some ⟨g357, 0, none⟩)] rfl mz ?_; (with_reducible refine (aJ.calls g357 yq yt tO yu yw w _ ?side1 ?side2 A7.out).mono ?_); (case side1 => exact ag.lz ia.out); (case side2 => exact hz1 HB.out (ag.ge ia.out)); rintro e w44 ⟨rfl, hi, hb, hk⟩; refine ⟨_, rfl, ?_⟩; replace HB := am (hb); replace ia := am (hi); (try clear hb); (try clear hb2); (try clear hk); (try clear hi)) | ((with_reducible refine ak (f := 42) rfl ?_); refine aD (some 31) rfl rfl Tryz.func42 (by kernel_rfl) rfl #[.pointer (some ⟨g357, 0, none⟩)] rfl mz ?_; (with_reducible refine (bh.calls g357 yu yw tP EY EZ w _ ?side1 ?side2 A8.out).mono ?_); (case side1 => exact ag.lz ia.out); (case side2 => exact hz1 HB.out (ag.ge ia.out)); rintro e w45 ⟨rfl, hi, hb, hk⟩; refine ⟨_, rfl, ?_⟩; replace HB := am (hb); replace ia := am (hi); (try clear hb); (try clear hb2); (try clear hk); (try clear hi)))
    go_ret2
    exact ⟨_, ez, nz, hz1 HB.out (ag.ge ia.out)⟩
end Go.Proofs.YtfgnjndfnijjoaaGreat.Print
end
section
namespace Go.Proofs.YtfgnjndfnijjoaaGreat.Print
open Go.RowKit Go.Proofs.YtfgnjndfnijjoaaGreatW.PrintWords Go.Proofs.YtfgnjndfnijjoaaGreatW.PrintLast Go.Proofs.YtfgnjndfnijjoaaGreatW.PrintMore
attribute [local go_sem] dJ dK eF eG cZ dc dL dM
attribute [local go_sem] bH
set_option linter.unusedVariables false
set_option linter.unusedSimpArgs false
def BG.f (s : ByteArray) : Option (Int × Int) := (eD.f s).bind fun p => (aJ.f p.1 p.2).bind fun q => (eE.f q.2.1 q.2.2).bind fun d => if d.1 ≠ 0 then some (0, d.1) else if q.1 > 2000 then some (0, 10) else some (wrap64 q.1, 0)
def Ac.g (cs rs ps ks : List Int) (ns : List ByteArray) (fs : List Int) : Nat → Nat → List S51 → Option (List S51 × Int)
  | 0, _, out => some (out, 0)
  | c + 1, i, out => if i < cs.length ∧ i < rs.length ∧ i < ps.length ∧ i < ks.length ∧ i < ns.length ∧ i < fs.length then
      (jH.f (cs.getD i 0) (wrap64 (rs.getD i 0)) (ps.getD i 0) (ks.getD i 0) (ns.getD i ⟨#[]⟩) (fs.getD i 0)).bind fun o => if o = false then some ([], 5) else
        Ac.g cs rs ps ks ns fs c (i + 1) (out ++ [⟨⟨cs.getD i 0, wrap64 (rs.getD i 0)⟩, ps.getD i 0, ks.getD i 0, ns.getD i ⟨#[]⟩, fs.getD i 0⟩]) else none
def mF.rows (k : Nat) (n : Int) (cs rs ps ks : List Int) (ns : List ByteArray) (fs : List Int) : Option (List S51 × Int) :=
  if n ≤ 2000 then (Ac.g cs rs ps ks ns fs n.toNat 0 []).bind fun o => if o.2 ≠ 0 then some ([], o.2) else (cm.f k o.1).bind fun m => if m = false then some ([], 12) else some (o.1, 0) else none
def mF.f (k : Nat) (b0 b1 b2 b3 b4 : ByteArray) : Option (List S51 × Int) :=
  (BG.f b0).bind fun n => if n.2 ≠ 0 then some ([], n.2) else (dg.f b1).bind fun c1 => if c1.2.2 ≠ 0 then some ([], c1.2.2) else
    (cG.f k c1.1 n.1).bind fun cs => if cs.2 ≠ 0 then some ([], cs.2) else (cJ.f k c1.2.1 n.1).bind fun rs => if rs.2 ≠ 0 then some ([], rs.2) else
      (dg.f b2).bind fun c2 => if c2.2.2 ≠ 0 then some ([], c2.2.2) else (cG.f k c2.1 n.1).bind fun ps => if ps.2 ≠ 0 then some ([], ps.2) else (cG.f k c2.2.1 n.1).bind fun ks => if ks.2 ≠ 0 then some ([], ks.2) else
        (dS.f k b3 n.1 64).bind fun ns => if ns.2 ≠ 0 then some ([], ns.2) else (bI.f k b4 n.1).bind fun fs => if fs.2 ≠ 0 then some ([], fs.2) else mF.rows k n.1 cs.1 rs.1 ps.1 ks.1 ns.1 fs.1
def dG.f (k : Nat) (l0 : List S53) : Option (List S51 × Int) :=
  match l0 with
  | [c0, c1, c2, c3, c4] => if c0.f0 = 4 ∧ c1.f0 = 5 ∧ c2.f0 = 6 ∧ c3.f0 = 7 ∧ c4.f0 = 8 then (mF.f k c0.f1 c1.f1 c2.f1 c3.f1 c4.f1).bind fun r => if r.2 ≠ 0 then some ([], r.2) else some (r.1, 0) else some ([], 5)
  | _ => some ([], 5)
theorem mF.mono (k : Nat) (b0 b1 b2 b3 b4 : ByteArray) : LeO (mF.f k b0 b1 b2 b3 b4) (mF.f (k + 1) b0 b1 b2 b3 b4) := by
  unfold mF.f mF.rows
  exact LeO.bind (LeO.refl _) fun n => LeO.ite (LeO.refl _) (LeO.bind (LeO.refl _) fun c1 => LeO.ite (LeO.refl _) (LeO.bind (cG.mono _ _ _) fun cs => LeO.ite (LeO.refl _) (LeO.bind (cJ.mono _ _ _) fun rs => LeO.ite (LeO.refl _)
    (LeO.bind (LeO.refl _) fun c2 => LeO.ite (LeO.refl _) (LeO.bind (cG.mono _ _ _) fun ps => LeO.ite (LeO.refl _) (LeO.bind (cG.mono _ _ _) fun ks => LeO.ite (LeO.refl _)
      (LeO.bind (dS.mono _ _ _ _) fun ns => LeO.ite (LeO.refl _) (LeO.bind (bI.mono _ _ _) fun fs => LeO.ite (LeO.refl _) (LeO.ite (LeO.bind (LeO.refl _) fun o => LeO.ite (LeO.refl _) (LeO.bind (cm.mono _ _) fun m => LeO.refl _)) (LeO.refl _))))))))))
theorem dG.mono : ∀ a0 k, LeO (dG.f k a0) (dG.f (k + 1) a0) := by
 intro a0 k; unfold dG.f
 split
 · exact LeO.ite (LeO.bind (mF.mono _ _ _ _ _ _) fun r => LeO.refl _) (LeO.refl _)
 · exact LeO.refl _
set_option maxHeartbeats 8000000 in
set_option maxRecDepth 100000 in
theorem CK (s : ByteArray) (n e : Int) (w : World) (h : BG.f s = some (n, e)) : Calls Tryz.prog 56 #[.string s] w fun en w' => ((e = 0 ∧ en = .returned (.int .i64 n)) ∨ (e ≠ 0 ∧ en = .panicked (iI e))) ∧ Below w.heap.size w w' := by
 unfold BG.f at h; obtain ⟨⟨p1, p2⟩, H1, h⟩ := Option.bind_eq_some_iff.mp h; obtain ⟨⟨q1, q2, q3⟩, H2, h⟩ := Option.bind_eq_some_iff.mp h; obtain ⟨⟨d1, d2, d3⟩, H3, h⟩ := Option.bind_eq_some_iff.mp h; dsimp only at h H2 H3; have A1 := Aside0.mk H1; have A2 := Aside0.mk H2; have A3 := Aside0.mk H3; have H := Aside0.mk h; clear h H1 H2 H3; go_enter Tryz.func56, Tryz.ntmps56
 go_wp2_with fail
 refine (eD.calls s p1 p2 w _ (Below.refl _ _) A1.out).mono ?_; rintro e_ w1 ⟨g, rfl, hI, hB, _⟩; have HI := Aside0.mk hI; have HB := Aside0.mk hB; clear hI hB
 go_wp2_with fail
 refine (aJ.calls g p1 p2 q1 q2 q3 w _ HI.out HB.out A2.out).mono ?_; rintro e_ w2 ⟨rfl, hI, hB, _⟩; clear HI HB; have HI := Aside0.mk hI; have HB := Aside0.mk hB; clear hI hB
 go_wp2_with fail
 refine (eE.calls g q2 q3 d1 d2 d3 w _ HI.out HB.out A3.out).mono ?_; rintro e_ w3 ⟨rfl, hI, hB, _⟩; clear HI HB; have HB := Aside0.mk hB; clear hI hB
 go_wp2_with fail
 by_cases he : d1 = 0
 case neg =>
  have h := H.out; rw [if_pos he] at h; obtain ⟨rfl, rfl⟩ := by simpa using h
  refine (jy d1 _ he).mono ?_; rintro e_ w4 ⟨rfl, hw4⟩; subst hw4; exact ⟨rfl, .inr ⟨he, rfl⟩, HB.out⟩
 subst he; have h := H.out; rw [if_neg (by simp)] at h; refine (mE _).mono ?_; rintro e_ w4 ⟨rfl, hw4⟩; subst hw4
 by_cases hq : q1 > 2000
 ·
  rw [if_pos hq] at h; obtain ⟨rfl, rfl⟩ := by simpa using h
  have t1 : decide (2000 < q1) = true := decide_eq_true hq; clear h H hq
  go_wp2_with fail
  refine (jy 10 _ (by decide)).mono ?_; rintro e_ w4 ⟨rfl, hw4⟩; subst hw4; exact ⟨rfl, .inr ⟨by decide, rfl⟩, HB.out⟩
 ·
  rw [if_neg hq] at h; obtain ⟨rfl, rfl⟩ := by simpa using h
  have t1 : decide (2000 < q1) = false := decide_eq_false hq; clear h H hq
  go_wp2_with fail
  go_ret
  exact ⟨rfl, HB.out⟩
structure DcI (w0 W0 : World) (pl : Nat) (v : Value) (l : List S51) (W : World) : Prop where
  K : bE W0 W pl none
  L : W.heap[pl]? = some (.cells #[v] 22 (0, 0))
  R : Kd.R k51 51 W w0.heap.size (fun k => W0.heap.size ≤ k) v l
  B : Below w0.heap.size w0 W
  z : pl < W0.heap.size
  g : w0.heap.size ≤ pl
section
variable {w0 W0 W W' : World} {pl : Nat} {v v' : Value} {l l' : List S51}
theorem DcI.below (h : DcI w0 W0 pl v l W) (hb : Below W.heap.size W W') : DcI w0 W0 pl v l W' :=
  ⟨h.K.trans (bE.of_below hb pl none) (.inl rfl), aX h.L hb, Kd.gG h.R hb, aM h.B hb, h.z, h.g⟩
theorem DcI.app (h : DcI w0 W0 pl v l W) (hg : W.grownBy W' v.ownBlock) (hB : Below w0.heap.size w0 W') (hR : Kd.R k51 51 W' w0.heap.size (fun k => W0.heap.size ≤ k) v' l') : DcI w0 W0 pl v' l' (W'.setCell ⟨pl, 0, none⟩ v') := by
 have hne : some pl ≠ v.ownBlock := Kd.nY h.R (fun k hk => by have := h.z; omega); refine ⟨(h.K.trans (bE.rT hg pl) ?_).kL 0 _, jt (eL h.L hg hne) 0 _, Kd.eu hR (fun k hk => by have := h.z; show k ≠ pl; omega) _, hB.setCell (p := ⟨pl, 0, none⟩) h.g _, h.z, h.g⟩
 cases hv : v.ownBlock with
 | none => exact .inl rfl
 | some b => exact .inr ⟨b, rfl, h.R.1 b hv⟩
theorem DcI.first (hl : W.heap[pl]? = some (.cells #[.slice none 0 0] 22 (0, 0))) (hB : Below w0.heap.size w0 W) (hg : w0.heap.size ≤ pl) (hb : Below W.heap.size W W') : DcI w0 W' pl (.slice none 0 0) [] W' :=
  ⟨bE.refl _ _ _, aX hl hb, Kd.iE _ _ _ _ _, aM hB hb, cY (aX hl hb), hg⟩
theorem DcI.F (h : DcI w0 W0 pl v l W) {α : Type} {d : Kd α} {A : Option Addr} {n : Nat} {xs : List α} (hF : Kd.F d W0 (fun k => k ≠ pl) A n xs) : d.C W A n xs := hF W fun k hk hlt => h.K.2 k hlt hk (by simp)
end
def Pt (w0 W0 : World) (pl : Nat) (r : List S51 × Int) (e : Ending) (W' : World) : Prop :=
  (r.2 = 0 ∧ e = .returned (.tuple #[]) ∧ ∃ v, DcI w0 W0 pl v r.1 W') ∨ (r.2 ≠ 0 ∧ e = .panicked (iI r.2) ∧ ∃ v l, DcI w0 W0 pl v l W')
def iX (w : World) (P : World → Prop) : Prop := ∀ W, Below w.heap.size w W → P W
theorem iX.step {w w1 : World} {P : World → Prop} (h : iX w P) (hb : Below w.heap.size w w1) : iX w1 P := fun W hW => h W (aM hb hW)
theorem iX.now {w : World} {P : World → Prop} (h : iX w P) : P w := h w (Below.refl _ _)
theorem iX.and {w : World} {P Q : World → Prop} (h : iX w P) (g : iX w Q) : iX w (fun W => P W ∧ Q W) := fun W hW => ⟨h W hW, g W hW⟩
theorem iX.row {α : Type} {d : Kd α} {e base : Nat} {w : World} {ok : Nat → Prop} {A : Option Addr} {c : Nat} {xs : List α} {pl : Nat} (h : d.R e w base (fun k => ok k ∧ k ≠ pl) (.slice A xs.length c) xs) : iX w (fun W => Kd.F d W (fun k => k ≠ pl) A xs.length xs) :=
  fun _ hW => fun W' hW' => Kd.R_F (Kd.au (Kd.gG h hW) (fun _ h => h.2)) W' hW'
theorem E1 {W : World} {A : Option Addr} {c0 c1 c2 c3 c4 : S53} (h : Kd.C k53 W A 5 [c0, c1, c2, c3, c4]) : ∃ ad, A = some ad ∧ iX W (fun W' => W'.cell? ⟨ad.block, ad.off + 1, none⟩ = some (.string c0.f1) ∧ W'.cell? ⟨ad.block, ad.off + 2 + 1, none⟩ = some (.string c1.f1) ∧ W'.cell? ⟨ad.block, ad.off + 4 + 1, none⟩ = some (.string c2.f1) ∧ W'.cell? ⟨ad.block, ad.off + 6 + 1, none⟩ = some (.string c3.f1) ∧ W'.cell? ⟨ad.block, ad.off + 8 + 1, none⟩ = some (.string c4.f1)) := by
 obtain ⟨ad, e, _⟩ := jU h 0 (by decide) (by decide); refine ⟨ad, e, fun W' hW => ?_⟩; have h' := Kd.fc h hW; obtain ⟨a0, e0, _, x0⟩ := jU h' 0 (by decide) (by decide); obtain ⟨a1, e1, _, x1⟩ := jU h' 1 (by decide) (by decide); obtain ⟨a2, e2, _, x2⟩ := jU h' 2 (by decide) (by decide); obtain ⟨a3, e3, _, x3⟩ := jU h' 3 (by decide) (by decide); obtain ⟨a4, e4, _, x4⟩ := jU h' 4 (by decide) (by decide); subst e
 cases e0; cases e1; cases e2; cases e3; cases e4
 exact ⟨x0, x1, x2, x3, x4⟩
def oDc.T10 : Bool × List (List Nat × List Nat) := (true, [([], []), ([], []), ([0, 1], [0, 1]), ([2], [2]), ([], []), ([], []), ([4, 5], [4, 5]), ([6], [6]), ([7], [7]), ([3, 8], [3, 8]), ([], []), ([], []), ([10, 11], [10, 11]), ([12], [12]), ([], []), ([], []), ([14, 15], [14, 15]), ([16], [16]), ([], []), ([], []), ([18, 19], [18, 19]), ([20], [20]), ([], []), ([], []), ([22, 23], [22, 23]), ([24], [24]), ([9, 13, 17, 21, 25], [9, 13, 17, 21, 25]), ([], []), ([27, 26, 0, 1, 2, 3, 4, 5, 6, 7, 8, 9, 10, 11, 12, 13, 14, 15, 16, 17, 18, 19, 20, 21, 22, 23, 24, 25, 26, 27], [26, 27])])
def oDc.B10 : List Nat := [0, 0, 3, 7, 0, 0, 48, 112, 240, 511, 0, 0, 3072, 7168, 0, 0, 49152, 114688, 0, 0, 786432, 1835008, 0, 0, 12582912, 29360128, 67108863, 0, 268435455]
theorem oDc.D8 : gU .any (opsOf Tryz.f55 10) = oDc.T10 := by kernel_rfl
theorem oDc.Be : iT oDc.T10.2 oDc.B10 = true := by kernel_rfl
theorem CL {P : Program} {ops : Array Oper} {a : Act} {W w1 : World} {K : Act → World → Prop} {Q : Exit → Act → World → Prop} {oi : Oper} {N : Option Tmp} {v : Value} (hw : Region.wanted oi (yielded ops a.tmps) = true) (hN : oi.dst = N)
    (hrun : (execOp a.eval oi).run P W = .ok (.value v) w1) (h : K (a.put N v) w1) : if Region.wanted oi (yielded ops a.tmps) = true then Oper.wp P oi a W K Q else K (a.put N undef) W := by
 subst hN; rw [if_pos hw]; unfold Oper.wp; rw [hrun]; exact h
theorem E2 {P : Program} {ops : Array Oper} {a : Act} {W w1 : World} {K : Act → World → Prop} {Q : Exit → Act → World → Prop} {oi : Oper} (hw : Region.wanted oi (yielded ops a.tmps) = true) (hN : oi.dst = none)
    (hrun : (execOp a.eval oi).run P W = .ok .skip w1) (h : K (a.put none undef) w1) : if Region.wanted oi (yielded ops a.tmps) = true then Oper.wp P oi a W K Q else K (a.put none undef) W := by
 rw [if_pos hw]; unfold Oper.wp; rw [hrun]; show K (a.put oi.dst undef) w1; rw [hN]; exact h
set_option maxHeartbeats 8000000 in
set_option maxRecDepth 100000 in
theorem mF.calls (k : Nat) (A : Option Addr) (c : Nat) (c0 c1 c2 c3 c4 : S53) (r : List S51 × Int) (pb pl : Nat) (w0 W : World) (hs : W.heap[pb]? = some (.cells #[.slice A 5 c] 26 (0, 0))) (hC : Kd.C k53 W A 5 [c0, c1, c2, c3, c4]) (hl : W.heap[pl]? = some (.cells #[.slice none 0 0] 22 (0, 0)))
    (hB : Below w0.heap.size w0 W) (hg : w0.heap.size ≤ pl) (h : mF.f k c0.f1 c1.f1 c2.f1 c3.f1 c4.f1 = some r) :
    Calls Tryz.prog 55 #[.pointer (some ⟨pb, 0, none⟩), .pointer (some ⟨pl, 0, none⟩)] W fun e W' => ∃ W0, Below W.heap.size W W0 ∧ Pt w0 W0 pl r e W' := by
 obtain ⟨ad, rfl, hx⟩ := E1 hC; have hb0 : iX W (fun W' => Below W.heap.size W W' ∧ W'.cell? ⟨pb, 0, none⟩ = some (.slice (some ad) 5 c)) := fun W' hW => ⟨hW, (af (aX hs hW) 0).trans rfl⟩
 have ST := Aside0.mk (hb0.and hx); have HX := Aside0.mk (And.intro hl (And.intro hB hg)); unfold mF.f at h; obtain ⟨⟨n, en⟩, H1, h⟩ := Option.bind_eq_some_iff.mp h; dsimp only at h H1; have A1 := Aside0.mk H1; have H := Aside0.mk h; clear h H1; clear h; clear hs hC hl hB hg hb0 hx; obtain ⟨⟨_, q0⟩, q1, q2, q3, q4, q5⟩ := ST.out.now; go_enter Tryz.func55, Tryz.ntmps55
 go_wp2_with fail
 refine (CK _ n en _ A1.out).mono ?_; rintro e_ w1 ⟨hE, hb⟩; clear q0 q1 q2 q3 q4 q5; have n0_ := Aside0.mk (ST.out.step hb); clear ST; have ST := n0_; clear n0_; clear hb
 rcases hE with hE | ⟨he, rfl⟩
 case inr =>
  have h := H.out; rw [if_pos he] at h; obtain rfl := Option.some.inj h; exact ⟨rfl, _, ST.out.now.1.1, .inr ⟨he, rfl, _, _, DcI.first HX.out.1 HX.out.2.1 HX.out.2.2 ST.out.now.1.1⟩⟩
 obtain ⟨rfl, rfl⟩ := hE; have h := H.out; rw [if_neg (by simp)] at h; clear H; obtain ⟨⟨a1, b1, e1⟩, H1, h⟩ := Option.bind_eq_some_iff.mp h; dsimp only at h H1; have A2 := Aside0.mk H1; have H := Aside0.mk h; clear h H1; clear h; obtain ⟨⟨_, q0⟩, q1, q2, q3, q4, q5⟩ := ST.out.now
 go_wp2_with fail
 clear q0 q1 q2 q3 q4 q5
 by_cases he : e1 = 0
 case neg =>
  have h := H.out; rw [if_pos he] at h; obtain rfl := Option.some.inj h; refine (yf _ a1 b1 e1 _ A2.out he).mono ?_; rintro e_ w2 ⟨rfl, hb⟩; have n0_ := Aside0.mk (ST.out.step hb); clear ST; have ST := n0_; exact ⟨rfl, _, ST.out.now.1.1, .inr ⟨he, rfl, _, _, DcI.first HX.out.1 HX.out.2.1 HX.out.2.2 ST.out.now.1.1⟩⟩
 subst he; refine (qK _ a1 b1 _ A2.out).mono ?_; rintro e_ w2 ⟨rfl, hb⟩; have n0_ := Aside0.mk (ST.out.step hb); clear ST; have ST := n0_; clear n0_; clear hb; have h := H.out; rw [if_neg (by simp)] at h; clear H; obtain ⟨⟨cs, ecs⟩, H1, h⟩ := Option.bind_eq_some_iff.mp h; dsimp only at h H1; have A3 := Aside0.mk H1; have H := Aside0.mk h; clear h H1; clear h; obtain ⟨⟨_, q0⟩, q1, q2, q3, q4, q5⟩ := ST.out.now
 go_wp2_with fail
 clear q0 q1 q2 q3 q4 q5; refine (cG.calls k a1 n cs ecs _ A3.out).mono ?_; rintro e_ w3 ⟨v_, rfl, hR, hb⟩; obtain ⟨A_cs, c_cs, e9⟩ := Kd.bu hR; subst e9; have C_cs := Aside0.mk (Kd.av hR).2.1; have F_cs := Aside0.mk (iX.row (Kd.mR hR (aX HX.out.1 ST.out.now.1.1))); clear hR; have n0_ := Aside0.mk (ST.out.step hb); clear ST; have ST := n0_; clear n0_; clear hb
 go_wp2_with fail
 by_cases he : ecs = 0
 case neg =>
  have h := H.out; rw [if_pos he] at h; obtain rfl := Option.some.inj h; refine (qb _ ecs _ he).mono ?_; rintro e_ w_ ⟨rfl, hw⟩; subst hw; exact ⟨rfl, _, ST.out.now.1.1, .inr ⟨he, rfl, _, _, DcI.first HX.out.1 HX.out.2.1 HX.out.2.2 ST.out.now.1.1⟩⟩
 subst he; refine (qa _ _).mono ?_; rintro e_ w_ ⟨rfl, hw⟩; subst hw; have h := H.out; rw [if_neg (by simp)] at h; clear H; obtain ⟨⟨rs, ers⟩, H1, h⟩ := Option.bind_eq_some_iff.mp h; dsimp only at h H1; have A4 := Aside0.mk H1; have H := Aside0.mk h; clear h H1; clear h; obtain ⟨⟨_, q0⟩, q1, q2, q3, q4, q5⟩ := ST.out.now
 go_wp2_with fail
 clear q0 q1 q2 q3 q4 q5; refine (cJ.calls k b1 n rs ers _ A4.out).mono ?_; rintro e_ w4 ⟨v_, rfl, hR, hb⟩; obtain ⟨A_rs, c_rs, e9⟩ := Kd.bu hR; subst e9; have C_rs := Aside0.mk (Kd.av hR).2.1; have F_rs := Aside0.mk (iX.row (Kd.mR hR (aX HX.out.1 ST.out.now.1.1))); clear hR; have n0_ := Aside0.mk (ST.out.step hb); clear ST; have ST := n0_; clear n0_; have n0_ := Aside0.mk (F_cs.out.step hb); clear F_cs; have F_cs := n0_; clear n0_; clear hb
 go_wp2_with fail
 by_cases he : ers = 0
 case neg =>
  have h := H.out; rw [if_pos he] at h; obtain rfl := Option.some.inj h; refine (CH _ ers _ he).mono ?_; rintro e_ w_ ⟨rfl, hw⟩; subst hw; exact ⟨rfl, _, ST.out.now.1.1, .inr ⟨he, rfl, _, _, DcI.first HX.out.1 HX.out.2.1 HX.out.2.2 ST.out.now.1.1⟩⟩
 subst he; refine (CG _ _).mono ?_; rintro e_ w_ ⟨rfl, hw⟩; subst hw; have h := H.out; rw [if_neg (by simp)] at h; clear H; obtain ⟨⟨a2, b2, e2⟩, H1, h⟩ := Option.bind_eq_some_iff.mp h; dsimp only at h H1; have A5 := Aside0.mk H1; have H := Aside0.mk h; clear h H1; clear h; obtain ⟨⟨_, q0⟩, q1, q2, q3, q4, q5⟩ := ST.out.now
 go_wp2_with fail
 clear q0 q1 q2 q3 q4 q5
 by_cases he : e2 = 0
 case neg =>
  have h := H.out; rw [if_pos he] at h; obtain rfl := Option.some.inj h; refine (yf _ a2 b2 e2 _ A5.out he).mono ?_; rintro e_ w5 ⟨rfl, hb⟩; have n0_ := Aside0.mk (ST.out.step hb); clear ST; have ST := n0_; exact ⟨rfl, _, ST.out.now.1.1, .inr ⟨he, rfl, _, _, DcI.first HX.out.1 HX.out.2.1 HX.out.2.2 ST.out.now.1.1⟩⟩
 subst he; refine (qK _ a2 b2 _ A5.out).mono ?_; rintro e_ w5 ⟨rfl, hb⟩; have n0_ := Aside0.mk (ST.out.step hb); clear ST; have ST := n0_; clear n0_; have n0_ := Aside0.mk (F_cs.out.step hb); clear F_cs; have F_cs := n0_; clear n0_; have n0_ := Aside0.mk (F_rs.out.step hb); clear F_rs; have F_rs := n0_; clear n0_; clear hb; have h := H.out; rw [if_neg (by simp)] at h; clear H; obtain ⟨⟨ps, eps⟩, H1, h⟩ := Option.bind_eq_some_iff.mp h; dsimp only at h H1; have A6 := Aside0.mk H1; have H := Aside0.mk h; clear h H1; clear h; obtain ⟨⟨_, q0⟩, q1, q2, q3, q4, q5⟩ := ST.out.now
 go_wp2_with fail
 clear q0 q1 q2 q3 q4 q5; refine (cG.calls k a2 n ps eps _ A6.out).mono ?_; rintro e_ w6 ⟨v_, rfl, hR, hb⟩; obtain ⟨A_ps, c_ps, e9⟩ := Kd.bu hR; subst e9; have C_ps := Aside0.mk (Kd.av hR).2.1; have F_ps := Aside0.mk (iX.row (Kd.mR hR (aX HX.out.1 ST.out.now.1.1))); clear hR; have n0_ := Aside0.mk (ST.out.step hb); clear ST; have ST := n0_; clear n0_; have n0_ := Aside0.mk (F_cs.out.step hb); clear F_cs; have F_cs := n0_; clear n0_; have n0_ := Aside0.mk (F_rs.out.step hb); clear F_rs; have F_rs := n0_; clear n0_; clear hb
 go_wp2_with fail
 by_cases he : eps = 0
 case neg =>
  have h := H.out; rw [if_pos he] at h; obtain rfl := Option.some.inj h; refine (qb _ eps _ he).mono ?_; rintro e_ w_ ⟨rfl, hw⟩; subst hw; exact ⟨rfl, _, ST.out.now.1.1, .inr ⟨he, rfl, _, _, DcI.first HX.out.1 HX.out.2.1 HX.out.2.2 ST.out.now.1.1⟩⟩
 subst he; refine (qa _ _).mono ?_; rintro e_ w_ ⟨rfl, hw⟩; subst hw; have h := H.out; rw [if_neg (by simp)] at h; clear H; obtain ⟨⟨ks, eks⟩, H1, h⟩ := Option.bind_eq_some_iff.mp h; dsimp only at h H1; have A7 := Aside0.mk H1; have H := Aside0.mk h; clear h H1; clear h; obtain ⟨⟨_, q0⟩, q1, q2, q3, q4, q5⟩ := ST.out.now
 go_wp2_with fail
 clear q0 q1 q2 q3 q4 q5; refine (cG.calls k b2 n ks eks _ A7.out).mono ?_; rintro e_ w7 ⟨v_, rfl, hR, hb⟩; obtain ⟨A_ks, c_ks, e9⟩ := Kd.bu hR; subst e9; have C_ks := Aside0.mk (Kd.av hR).2.1; have F_ks := Aside0.mk (iX.row (Kd.mR hR (aX HX.out.1 ST.out.now.1.1))); clear hR; have n0_ := Aside0.mk (ST.out.step hb); clear ST; have ST := n0_; clear n0_; have n0_ := Aside0.mk (F_cs.out.step hb); clear F_cs; have F_cs := n0_; clear n0_; have n0_ := Aside0.mk (F_rs.out.step hb); clear F_rs; have F_rs := n0_; clear n0_; have n0_ := Aside0.mk (F_ps.out.step hb); clear F_ps; have F_ps := n0_; clear n0_; clear hb
 go_wp2_with fail
 by_cases he : eks = 0
 case neg =>
  have h := H.out; rw [if_pos he] at h; obtain rfl := Option.some.inj h; refine (qb _ eks _ he).mono ?_; rintro e_ w_ ⟨rfl, hw⟩; subst hw; exact ⟨rfl, _, ST.out.now.1.1, .inr ⟨he, rfl, _, _, DcI.first HX.out.1 HX.out.2.1 HX.out.2.2 ST.out.now.1.1⟩⟩
 subst he; refine (qa _ _).mono ?_; rintro e_ w_ ⟨rfl, hw⟩; subst hw; have h := H.out; rw [if_neg (by simp)] at h; clear H; obtain ⟨⟨ns, ens⟩, H1, h⟩ := Option.bind_eq_some_iff.mp h; dsimp only at h H1; have A8 := Aside0.mk H1; have H := Aside0.mk h; clear h H1; clear h; obtain ⟨⟨_, q0⟩, q1, q2, q3, q4, q5⟩ := ST.out.now
 go_wp2_with fail
 clear q0 q1 q2 q3 q4 q5; refine (dS.calls k _ n 64 ns ens _ A8.out).mono ?_; rintro e_ w8 ⟨v_, rfl, hR, hb⟩; obtain ⟨A_ns, c_ns, e9⟩ := Kd.bu hR; subst e9; have C_ns := Aside0.mk (Kd.av hR).2.1; have F_ns := Aside0.mk (iX.row (Kd.mR hR (aX HX.out.1 ST.out.now.1.1))); clear hR; have n0_ := Aside0.mk (ST.out.step hb); clear ST; have ST := n0_; clear n0_; have n0_ := Aside0.mk (F_cs.out.step hb); clear F_cs; have F_cs := n0_; clear n0_; have n0_ := Aside0.mk (F_rs.out.step hb); clear F_rs; have F_rs := n0_; clear n0_; have n0_ := Aside0.mk (F_ps.out.step hb); clear F_ps; have F_ps := n0_; clear n0_; have n0_ := Aside0.mk (F_ks.out.step hb); clear F_ks; have F_ks := n0_; clear n0_; clear hb
 go_wp2_with fail
 by_cases he : ens = 0
 case neg =>
  have h := H.out; rw [if_pos he] at h; obtain rfl := Option.some.inj h; refine (CJ _ ens _ he).mono ?_; rintro e_ w_ ⟨rfl, hw⟩; subst hw; exact ⟨rfl, _, ST.out.now.1.1, .inr ⟨he, rfl, _, _, DcI.first HX.out.1 HX.out.2.1 HX.out.2.2 ST.out.now.1.1⟩⟩
 subst he; refine (CI _ _).mono ?_; rintro e_ w_ ⟨rfl, hw⟩; subst hw; have h := H.out; rw [if_neg (by simp)] at h; clear H; obtain ⟨⟨fs, efs⟩, H1, h⟩ := Option.bind_eq_some_iff.mp h; dsimp only at h H1; have A9 := Aside0.mk H1; have H := Aside0.mk h; clear h H1; clear h; obtain ⟨⟨_, q0⟩, q1, q2, q3, q4, q5⟩ := ST.out.now
 go_wp2_with fail
 clear q0 q1 q2 q3 q4 q5; refine (bI.calls k _ n fs efs _ A9.out).mono ?_; rintro e_ w9 ⟨v_, rfl, hR, hb⟩; obtain ⟨A_fs, c_fs, e9⟩ := Kd.bu hR; subst e9; have C_fs := Aside0.mk (Kd.av hR).2.1; have F_fs := Aside0.mk (iX.row (Kd.mR hR (aX HX.out.1 ST.out.now.1.1))); clear hR; have n0_ := Aside0.mk (ST.out.step hb); clear ST; have ST := n0_; clear n0_; have n0_ := Aside0.mk (F_cs.out.step hb); clear F_cs; have F_cs := n0_; clear n0_; have n0_ := Aside0.mk (F_rs.out.step hb); clear F_rs; have F_rs := n0_; clear n0_; have n0_ := Aside0.mk (F_ps.out.step hb); clear F_ps; have F_ps := n0_; clear n0_; have n0_ := Aside0.mk (F_ks.out.step hb); clear F_ks; have F_ks := n0_; clear n0_; have n0_ := Aside0.mk (F_ns.out.step hb); clear F_ns; have F_ns := n0_; clear n0_; clear hb
 go_wp2_with fail
 by_cases he : efs = 0
 case neg =>
  have h := H.out; rw [if_pos he] at h; obtain rfl := Option.some.inj h; refine (uQ _ efs _ he).mono ?_; rintro e_ w_ ⟨rfl, hw⟩; subst hw; exact ⟨rfl, _, ST.out.now.1.1, .inr ⟨he, rfl, _, _, DcI.first HX.out.1 HX.out.2.1 HX.out.2.2 ST.out.now.1.1⟩⟩
 subst he; refine (uP _ _).mono ?_; rintro e_ W0 ⟨rfl, hw⟩; subst hw; have h := H.out; rw [if_neg (by simp)] at h; clear H; have h9 := h; clear h; unfold mF.rows at h9
 by_cases hn : n ≤ 2000
 case neg => rw [if_neg hn] at h9; exact absurd h9 (by simp)
 rw [if_pos hn] at h9; obtain ⟨o, HO, h9⟩ := Option.bind_eq_some_iff.mp h9; have H := Aside0.mk HO; have HE := Aside0.mk h9; have HN := Aside0.mk hn; have F1 := Aside0.mk F_cs.out.now; have F2 := Aside0.mk F_rs.out.now; have F3 := Aside0.mk F_ps.out.now; have F4 := Aside0.mk F_ks.out.now; have F5 := Aside0.mk F_ns.out.now; have F6 := Aside0.mk F_fs.out.now; have HZ := Aside0.mk ST.out.now.1.1; have T := Aside0.mk (DcI.first HX.out.1 HX.out.2.1 HX.out.2.2 HZ.out); have INF := Aside0.mk (show (Tryz.prog.info? 51).map (·.size) = some 6 by kernel_rfl); clear HO h9 hn F_cs F_rs F_ps F_ks F_ns F_fs ST
 go_wp2_with fail
 go_loopg [77] (n.toNat + 1) (fun kq v77 w' => ∃ (i : Nat) (acc : List S51) (v : Value), v77 = .int .i64 (i : Int) ∧ Aside0 (kq + i = n.toNat + 1 ∧ i ≤ n.toNat) ∧ Aside0 (Ac.g cs rs ps ks ns fs (n.toNat - i) i acc = some o) ∧ Aside0 (DcI w0 W0 pl v acc w') ∧ Aside0 (acc.length = i))
 case atStart => exact ⟨0, [], .slice none 0 0, rfl, ⟨by omega⟩, H, T, ⟨rfl⟩⟩
 case round =>
  clear T H; obtain ⟨i, acc, v, rfl, HK, H, T, HL⟩ := hrel; have hk9 := HK.out; have hn9 := HN.out
  cases gk with
  | zero => omega
  | succ k1 =>
   by_cases hi : i < n.toNat
   ·
    have d1 : decide ((i : Int) < n) = true := decide_eq_true (by omega); have hl9 : acc.length ≤ 2000 := by have := HL.out; omega
    have hG := H.out; rw [show n.toNat - i = (n.toNat - (i + 1)) + 1 by omega] at hG; simp only [Ac.g] at hG
    by_cases hall : i < cs.length ∧ i < rs.length ∧ i < ps.length ∧ i < ks.length ∧ i < ns.length ∧ i < fs.length
    case neg => rw [if_neg hall] at hG; exact absurd hG (by simp)
    rw [if_pos hall] at hG; obtain ⟨l1, l2, l3, l4, l5, l6⟩ := hall; have p0 : (0 : Int) ≤ (i : Int) := by omega
    have q1 : (i : Int) < (cs.length : Int) := by omega
    have q2 : (i : Int) < (rs.length : Int) := by omega
    have q3 : (i : Int) < (ps.length : Int) := by omega
    have q4 : (i : Int) < (ks.length : Int) := by omega
    have q5 : (i : Int) < (ns.length : Int) := by omega
    have q6 : (i : Int) < (fs.length : Int) := by omega
    obtain ⟨ad1, e1, x1⟩ := Kd.jE (T.out.F F1.out) (i : Int) p0 q1; obtain ⟨ad2, e2, x2⟩ := Kd.jE (T.out.F F2.out) (i : Int) p0 q2; obtain ⟨ad3, e3, x3⟩ := Kd.jE (T.out.F F3.out) (i : Int) p0 q3; obtain ⟨ad4, e4, x4⟩ := Kd.jE (T.out.F F4.out) (i : Int) p0 q4; obtain ⟨ad5, e5, x5⟩ := Kd.nZ (T.out.F F5.out) (i : Int) p0 q5; obtain ⟨ad6, b6, e6, x6, z6⟩ := AU (T.out.F F6.out) (i : Int) p0 q6; simp only [rd, fW, Int.toNat_natCast] at x1 x2 x3 x4 x5 x6 z6; have hem : (ByteArray.empty : ByteArray) = ⟨#[]⟩ := rfl; rw [hem] at x5; subst e1 e2 e3 e4 e5 e6; generalize cs.getD i 0 = xc at x1 hG; generalize rs.getD i 0 = xr at x2 hG; generalize ps.getD i 0 = xp at x3 hG; generalize ks.getD i 0 = xk at x4 hG; generalize ns.getD i ⟨#[]⟩ = xn at x5 hG; generalize fs.getD i 0 = xf at x6 z6 hG; obtain ⟨one, H5, hG⟩ := Option.bind_eq_some_iff.mp hG; have A10 := Aside0.mk H5; have H := Aside0.mk hG; have Q6 := Aside0.mk z6; replace p0 := eq_true p0; replace q1 := eq_true q1; replace q2 := eq_true q2; replace q3 := eq_true q3; replace q4 := eq_true q4; replace q5 := eq_true q5; replace q6 := eq_true q6; clear hG H5 z6 hem l1 l2 l3 l4 l5 l6; have hu1 := Tryz.underlying51; have hu2 := Tryz.underlying48
    go_wp2
    refine iZ (n := 29) (S := fun w' => w'.cell? (ad1.add i) = some (.int .i64 xc) ∧ w'.cell? (ad2.add i) = some (.int .u64 xr) ∧ w'.cell? (ad3.add i) = some (.int .i64 xp) ∧ w'.cell? (ad4.add i) = some (.int .i64 xk) ∧ w'.cell? (ad5.add i) = some (.string xn) ∧ w'.cell? (ad6.add i) = some (.float .f64 b6)) (ds := []) (dn 29 0) (by kernel_rfl) rfl (by kernel_rfl) ⟨x1, x2, x3, x4, x5, x6⟩ (fun hHeld => ?_); refine gR oDc.D8 oDc.Be (fun HT_ HW_ => ?_); refine pz 0 80 (dn 29 1) rfl rfl HT_ ?_; refine pz 1 81 (dn 29 3) rfl rfl HT_ ?_; refine pz 2 82 (dn 29 7) rfl rfl HT_ ?_; refine pz 4 84 (dn 29 23) rfl rfl HT_ ?_; refine pz 5 85 (dn 29 55) rfl rfl HT_ ?_; refine pz 6 86 (dn 29 119) rfl rfl HT_ ?_; refine pz 10 90 (dn 29 1143) rfl rfl HT_ ?_; refine pz 11 91 (dn 29 3191) rfl rfl HT_ ?_; refine pz 12 92 (dn 29 7287) rfl rfl HT_ ?_; refine pz 14 94 (dn 29 23671) rfl rfl HT_ ?_; refine pz 15 95 (dn 29 56439) rfl rfl HT_ ?_; refine pz 16 96 (dn 29 121975) rfl rfl HT_ ?_; refine pz 18 98 (dn 29 384119) rfl rfl HT_ ?_; refine pz 19 99 (dn 29 908407) rfl rfl HT_ ?_; refine pz 20 100 (dn 29 1956983) rfl rfl HT_ ?_; refine pz 22 102 (dn 29 6151287) rfl rfl HT_ ?_; refine pz 23 103 (dn 29 14539895) rfl rfl HT_ ?_; refine pz 24 104 (dn 29 31317111) rfl rfl HT_ ?_; refine fY (i := 3) (N := some 83) (v := ?_) (a' := ?_) (dn 29 31317119) rfl rfl (dN HT_.out HW_.out (by kernel_rfl)) (fun _ _ _ h => h) (Or.inl ⟨by rfl, ?_⟩) hHeld ?_ ?_; rotate_left
    ·
     rintro w' ⟨s0, s1, s2, s3, s4, s5⟩
     go_simp
     with_reducible rfl
    rotate_left
    ·
     simp only [Act.put, List.setIfInBounds_toArray, List.set_cons_zero, List.set_cons_succ, bN, bR]
     rfl
    refine fY (i := 7) (N := some 87) (v := ?_) (a' := ?_) (dn 29 31317247) rfl rfl (dN HT_.out HW_.out (by kernel_rfl)) (fun _ _ _ h => h) (Or.inl ⟨by rfl, ?_⟩) hHeld ?_ ?_; rotate_left
    ·
     rintro w' ⟨s0, s1, s2, s3, s4, s5⟩
     go_simp
     with_reducible rfl
    rotate_left
    ·
     simp only [Act.put, List.setIfInBounds_toArray, List.set_cons_zero, List.set_cons_succ, bN, bR]
     rfl
    refine pz 8 88 (dn 29 31317503) rfl rfl HT_ ?_; refine pz 9 89 (dn 29 31318015) rfl rfl HT_ ?_; refine fY (i := 13) (N := some 93) (v := ?_) (a' := ?_) (dn 29 31326207) rfl rfl (dN HT_.out HW_.out (by kernel_rfl)) (fun _ _ _ h => h) (Or.inl ⟨by rfl, ?_⟩) hHeld ?_ ?_; rotate_left
    ·
     rintro w' ⟨s0, s1, s2, s3, s4, s5⟩
     go_simp
     with_reducible rfl
    rotate_left
    ·
     simp only [Act.put, List.setIfInBounds_toArray, List.set_cons_zero, List.set_cons_succ, bN, bR]
     rfl
    refine fY (i := 17) (N := some 97) (v := ?_) (a' := ?_) (dn 29 31457279) rfl rfl (dN HT_.out HW_.out (by kernel_rfl)) (fun _ _ _ h => h) (Or.inl ⟨by rfl, ?_⟩) hHeld ?_ ?_; rotate_left
    ·
     rintro w' ⟨s0, s1, s2, s3, s4, s5⟩
     go_simp
     with_reducible rfl
    rotate_left
    ·
     simp only [Act.put, List.setIfInBounds_toArray, List.set_cons_zero, List.set_cons_succ, bN, bR]
     rfl
    refine fY (i := 21) (N := some 101) (v := ?_) (a' := ?_) (dn 29 33554431) rfl rfl (dN HT_.out HW_.out (by kernel_rfl)) (fun _ _ _ h => h) (Or.inl ⟨by rfl, ?_⟩) hHeld ?_ ?_; rotate_left
    ·
     rintro w' ⟨s0, s1, s2, s3, s4, s5⟩
     go_simp
     with_reducible rfl
    rotate_left
    ·
     simp only [Act.put, List.setIfInBounds_toArray, List.set_cons_zero, List.set_cons_succ, bN, bR]
     rfl
    refine fY (i := 25) (N := some 105) (v := ?_) (a' := ?_) (dn 29 67108863) rfl rfl (dN HT_.out HW_.out (by kernel_rfl)) (fun _ _ _ h => h) (Or.inl ⟨by rfl, ?_⟩) hHeld ?_ ?_; rotate_left
    ·
     rintro w' ⟨s0, s1, s2, s3, s4, s5⟩
     go_simp
     with_reducible rfl
    rotate_left
    ·
     simp only [Act.put, List.setIfInBounds_toArray, List.set_cons_zero, List.set_cons_succ, bN, bR]
     rfl
    refine pz 26 106 (dn 29 134217727) rfl rfl HT_ ?_; refine iB (i := 27) (N := some 12) (dn 29 268435455) rfl rfl (fP HT_.out (by kernel_rfl)) (by decide) (fun K hK => ?_); refine CL (by kernel_rfl) rfl (v := .pointer (some ⟨wr.drew.heap.size, 0, none⟩)) (w1 := wr.drew.alloc (.cells #[.int .i64 0, .int .i64 0, .int .i64 0, .int .i64 0, .string ⟨#[]⟩, .float .f64 0] 51)) (by first | kernel_rfl | rfl) ?_; have ba := aH (Below.refl wr.drew.heap.size wr.drew) (.cells #[.int .i64 0, .int .i64 0, .int .i64 0, .int .i64 0, .string ⟨#[]⟩, .float .f64 0] 51); refine hK.out _ _ ⟨dI ba hHeld.1, dI ba hHeld.2.1, dI ba hHeld.2.2.1, dI ba hHeld.2.2.2.1, dI ba hHeld.2.2.2.2.1, dI ba hHeld.2.2.2.2.2⟩ (fun hHeld2 => ?_); clear hK K; refine dH (a' := ?_) ?_ ?_; rotate_left
    ·
     show Act.put _ (some 12) _ = _; simp only [Act.put, List.setIfInBounds_toArray, List.set_cons_zero, List.set_cons_succ, bN, bR]
     rfl
    refine iB (i := 28) (N := none) (dn 29 536870911) rfl rfl (fP HT_.out (by kernel_rfl)) (by decide) (fun K hK => ?_); refine E2 (w1 := World.setRow (wr.drew.alloc (.cells #[.int .i64 0, .int .i64 0, .int .i64 0, .int .i64 0, .string ⟨#[]⟩, .float .f64 0] 51)) wr.drew.heap.size #[.int .i64 xc, .int .i64 (wrap64 xr), .int .i64 xp, .int .i64 xk, .string xn, .float .f64 b6]) (by kernel_rfl) rfl (pL (c' := #[.int .i64 xc, .int .i64 (wrap64 xr), .int .i64 xp, .int .i64 xk, .string xn, .float .f64 b6]) rfl rfl rfl (eJ _ _) INF.out rfl (by first | kernel_rfl | simp [Value.oneCell'])) ?_; rw [World.setRow_alloc_new]; have bc := aH (Below.refl wr.drew.heap.size wr.drew) (.cells #[.int .i64 xc, .int .i64 (wrap64 xr), .int .i64 xp, .int .i64 xk, .string xn, .float .f64 b6] 51); refine hK.out _ _ ⟨dI bc hHeld.1, dI bc hHeld.2.1, dI bc hHeld.2.2.1, dI bc hHeld.2.2.2.1, dI bc hHeld.2.2.2.2.1, dI bc hHeld.2.2.2.2.2⟩ (fun hHeld2 => ?_); clear hK K; refine dH (a' := ?_) ?_ ?_; rotate_left
    ·
     show Act.put _ (none) _ = _; simp only [Act.put, List.setIfInBounds_toArray, List.set_cons_zero, List.set_cons_succ, bN, bR]
     rfl
    refine jF (iS HT_.out (by kernel_rfl)) ?_; clear hHeld2; clear hHeld2; clear bc ba hHeld; have hb8 : Below wr.heap.size wr (wr.drew.alloc (.cells #[.int .i64 xc, .int .i64 (wrap64 xr), .int .i64 xp, .int .i64 xk, .string xn, .float .f64 b6] 51)) := aH (bw (Below.refl _ _)) _; have BK0 := eJ wr.drew (.cells #[.int .i64 xc, .int .i64 (wrap64 xr), .int .i64 xp, .int .i64 xk, .string xn, .float .f64 b6] 51); generalize wr.drew.heap.size = gm at BK0 ⊢; generalize wr.drew.alloc (.cells #[.int .i64 xc, .int .i64 (wrap64 xr), .int .i64 xp, .int .i64 xk, .string xn, .float .f64 b6] 51) = w8 at hb8 BK0 ⊢; have n0_ := Aside0.mk (T.out.below hb8); clear T hb8 x1 x2 x3 x4 x5 x6; have T := n0_; have BK := Aside0.mk BK0; clear n0_ BK0; have m0 := (af BK.out 0).trans rfl; have m1 := (af BK.out 1).trans rfl; have m2 := (af BK.out 2).trans rfl; have m3 := (af BK.out 3).trans rfl; have m4 := (af BK.out 4).trans rfl; have m5 := (af BK.out 5).trans rfl
    go_wp2_with fail
    refine (jH.calls xc (wrap64 xr) xp xk xn b6 xf one _ Q6.out A10.out).mono ?_; rintro e_ w9 ⟨rfl, hb⟩; have n0_ := Aside0.mk (T.out.below hb); have n1_ := Aside0.mk (aX BK.out hb); clear T BK hb m0 m1 m2 m3 m4 m5; have T := n0_; have BK := n1_; clear n0_ n1_
    cases one with
    | false =>
     have hr := H.out; rw [if_pos rfl] at hr; obtain rfl := Option.some.inj hr; obtain rfl : ([], 5) = r := by simpa using HE.out
     clear hr H HE
     go_wp2_with fail
     refine (jy 5 _ (by decide)).mono ?_; rintro e_ w6 ⟨rfl, hw6⟩; subst hw6; exact ⟨rfl, W0, HZ.out, .inr ⟨by decide, rfl, _, _, T.out⟩⟩
    | true =>
     have hr := H.out; rw [if_neg (by decide)] at hr; have H := Aside0.mk hr; clear hr; have hc0 : w9.cell? ⟨pl, 0, none⟩ = some v := (af T.out.L 0).trans rfl; have m0 := (af BK.out 0).trans rfl; have m1 := (af BK.out 1).trans rfl; have m2 := (af BK.out 2).trans rfl; have m3 := (af BK.out 3).trans rfl; have m4 := (af BK.out 4).trans rfl; have m5 := (af BK.out 5).trans rfl
     go_wp2_with ((with_reducible refine eB (b := .append) (xs := #[.tmp 111, .tmp 113]) rfl ?_); at_builtin; refine Kd.gQ k51 (w0 := w0) w0.heap.size rfl (.tmp 111) (.tmp 113) 22 51 (.agg #[(.int .i64 0), (.int .i64 0), (.int .i64 0), (.int .i64 0), (.string ⟨#[]⟩), (.float .f64 0)]) 56 rfl Tryz.underlying22 LD rfl (by decide) (by omega) v acc (⟨⟨xc, wrap64 xr⟩, xp, xk, xn, xf⟩ : S51) [.int .i64 xc, .int .i64 (wrap64 xr), .int .i64 xp, .int .i64 xk, .string xn, .float .f64 b6] (fun k => W0.heap.size ≤ k) (fun _ => False) rfl rfl ?aP (fun _ hk => hk.elim) ?aF ?aO ?aB ?aS ?aL ?_; (case aP => exact qp _ _ _ (⟨⟨xc, wrap64 xr⟩, xp, xk, xn, xf⟩ : S51) Q6.out); (case aB => exact T.out.B); (case aF => intro k hk; exact Nat.le_trans T.out.K.1 hk); (case aO => exact T.out.R); (case aS => exact T.out.B.size); (case aL => omega); intro v1_ w10 ho hb hg hat; obtain ⟨A9, c9, e9⟩ := Kd.bu ho; subst e9; have hL9 := eL T.out.L hg (Kd.nY T.out.R (fun k hk => by have := T.out.z; omega)); have hc9 : w10.cell? ⟨pl, 0, none⟩ = some v := (af hL9 0).trans rfl; have hf9 := aj hL9 0; have n0_ := Aside0.mk (T.out.app hg hb ho); clear T BK ho hb hg hat hL9 hc0 m0 m1 m2 m3 m4 m5; have T := n0_; clear n0_)
     go_roundg k1
     case measure => have := HK.out; omega
     case rel => exact ⟨i + 1, acc ++ [⟨⟨xc, wrap64 xr⟩, xp, xk, xn, xf⟩], _, by first | rfl | simp | (simp [wrap64]; omega), ⟨by have := HK.out; omega⟩, H, ⟨by have h := T.out; rw [show (acc ++ [(⟨⟨xc, wrap64 xr⟩, xp, xk, xn, xf⟩ : S51)]).length = acc.length + 1 by simp] at h; exact h⟩, ⟨by have := HL.out; simp; omega⟩⟩
   ·
    have d1 : decide ((i : Int) < n) = false := decide_eq_false (by omega); have hG := H.out; rw [show n.toNat - i = 0 by have := HK.out; omega] at hG; obtain rfl := Option.some.inj hG; have he := HE.out; rw [if_neg (by simp)] at he; obtain ⟨m, H6, he⟩ := Option.bind_eq_some_iff.mp he; obtain ⟨A9, c9, e9⟩ := Kd.bu T.out.R; subst e9; have hc0 : wr.cell? ⟨pl, 0, none⟩ = some (.slice A9 acc.length c9) := (af T.out.L 0).trans rfl; have A11 := Aside0.mk H6; have H := Aside0.mk he; clear hG H6 he HE; clear he
    go_wp2_with fail
    refine (cm.calls k A9 c9 acc m _ (Kd.av T.out.R).2.2 (Kd.av T.out.R).2.1 A11.out).mono ?_; rintro e_ w9 ⟨rfl, hb⟩; have n0_ := Aside0.mk (T.out.below hb); clear T hb hc0; have T := n0_; clear n0_
    cases m with
    | false =>
     have he := H.out; rw [if_pos rfl] at he; obtain rfl := Option.some.inj he; clear he H
     go_wp2_with fail
     refine (jy 12 _ (by decide)).mono ?_; rintro e_ w6 ⟨rfl, hw6⟩; subst hw6; exact ⟨rfl, W0, HZ.out, .inr ⟨by decide, rfl, _, _, T.out⟩⟩
    | true =>
     have he := H.out; rw [if_neg (by decide)] at he; obtain rfl := Option.some.inj he; clear he H
     go_wp2_with fail
     go_end0
     exact ⟨W0, HZ.out, .inl ⟨rfl, rfl, _, T.out⟩⟩
theorem Iq {k : Nat} {l : List S53} {i : Nat} (hl : l.length = 5) (hi : i < 5) (h : (cE l (i : Int)).f0 ≠ 4 + (i : Int)) : dG.f k l = some ([], 5) := by
  match l, hl with
  | [d0, d1, d2, d3, d4], _ =>
    simp only [dG.f]
    rw [if_neg]
    rintro ⟨e0, e1, e2, e3, e4⟩
    match i, hi with
    | 0, _ => exact h (by simp [cE, e0])
    | 1, _ => exact h (by simp [cE, e1])
    | 2, _ => exact h (by simp [cE, e2])
    | 3, _ => exact h (by simp [cE, e3])
    | 4, _ => exact h (by simp [cE, e4])
theorem Ir {k : Nat} {l : List S53} (hl : l.length ≠ 5) : dG.f k l = some ([], 5) := by
 unfold dG.f
 split
 · exact absurd rfl hl
 · rfl
theorem Gc {k : Nat} {l : List S53} (hl : l.length = 5) (h : ∀ i : Nat, i < 5 → (cE l (i : Int)).f0 = 4 + (i : Int)) : ∃ d0 d1 d2 d3 d4, l = [d0, d1, d2, d3, d4] ∧ dG.f k l = (mF.f k d0.f1 d1.f1 d2.f1 d3.f1 d4.f1).bind fun r => if r.2 ≠ 0 then some ([], r.2) else some (r.1, 0) := by
  match l, hl with
  | [d0, d1, d2, d3, d4], _ =>
    refine ⟨d0, d1, d2, d3, d4, rfl, ?_⟩
    simp only [dG.f]
    have e0 : d0.f0 = 4 := h 0 (by decide)
    have e1 : d1.f0 = 5 := h 1 (by decide)
    have e2 : d2.f0 = 6 := h 2 (by decide)
    have e3 : d3.f0 = 7 := h 3 (by decide)
    have e4 : d4.f0 = 8 := h 4 (by decide)
    rw [if_pos ⟨e0, e1, e2, e3, e4⟩]
theorem De (args : Array Value) (W : World) : (callFunc 55 args).run Tryz.prog W = .ok (.enter 55 args) W := by
 simp [go_sem, Tryz.func55]
set_option maxHeartbeats 8000000 in
set_option maxRecDepth 100000 in
theorem dG.calls (k : Nat) (A0 : Option Addr) (c0 : Nat) (l0 : List S53) (r1 : List S51) (r2 : Int) (w : World) (hr0 : Kd.C k53 w A0 l0.length l0) (hc0 : l0.length ≤ c0) (h : dG.f k l0 = some (r1, r2)) :
    Calls Tryz.prog 21 #[.slice A0 l0.length c0] w fun e w' => ∃ v0_ : Value, e = .returned (.tuple #[v0_, .int .i64 r2]) ∧ Kd.R k51 51 w' w.heap.size (fun _ => True) v0_ r1 ∧ Below w.heap.size w w' := by
  have hmf : ∀ (fn : Fn) (first cap : Array Value) (w : World), (Instr.makeFunc fn first cap).run Tryz.prog w = .ok (.func fn first cap) w := fun _ _ _ _ => rfl
  have HB := Aside0.mk (aH (Below.refl w.heap.size w) (.cells #[.slice A0 l0.length c0] 26))
  have HS := Aside0.mk (eJ w (.cells #[.slice A0 l0.length c0] 26))
  have HC := Aside0.mk hr0
  by_cases hlen : l0.length = 5
  case neg =>
    rw [Ir hlen] at h
    obtain ⟨rfl, rfl⟩ := by simpa using h
    have d1 : ((l0.length : Int) != 5) = true := bne_iff_ne.mpr (by omega)
    have d2 : ((l0.length : Int) == 5) = false := beq_eq_false_iff_ne.mpr (by omega)
    clear h hr0 hc0 hlen
    go_enter Tryz.func21, Tryz.ntmps21
    go_wp2_with fail
    go_ret2
    exact ⟨_, rfl, Kd.iE _ _ _ _ _, HB.out⟩
  have HL := Aside0.mk hlen
  have H := Aside0.mk h
  have HQ := Aside0.mk hc0
  clear h hr0 hc0
  rw [hlen] at HB HS HC ⊢
  clear hlen
  go_enter Tryz.func21, Tryz.ntmps21
  go_wp2_with fail
  go_loopg [13] 6 (fun kq v13 w' => ∃ (i : Nat), v13 = .int .i64 (i : Int) ∧ Aside0 (kq + i = 6 ∧ i ≤ 5) ∧ Aside0 (∀ j : Nat, j < i → (cE l0 (j : Int)).f0 = 4 + (j : Int)) ∧ Aside0 (Below w.heap.size w w') ∧ Aside0 (w'.heap[w.heap.size]? = some (.cells #[.slice A0 5 c0] 26 (0, 0))))
  case atStart => exact ⟨0, rfl, ⟨by omega⟩, ⟨fun j hj => absurd hj (by omega)⟩, HB, HS⟩
  case round =>
    clear HB HS
    obtain ⟨i, rfl, HK, HJ, HB, HS⟩ := hrel
    have hk9 := HK.out
    cases gk with
    | zero => omega
    | succ k1 =>
      by_cases hi : i < 5
      · have d1 : decide ((i : Int) < 5) = true := decide_eq_true (by omega)
        have p0 : (0 : Int) ≤ (i : Int) := by omega
        have q0 : (i : Int) < ((5 : Nat) : Int) := by omega
        obtain ⟨ad, e0, x0, x1⟩ := jU (Kd.fc HC.out HB.out) (i : Int) p0 q0
        rw [Int.toNat_natCast] at x0 x1
        subst e0
        generalize hkd : cE l0 (i : Int) = kd at x0 x1
        have KD := Aside0.mk hkd
        have hw4 : wrap64 (4 + (i : Int)) = 4 + (i : Int) := by simp [wrap64]; omega
        replace p0 := eq_true p0
        replace q0 := eq_true (show (i : Int) < 5 by omega)
        clear hkd
        by_cases he : kd.f0 = 4 + (i : Int)
        · have d2 : (kd.f0 != 4 + (i : Int)) = false := by rw [he]; simp
          have HE := Aside0.mk he
          clear he
          go_wp2_with fail
          go_roundg k1
          case measure => have := HK.out; omega
          case rel => exact ⟨i + 1, by first | rfl | simp | (simp [wrap64]; omega), ⟨by have := HK.out; omega⟩, ⟨fun j hj => by
            by_cases hji : j = i
            · subst hji; rw [KD.out]; exact HE.out
            · exact HJ.out j (by omega)⟩, ⟨aH HB.out _⟩, ⟨bx HS.out _⟩⟩
        · have d2 : (kd.f0 != 4 + (i : Int)) = true := bne_iff_ne.mpr he
          have d3 : (kd.f0 == 4 + (i : Int)) = false := beq_eq_false_iff_ne.mpr he
          have h := H.out
          rw [Iq HL.out hi (by rw [KD.out]; exact he)] at h
          obtain ⟨rfl, rfl⟩ := by simpa using h
          clear h H he
          go_wp2_with fail
          go_ret2
          exact ⟨_, rfl, Kd.iE _ _ _ _ _, aH HB.out _⟩
      · have d1 : decide ((i : Int) < 5) = false := decide_eq_false (by omega)
        have hi5 : i = 5 := by have := HK.out; omega
        subst hi5
        obtain ⟨d0, d1_, d2, d3, d4, rfl, hf⟩ := Gc (k := k) HL.out HJ.out
        have h := H.out
        rw [hf] at h
        obtain ⟨r, H1, h⟩ := Option.bind_eq_some_iff.mp h
        clear H hf
        have hws : w.heap.size ≤ wr.heap.size := HB.out.size
        obtain ⟨wg, hwg⟩ : ∃ X, X = wr.alloc (.cells #[.slice none 0 0] 22) := ⟨_, rfl⟩
        have hzg : wg.heap.size = wr.heap.size + 1 := by rw [hwg]; simp
        have hs : wg.heap[w.heap.size]? = some (.cells #[.slice A0 5 c0] 26 (0, 0)) := by rw [hwg]; exact bx HS.out _
        have hl : wg.heap[wr.heap.size]? = some (.cells #[.slice none 0 0] 22 (0, 0)) := by rw [hwg]; exact eJ wr _
        have hBg : Below w.heap.size w wg := by rw [hwg]; exact aH HB.out _
        have hCg := Kd.fc HC.out (aH hBg (.cells #[.int .i64 0] 27))
        have HCc := mF.calls k A0 c0 d0 d1_ d2 d3 d4 r w.heap.size wr.heap.size w (wg.alloc (.cells #[.int .i64 0] 27)) (bx hs _) hCg (bx hl _) (aH hBg _) hws H1
        have hpe : ∀ W0 v l w', Below (wg.alloc (.cells #[.int .i64 0] 27)).heap.size (wg.alloc (.cells #[.int .i64 0] 27)) W0 → DcI w W0 wr.heap.size v l w' → w'.heap[wg.heap.size]? = some (.cells #[.int .i64 0] 27 (0, 0)) ∧ wg.heap.size < W0.heap.size := fun W0 v l w' hb hT => by
          have h1 := aX (eJ wg (.cells #[.int .i64 0] 27)) hb
          have h2 := cY h1
          exact ⟨(hT.K.2 _ h2 (by omega) (by simp)).trans h1, h2⟩
        by_cases he : r.2 = 0
        · rw [if_neg (fun h => h he)] at h
          obtain ⟨rfl, rfl⟩ := by simpa using h
          have G := wF 55 #[.pointer (some ⟨w.heap.size, 0, none⟩), .pointer (some ⟨wr.heap.size, 0, none⟩)] wg (fun w' => ∃ W0 v, Below (wg.alloc (.cells #[.int .i64 0] 27)).heap.size (wg.alloc (.cells #[.int .i64 0] 27)) W0 ∧ DcI w W0 wr.heap.size v r.1 w')
            (HCc.mono fun e w' ⟨W0, hb, hE⟩ => by
              rcases hE with ⟨_, rfl, v, hT⟩ | ⟨hne, _⟩
              · exact ⟨rfl, W0, v, hb, hT⟩
              · exact absurd he hne) (De _) (fun w' ⟨W0, v, hb, hT⟩ => (hpe W0 v _ w' hb hT).1)
          have G' := Aside0.mk G
          have HP := Aside0.mk hpe
          have HZ := Aside0.mk hzg
          have HWS := Aside0.mk hws
          clear G HCc hs hl hBg hCg h H1 hpe hzg he hws
          have HW := Aside0.mk hwg
          clear hwg
          go_wp2_with fail
          rw [← HW.out]
          refine G'.out.mono ?_
          rintro e_ w1 ⟨rfl, w2, ⟨W0, v, hb, hT⟩, rfl⟩
          have hz := HZ.out
          obtain ⟨hI, hlt⟩ := HP.out W0 v r.1 w2 hb hT
          have hc0 : (w2.setCell ⟨wg.heap.size, 0, none⟩ (.int .i64 0)).cell? ⟨wr.heap.size, 0, none⟩ = some v := (af ((Below.heap_setCell _ _ _ _ (by show wr.heap.size ≠ wg.heap.size; omega)).trans hT.L) 0).trans rfl
          have HT := Aside0.mk hT
          have HLT := Aside0.mk hlt
          clear hb hT hI hlt hz
          go_wp2
          have hw := HZ.out
          have hws := HWS.out
          go_ret2
          exact ⟨_, rfl, Kd.au (Kd.eu HT.out.R (p := ⟨wg.heap.size, 0, none⟩) (fun k hk => by have := HLT.out; show k ≠ wg.heap.size; omega) _) (fun _ _ => trivial), HT.out.B.setCell (p := ⟨wg.heap.size, 0, none⟩) (by show w.heap.size ≤ wg.heap.size; omega) _⟩
        · rw [if_pos he] at h
          obtain ⟨rfl, rfl⟩ := by simpa using h
          have G := sX 55 r.2 #[.pointer (some ⟨w.heap.size, 0, none⟩), .pointer (some ⟨wr.heap.size, 0, none⟩)] wg (fun w' => ∃ W0 v l, Below (wg.alloc (.cells #[.int .i64 0] 27)).heap.size (wg.alloc (.cells #[.int .i64 0] 27)) W0 ∧ DcI w W0 wr.heap.size v l w')
            (HCc.mono fun e w' ⟨W0, hb, hE⟩ => by
              rcases hE with ⟨h0, _⟩ | ⟨_, rfl, v, l, hT⟩
              · exact absurd h0 he
              · exact ⟨rfl, W0, v, l, hb, hT⟩) (De _) (fun w' ⟨W0, v, l, hb, hT⟩ => (hpe W0 v _ w' hb hT).1)
          have G' := Aside0.mk G
          have HZ := Aside0.mk hzg
          have HWS := Aside0.mk hws
          have t1 : (r.2 != 0) = true := bne_iff_ne.mpr he
          have t2 : (r.2 == 0) = false := beq_eq_false_iff_ne.mpr he
          clear G HCc hs hl hBg hCg h H1 hpe hzg he hws
          have HW := Aside0.mk hwg
          clear hwg
          go_wp2_with fail
          rw [← HW.out]
          refine G'.out.mono ?_
          rintro e_ w1 ⟨rfl, w2, n, ⟨W0, v, l, hb, hT⟩, rfl⟩
          have HT := Aside0.mk hT
          clear hb hT
          go_wp2
          have hw := HZ.out
          have hws := HWS.out
          go_ret2
          exact ⟨_, rfl, Kd.iE _ _ _ _ _, Below.setCell (p := ⟨wg.heap.size, 0, none⟩) (aG HT.out.B n) (by show w.heap.size ≤ wg.heap.size; omega) _⟩
end Go.Proofs.YtfgnjndfnijjoaaGreat.Print
end
