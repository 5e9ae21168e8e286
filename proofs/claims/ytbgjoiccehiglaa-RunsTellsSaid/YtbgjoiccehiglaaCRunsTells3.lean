/- Any list's, of at most 200 numbers, runs and bytes, whether any at most 40 runs may be, and what they spread to, up to 300: the program's answers are the document's. -/
import Derived.Test.YtbgjoiccehiglaaRows
import Derived.WalkKit
import Derived.ProofKit
import Derived.OpenShut
import Derived.ShutString
import Derived.ChangeOld
import Derived.Below
import Derived.SizedLaws
import Derived.Test.YtbgjoiccehiglaaCRunsTells2
section
namespace Go.Proofs.Ytbgjoiccehiglaa.Print
open Go.RowKit Go.Proofs.YtbgjoiccehiglaaW.PrintWords Go.Proofs.YtbgjoiccehiglaaW.PrintLast Go.Proofs.YtbgjoiccehiglaaW.PrintMore
attribute [local go_sem] max2_int min2_int max_two min_two max_three min_three max_four min_four
set_option linter.unusedVariables false
set_option linter.unusedSimpArgs false
def bonsairef06_Encode.l0 : Nat → List (S53) → ByteArray → Int → Option (ByteArray)
  | 0, _, _, _ => none
  | k + 1, x3, x4, x5 => if x5 < (x3.length : Int) then (if 0 ≤ x5 then ((bonsairef03_Put.f k ((rd_T53 x3 x5).f0)).bind fun t407 => (if x4.size + t407.size ≤ 9223372036854775807 then ((bonsairef03_Put.f k (IntKind.u64.wrap ((rd_T53 x3 x5).f1))).bind fun t409 => (if (x4 ++ t407).size + t409.size ≤ 9223372036854775807 then (bonsairef06_Encode.l0 k x3 ((x4 ++ t407) ++ t409) (wrap64 (x5 + 1))) else (none))) else (none))) else (none)) else (some x4)
def bonsairef06_Encode.f (k : Nat) (l0 : List Int) : Option (ByteArray) := (bonsairef06_Runs.f k l0).bind fun t403 => (bonsairef06_Encode.l0 k t403 (⟨#[]⟩ : ByteArray) 0)
def bonsairef06_Encode.T6 : Bool × List (List Nat × List Nat) := (true, [([], []), ([], []), ([], []), ([1, 2], [1, 2]), ([3], [3]), ([4], [4]), ([5], [5]), ([0, 6], [0, 6]), ([], []), ([], []), ([8, 9], [8, 9]), ([10], [10]), ([11], [11]), ([12], [12]), ([13, 6], [13]), ([7, 14], [7, 14]), ([15, 14, 0, 1, 2, 3, 4, 5, 6, 7, 8, 9, 10, 11, 12, 13, 14, 15], [0, 15])])
def bonsairef06_Encode.B6 : List Nat := [0, 0, 0, 6, 14, 30, 62, 127, 0, 0, 768, 1792, 3840, 7936, 16254, 32767, 65535]
theorem bonsairef06_Encode.tab6 : rtab .any (opsOf Try.f45 6) = bonsairef06_Encode.T6 := by kernel_rfl
theorem bonsairef06_Encode.bits6 : waitsOk bonsairef06_Encode.T6.2 bonsairef06_Encode.B6 = true := by kernel_rfl
set_option maxHeartbeats 8000000 in
set_option maxRecDepth 100000 in
theorem bonsairef06_Encode.calls (k : Nat) (A0 : Option Addr) (c0 : Nat) (l0 : List Int) (r : ByteArray) (w : World) (hr0 : Kd.C (Kd.int .u64) w A0 l0.length l0) (hc0 : l0.length ≤ c0) (h : bonsairef06_Encode.f k l0 = some r) :
    Calls Try.prog 45 #[.slice A0 l0.length c0] w fun e w' => e = .returned (.string r) ∧ Below w.heap.size w w' := by
  have HR0 := Aside0.mk hr0
  have HC0 := Aside0.mk hc0
  clear hr0 hc0
  have HB := Aside0.mk (Below.refl w.heap.size w)
  have H : ((bonsairef06_Runs.f k l0).bind fun t403 => (bonsairef06_Encode.l0 k t403 (⟨#[]⟩ : ByteArray) 0)) = some r := h
  clear h
  replace H := Option.bind_eq_some_iff.mp H
  obtain ⟨t403, A20, H⟩ := H
  replace H : (bonsairef06_Encode.l0 k t403 (⟨#[]⟩ : ByteArray) 0) = some r := H
  have A2 := Aside0.mk A20
  clear A20
  have H' := Aside0.mk H
  clear H
  go_enter Try.func45, Try.ntmps45
  go_wp2_with (first | ((with_reducible refine gate_callee (f := 43) rfl ?_); refine goesL_ (some 7) rfl rfl Try.func43 (by kernel_rfl) rfl #[.slice A0 l0.length c0] rfl (by (try simp only [List.map_toArray, List.map_cons, List.map_nil]); first | done | rfl | (simp only [List.length_drop, List.length_take]; rfl)) ?_; (with_reducible refine (bonsairef06_Runs.calls k _ _ l0 t403 _ ?side1 ?side2 A2.out).mono ?_); (case side1 => repeat (first | exact HR0.out | (with_reducible refine Kd.C_alloc ?_ _) | (with_reducible refine Kd.C_drewN ?_ _) | (with_reducible refine Kd.C_drew ?_))); (case side2 => exact HC0.out); rintro e w3 ⟨v404, rfl, ho0, hb⟩; refine ⟨_, rfl, ?_⟩; have n0_ := Aside0.mk (Kd.R_lower ho0 (below_size (by repeat (first | (with_reducible first | exact HB.out | apply below_alloc | apply pw_below_drewN | apply below_drew1) | exact HB.out)))); have n1_ := Aside0.mk (below_step (by repeat (first | (with_reducible first | exact HB.out | apply below_alloc | apply pw_below_drewN | apply below_drew1) | exact HB.out)) hb); clear HB; have HO405 := n0_; have HB := n1_; clear n0_ n1_; (try clear hb); (try clear hb2); (try clear hk); (try clear hi); (try clear ho0)))
  go_loopg [4, 5] k (fun kq v4 v5 w' => ∃ (x4_1 : ByteArray) (x5_1 : Int), v4 = .string x4_1 ∧ v5 = .int .i64 x5_1 ∧ Aside0 (bonsairef06_Encode.l0 kq t403 x4_1 x5_1 = some r) ∧ Aside0 (kq ≤ k) ∧ Aside0 (Kd.R k53 53 w' w.heap.size (fun _ => True) v404 t403) ∧ Aside0 (Below w.heap.size w w'))
  case atStart => exact ⟨((⟨#[]⟩ : ByteArray)), (0), (by first | rfl | (simp; done) | (simp [*]; done)), (by first | rfl | (simp; done) | (simp [*]; done)), H', ⟨Nat.le_refl _⟩, ⟨by (with_reducible repeat (first | apply Kd.R_alloc | apply Kd.R_drewN | apply Kd.R_drew)); exact HO405.out⟩, ⟨by repeat (first | (with_reducible first | exact HB.out | apply below_alloc | apply pw_below_drewN | apply below_drew1) | exact HB.out)⟩⟩
  case round =>
    clear H'
    try clear p2
    obtain ⟨x4_1, x5_1, rfl, rfl, HA, HK1, HO_3, HB⟩ := hrel
    cases gk with
    | zero => exact absurd HA.out (by simp [bonsairef06_Encode.l0])
    | succ k1 =>
      have H := HA.out
      clear HA
      simp only [bonsairef06_Encode.l0] at H
      by_cases c4 : x5_1 < (t403.length : Int)
      · rw [if_pos c4] at H
        have c4b0 : decide (x5_1 < (t403.length : Int)) = true := decide_eq_true c4
        clear c4
        by_cases c5 : 0 ≤ x5_1
        · rw [if_pos c5] at H
          have c5b0 : decide (0 ≤ x5_1) = true := decide_eq_true c5
          clear c5
          replace H := Option.bind_eq_some_iff.mp H
          obtain ⟨t407, A60, H⟩ := H
          replace H : (if x4_1.size + t407.size ≤ 9223372036854775807 then ((bonsairef03_Put.f k1 (IntKind.u64.wrap ((rd_T53 t403 x5_1).f1))).bind fun t409 => (if (x4_1 ++ t407).size + t409.size ≤ 9223372036854775807 then (bonsairef06_Encode.l0 k1 t403 ((x4_1 ++ t407) ++ t409) (wrap64 (x5_1 + 1))) else (none))) else (none)) = some r := H
          have A6 := Aside0.mk A60
          clear A60
          by_cases c7 : x4_1.size + t407.size ≤ 9223372036854775807
          · rw [if_pos c7] at H
            have c7b0 := eq_true c7
            have c7b1 : decide (x4_1.size + t407.size ≤ 9223372036854775807) = true := decide_eq_true c7
            try have c7b2 : (9223372036854775807 < x4_1.size + t407.size) = False := eq_false (Nat.not_lt.2 c7)
            try (have c7b3 := c7b2; simp only [ByteArray.size_append] at c7b3)
            clear c7
            replace H := Option.bind_eq_some_iff.mp H
            obtain ⟨t409, A80, H⟩ := H
            replace H : (if (x4_1 ++ t407).size + t409.size ≤ 9223372036854775807 then (bonsairef06_Encode.l0 k1 t403 ((x4_1 ++ t407) ++ t409) (wrap64 (x5_1 + 1))) else (none)) = some r := H
            have A8 := Aside0.mk A80
            clear A80
            by_cases c9 : (x4_1 ++ t407).size + t409.size ≤ 9223372036854775807
            · rw [if_pos c9] at H
              have c9b0 := eq_true c9
              have c9b1 : decide ((x4_1 ++ t407).size + t409.size ≤ 9223372036854775807) = true := decide_eq_true c9
              try have c9b2 : (9223372036854775807 < (x4_1 ++ t407).size + t409.size) = False := eq_false (Nat.not_lt.2 c9)
              try (have c9b3 := c9b2; simp only [ByteArray.size_append] at c9b3)
              clear c9
              have H' := Aside0.mk H
              clear H
              obtain ⟨Ao10, co10, eo10⟩ := Kd.R_slice HO_3.out
              subst eo10
              try go_wp2
              have n0_ := Aside0.mk (Kd.R_drew HO_3.out)
              have n1_ := Aside0.mk (below_drew1 HB.out)
              clear HO_3
              clear HB
              have HO_3 := n0_
              have HB := n1_
              clear n0_ n1_
              have p406 : 0 ≤ (x5_1 : Int) := of_decide_eq_true (by first | (with_reducible assumption) | assumption)
              have q406 : x5_1 < (t403.length : Int) := of_decide_eq_true (by first | (with_reducible assumption) | assumption)
              obtain ⟨ad406, e406, hx406_0, hx406_1⟩ := at_T53 (Kd.R_reads' HO_3.out).2.2 x5_1 p406 q406
              cases e406
              replace p406 := eq_true p406
              replace q406 := eq_true q406
              have p408 : 0 ≤ (x5_1 : Int) := of_decide_eq_true (by first | (with_reducible assumption) | assumption)
              have q408 : x5_1 < (t403.length : Int) := of_decide_eq_true (by first | (with_reducible assumption) | assumption)
              obtain ⟨ad408, e408, hx408_0, hx408_1⟩ := at_T53 (Kd.R_reads' HO_3.out).2.2 x5_1 p408 q408
              obtain rfl : ad406 = ad408 := (by injection e408)
              replace p408 := eq_true p408
              replace q408 := eq_true q408
              refine start_ (n := 17) (S := fun w' => w'.cell? (ad406.add ((x5_1).toNat * 2)) = some (.int .u64 ((rd_T53 t403 x5_1).f0)) ∧ w'.cell? ⟨(ad406.add ((x5_1).toNat * 2)).block, (ad406.add ((x5_1).toNat * 2)).off + 1, none⟩ = some (.int .i64 ((rd_T53 t403 x5_1).f1)) ∧ w'.cell? (ad406.add ((x5_1).toNat * 2)) = some (.int .u64 ((rd_T53 t403 x5_1).f0)) ∧ w'.cell? ⟨(ad406.add ((x5_1).toNat * 2)).block, (ad406.add ((x5_1).toNat * 2)).off + 1, none⟩ = some (.int .i64 ((rd_T53 t403 x5_1).f1))) (ds := []) #[false, false, false, false, false, false, false, false, false, false, false, false, false, false, false, false, false] (by kernel_rfl) rfl rfl ⟨hx406_0, hx406_1, hx408_0, hx408_1⟩ (fun hHeld => ?_); refine with_tabW bonsairef06_Encode.tab6 bonsairef06_Encode.bits6 (fun HT_ HW_ => ?_)
              generalize wr.drew = w11 at HO_3 HB hx406_0 hx406_1 hx408_0 hx408_1 hHeld ⊢
              refine pure_ (i := 0) (N := some 14) (v := ?_) (a' := ?_) #[true, false, false, false, false, false, false, false, false, false, false, false, false, false, false, false, false] rfl rfl (any_of HT_.out (by kernel_rfl)) (fun _ _ _ h => h) (Or.inl ⟨by rfl, ?_⟩) ?_ ?_
              rotate_left
              · intro w'
                go_simp
                with_reducible rfl
              rotate_left
              · simp only [Act.put, List.setIfInBounds_toArray, List.set_cons_zero, List.set_cons_succ, i64_w, i32_w]
                rfl
              refine pure_ (i := 1) (N := some 15) (v := ?_) (a' := ?_) #[true, true, false, false, false, false, false, false, false, false, false, false, false, false, false, false, false] rfl rfl (any_of HT_.out (by kernel_rfl)) (fun _ _ _ h => h) (Or.inl ⟨by rfl, ?_⟩) ?_ ?_
              rotate_left
              · intro w'
                go_simp
                with_reducible rfl
              rotate_left
              · simp only [Act.put, List.setIfInBounds_toArray, List.set_cons_zero, List.set_cons_succ, i64_w, i32_w]
                rfl
              refine pure_ (i := 2) (N := some 16) (v := ?_) (a' := ?_) #[true, true, true, false, false, false, false, false, false, false, false, false, false, false, false, false, false] rfl rfl (any_of HT_.out (by kernel_rfl)) (fun _ _ _ h => h) (Or.inl ⟨by rfl, ?_⟩) ?_ ?_
              rotate_left
              · intro w'
                go_simp
                with_reducible rfl
              rotate_left
              · simp only [Act.put, List.setIfInBounds_toArray, List.set_cons_zero, List.set_cons_succ, i64_w, i32_w]
                rfl
              refine pure_ (i := 3) (N := some 17) (v := ?_) (a' := ?_) #[true, true, true, true, false, false, false, false, false, false, false, false, false, false, false, false, false] rfl rfl (any_of HT_.out (by kernel_rfl)) (fun _ _ _ h => h) (Or.inl ⟨by rfl, ?_⟩) ?_ ?_
              rotate_left
              · intro w'
                go_simp
                with_reducible rfl
              rotate_left
              · simp only [Act.put, List.setIfInBounds_toArray, List.set_cons_zero, List.set_cons_succ, i64_w, i32_w]
                rfl
              refine pure_ (i := 4) (N := some 18) (v := ?_) (a' := ?_) #[true, true, true, true, true, false, false, false, false, false, false, false, false, false, false, false, false] rfl rfl (any_of HT_.out (by kernel_rfl)) (fun _ _ _ h => h) (Or.inl ⟨by rfl, ?_⟩) ?_ ?_
              rotate_left
              · intro w'
                go_simp
                with_reducible rfl
              rotate_left
              · simp only [Act.put, List.setIfInBounds_toArray, List.set_cons_zero, List.set_cons_succ, i64_w, i32_w]
                rfl
              refine pure_ (i := 8) (N := some 22) (v := ?_) (a' := ?_) #[true, true, true, true, true, false, false, false, true, false, false, false, false, false, false, false, false] rfl rfl (any_of HT_.out (by kernel_rfl)) (fun _ _ _ h => h) (Or.inl ⟨by rfl, ?_⟩) ?_ ?_
              rotate_left
              · intro w'
                go_simp
                with_reducible rfl
              rotate_left
              · simp only [Act.put, List.setIfInBounds_toArray, List.set_cons_zero, List.set_cons_succ, i64_w, i32_w]
                rfl
              refine pure_ (i := 9) (N := some 23) (v := ?_) (a' := ?_) #[true, true, true, true, true, false, false, false, true, true, false, false, false, false, false, false, false] rfl rfl (any_of HT_.out (by kernel_rfl)) (fun _ _ _ h => h) (Or.inl ⟨by rfl, ?_⟩) ?_ ?_
              rotate_left
              · intro w'
                go_simp
                with_reducible rfl
              rotate_left
              · simp only [Act.put, List.setIfInBounds_toArray, List.set_cons_zero, List.set_cons_succ, i64_w, i32_w]
                rfl
              refine pure_ (i := 10) (N := some 24) (v := ?_) (a' := ?_) #[true, true, true, true, true, false, false, false, true, true, true, false, false, false, false, false, false] rfl rfl (any_of HT_.out (by kernel_rfl)) (fun _ _ _ h => h) (Or.inl ⟨by rfl, ?_⟩) ?_ ?_
              rotate_left
              · intro w'
                go_simp
                with_reducible rfl
              rotate_left
              · simp only [Act.put, List.setIfInBounds_toArray, List.set_cons_zero, List.set_cons_succ, i64_w, i32_w]
                rfl
              refine pure_ (i := 11) (N := some 25) (v := ?_) (a' := ?_) #[true, true, true, true, true, false, false, false, true, true, true, true, false, false, false, false, false] rfl rfl (any_of HT_.out (by kernel_rfl)) (fun _ _ _ h => h) (Or.inl ⟨by rfl, ?_⟩) ?_ ?_
              rotate_left
              · intro w'
                go_simp
                with_reducible rfl
              rotate_left
              · simp only [Act.put, List.setIfInBounds_toArray, List.set_cons_zero, List.set_cons_succ, i64_w, i32_w]
                rfl
              refine take_ (i := 5) (N := some 19) (v := ?_) (a' := ?_) #[true, true, true, true, true, true, false, false, true, true, true, true, false, false, false, false, false] rfl rfl (take_ofW HT_.out HW_.out (by kernel_rfl)) (fun _ _ _ h => h) (Or.inl ⟨by rfl, ?_⟩) hHeld ?_ ?_
              rotate_left
              · rintro w' ⟨s0, s1, s2, s3⟩
                go_simp
                with_reducible rfl
              rotate_left
              · simp only [Act.put, List.setIfInBounds_toArray, List.set_cons_zero, List.set_cons_succ, i64_w, i32_w]
                rfl
              refine take_ (i := 12) (N := some 26) (v := ?_) (a' := ?_) #[true, true, true, true, true, true, false, false, true, true, true, true, true, false, false, false, false] rfl rfl (take_ofW HT_.out HW_.out (by kernel_rfl)) (fun _ _ _ h => h) (Or.inl ⟨by rfl, ?_⟩) hHeld ?_ ?_
              rotate_left
              · rintro w' ⟨s0, s1, s2, s3⟩
                go_simp
                with_reducible rfl
              rotate_left
              · simp only [Act.put, List.setIfInBounds_toArray, List.set_cons_zero, List.set_cons_succ, i64_w, i32_w]
                rfl
              refine pure_ (i := 13) (N := some 27) (v := ?_) (a' := ?_) #[true, true, true, true, true, true, false, false, true, true, true, true, true, true, false, false, false] rfl rfl (any_of HT_.out (by kernel_rfl)) (fun _ _ _ h => h) (Or.inl ⟨by rfl, ?_⟩) ?_ ?_
              rotate_left
              · intro w'
                go_simp
                with_reducible rfl
              rotate_left
              · simp only [Act.put, List.setIfInBounds_toArray, List.set_cons_zero, List.set_cons_succ, i64_w, i32_w]
                rfl
              refine one_ (i := 6) (N := some 20) #[true, true, true, true, true, true, true, false, true, true, true, true, true, true, false, false, false] rfl rfl (one_of HT_.out (by kernel_rfl)) (by decide) (fun K hK => ?_)
              refine goes_ Try.func79 (by kernel_rfl) rfl #[.int .u64 ((rd_T53 t403 x5_1).f0)] (by rfl) rfl rfl (by (try simp only [List.map_toArray, List.map_cons, List.map_nil]); first | done | rfl | (simp only [List.length_drop, List.length_take]; rfl)) ?_
              with_reducible refine (bonsairef03_Put.calls k1 ((rd_T53 t403 x5_1).f0) t407 _ A6.out).mono ?_
              rintro e w12 ⟨rfl, hb⟩
              have HS0_ := (hb.cell (World.block_lt_of_cell? _ _ (hHeld.1))).trans (hHeld.1)
              have HS1_ := (hb.cell (World.block_lt_of_cell? _ _ (hHeld.2.1))).trans (hHeld.2.1)
              have HS2_ := (hb.cell (World.block_lt_of_cell? _ _ (hHeld.2.2.1))).trans (hHeld.2.2.1)
              have HS3_ := (hb.cell (World.block_lt_of_cell? _ _ (hHeld.2.2.2))).trans (hHeld.2.2.2)
              refine ⟨_, rfl, ?_⟩
              have n0_ := Aside0.mk (Kd.R_below (by (with_reducible repeat (first | apply Kd.R_alloc | apply Kd.R_drewN | apply Kd.R_drew)); exact HO_3.out) hb)
              have n1_ := Aside0.mk (below_step (by repeat (first | (with_reducible first | exact HB.out | apply below_alloc | apply pw_below_drewN | apply below_drew1) | exact HB.out)) hb)
              clear HO_3
              clear HB
              have HO_3 := n0_
              have HB := n1_
              clear n0_ n1_
              (try clear hb)
              (try clear hb2)
              (try clear hk)
              (try clear hi)
              refine hK.out _ _ ⟨HS0_, HS1_, HS2_, HS3_⟩ (fun hHeld => ?_)
              clear hK K
              refine norm_ (a' := ?_) ?_ ?_
              rotate_left
              · show Act.put _ (some 20) _ = _
                simp only [Act.put, List.setIfInBounds_toArray, List.set_cons_zero, List.set_cons_succ, i64_w, i32_w]
                rfl
              refine pure_ (i := 7) (N := some 21) (v := ?_) (a' := ?_) #[true, true, true, true, true, true, true, true, true, true, true, true, true, true, false, false, false] rfl rfl (any_of HT_.out (by kernel_rfl)) (fun _ _ _ h => h) (Or.inl ⟨by rfl, ?_⟩) ?_ ?_
              rotate_left
              · intro w'
                go_simp
                with_reducible rfl
              rotate_left
              · simp only [Act.put, List.setIfInBounds_toArray, List.set_cons_zero, List.set_cons_succ, i64_w, i32_w]
                rfl
              refine one_ (i := 14) (N := some 28) #[true, true, true, true, true, true, true, true, true, true, true, true, true, true, true, false, false] rfl rfl (one_of HT_.out (by kernel_rfl)) (by decide) (fun K hK => ?_)
              refine goes_ Try.func79 (by kernel_rfl) rfl #[.int .u64 (IntKind.u64.wrap ((rd_T53 t403 x5_1).f1))] (by rfl) rfl rfl (by (try simp only [List.map_toArray, List.map_cons, List.map_nil]); first | done | rfl | (simp only [List.length_drop, List.length_take]; rfl)) ?_
              with_reducible refine (bonsairef03_Put.calls k1 (IntKind.u64.wrap ((rd_T53 t403 x5_1).f1)) t409 _ A8.out).mono ?_
              rintro e w13 ⟨rfl, hb⟩
              have HS0_ := (hb.cell (World.block_lt_of_cell? _ _ (hHeld.1))).trans (hHeld.1)
              have HS1_ := (hb.cell (World.block_lt_of_cell? _ _ (hHeld.2.1))).trans (hHeld.2.1)
              have HS2_ := (hb.cell (World.block_lt_of_cell? _ _ (hHeld.2.2.1))).trans (hHeld.2.2.1)
              have HS3_ := (hb.cell (World.block_lt_of_cell? _ _ (hHeld.2.2.2))).trans (hHeld.2.2.2)
              refine ⟨_, rfl, ?_⟩
              have n0_ := Aside0.mk (Kd.R_below (by (with_reducible repeat (first | apply Kd.R_alloc | apply Kd.R_drewN | apply Kd.R_drew)); exact HO_3.out) hb)
              have n1_ := Aside0.mk (below_step (by repeat (first | (with_reducible first | exact HB.out | apply below_alloc | apply pw_below_drewN | apply below_drew1) | exact HB.out)) hb)
              clear HO_3
              clear HB
              have HO_3 := n0_
              have HB := n1_
              clear n0_ n1_
              (try clear hb)
              (try clear hb2)
              (try clear hk)
              (try clear hi)
              refine hK.out _ _ ⟨HS0_, HS1_, HS2_, HS3_⟩ (fun hHeld => ?_)
              clear hK K
              refine norm_ (a' := ?_) ?_ ?_
              rotate_left
              · show Act.put _ (some 28) _ = _
                simp only [Act.put, List.setIfInBounds_toArray, List.set_cons_zero, List.set_cons_succ, i64_w, i32_w]
                rfl
              refine pure_ (i := 15) (N := some 29) (v := ?_) (a' := ?_) #[true, true, true, true, true, true, true, true, true, true, true, true, true, true, true, true, false] rfl rfl (any_of HT_.out (by kernel_rfl)) (fun _ _ _ h => h) (Or.inl ⟨by rfl, ?_⟩) ?_ ?_
              rotate_left
              · intro w'
                go_simp
                with_reducible rfl
              rotate_left
              · simp only [Act.put, List.setIfInBounds_toArray, List.set_cons_zero, List.set_cons_succ, i64_w, i32_w]
                rfl
              refine pure_ (i := 16) (N := some 4) (v := ?_) (a' := ?_) #[true, true, true, true, true, true, true, true, true, true, true, true, true, true, true, true, true] rfl rfl (any_of HT_.out (by kernel_rfl)) (fun _ _ _ h => h) (Or.inl ⟨by rfl, ?_⟩) ?_ ?_
              rotate_left
              · intro w'
                go_simp
                with_reducible rfl
              rotate_left
              · simp only [Act.put, List.setIfInBounds_toArray, List.set_cons_zero, List.set_cons_succ, i64_w, i32_w]
                rfl
              refine done_ (done_of HT_.out (by kernel_rfl)) ?_
              try go_wp2
              go_roundg k1
              case measure => have := HK1.out; omega
              case rel => exact ⟨((x4_1 ++ t407) ++ t409), (wrap64 (x5_1 + 1)), (by first | rfl | (simp; done) | (simp [*]; done)), (by first | rfl | (simp; done) | (simp [*]; done)), H', ⟨by have := HK1.out; omega⟩, ⟨by (with_reducible repeat (first | apply Kd.R_alloc | apply Kd.R_drewN | apply Kd.R_drew)); exact HO_3.out⟩, ⟨by repeat (first | (with_reducible first | exact HB.out | apply below_alloc | apply pw_below_drewN | apply below_drew1) | exact HB.out)⟩⟩
            · rw [if_neg c9] at H
              exact absurd H (by simp)
          · rw [if_neg c7] at H
            exact absurd H (by simp)
        · rw [if_neg c5] at H
          exact absurd H (by simp)
      · rw [if_neg c4] at H
        have c4b0 : decide (x5_1 < (t403.length : Int)) = false := decide_eq_false c4
        clear c4
        obtain rfl := Option.some.inj H
        obtain ⟨Ao14, co14, eo14⟩ := Kd.R_slice HO_3.out
        subst eo14
        go_wp2
        go_ret
        exact ⟨by first | rfl | (simp [errW_none, errW_some] <;> rfl) | (simp [*, errW_none, errW_some] <;> rfl), by repeat (first | (with_reducible first | exact HB.out | apply below_alloc | apply pw_below_drewN | apply below_drew1) | exact HB.out)⟩
def bonsailaw06_RunsTells.j0 : Nat → List Int → List (S53) → Int → Bool → Option (Bool)
  | 0, _, _, _, _ => none
  | k + 1, x0, x1, x2, x22 => if x22 = true then ((bonsailaw06_live.f k).bind fun t410 => (some t410)) else ((runs_Spread.f k x1 x2).bind fun bt411 => ((bonsairef06_Spread.f k x1 x2).bind fun bt415 => ((runs_Runs.f k x0).bind fun t419 => ((bonsairef06_Runs.f k x0).bind fun t422 => ((bonsairef06_SameRuns.f k t419 t422).bind fun t425 => (if t425 = true then ((runs_Encode.f k x0).bind fun t426 => ((bonsairef06_Encode.f k x0).bind fun t427 => (if t426.toList = t427.toList then ((runs_May.f k x1).bind fun t428 => ((bonsairef06_May.f k x1).bind fun t429 => (if (t428 == t429) = true then ((bonsairef06_Same.f k bt411.1 bt415.1).bind fun t430 => (if t430 = true then (if (bt411.2 == bt415.2) = true then ((bonsailaw06_live.f k).bind fun t431 => (some t431)) else (none)) else (none))) else (none)))) else (none)))) else (none)))))))
def bonsailaw06_RunsTells.f (k : Nat) (l0 : List Int) (l1 : List (S53)) (a2 : Int) : Option (Bool) := if (l0.length : Int) > 200 then (bonsailaw06_RunsTells.j0 k l0 l1 a2 true) else (if (l1.length : Int) > 40 then (bonsailaw06_RunsTells.j0 k l0 l1 a2 true) else (bonsailaw06_RunsTells.j0 k l0 l1 a2 (decide (a2 > 300))))
set_option maxHeartbeats 8000000 in
set_option maxRecDepth 100000 in
theorem bonsailaw06_RunsTells.calls (k : Nat) (A0 : Option Addr) (c0 : Nat) (l0 : List Int) (A1 : Option Addr) (c1 : Nat) (l1 : List (S53)) (a2 : Int) (r : Bool) (w : World) (hr0 : Kd.C (Kd.int .u64) w A0 l0.length l0) (hc0 : l0.length ≤ c0) (hr1 : Kd.C k53 w A1 l1.length l1) (hc1 : l1.length ≤ c1) (h : bonsailaw06_RunsTells.f k l0 l1 a2 = some r) :
    Calls Try.prog 9 #[.slice A0 l0.length c0, .slice A1 l1.length c1, .int .i64 a2] w fun e w' => e = .returned (.bool r) ∧ Below w.heap.size w w' := by
  have HR0 := Aside0.mk hr0
  have HC0 := Aside0.mk hc0
  clear hr0 hc0
  have HR1 := Aside0.mk hr1
  have HC1 := Aside0.mk hc1
  clear hr1 hc1
  have HB := Aside0.mk (Below.refl w.heap.size w)
  have H : (if (l0.length : Int) > 200 then (bonsailaw06_RunsTells.j0 k l0 l1 a2 true) else (if (l1.length : Int) > 40 then (bonsailaw06_RunsTells.j0 k l0 l1 a2 true) else (bonsailaw06_RunsTells.j0 k l0 l1 a2 (decide (a2 > 300))))) = some r := h
  clear h
  have HC4 := Aside0.mk H
  clear H
  go_enter Try.func9, Try.ntmps9
  go_upto_region 1 with (fail)
  go_cut [22] (fun v22 wc => ∃ (kq : Nat) (x22_3 : Bool), v22 = .bool x22_3 ∧ Aside0 (bonsailaw06_RunsTells.j0 kq l0 l1 a2 x22_3 = some r) ∧ Aside0 (kq ≤ k) ∧ Aside0 (Below w.heap.size w wc))
  case first =>
    have H := HC4.out
    clear HC4
    by_cases c5 : (l0.length : Int) > 200
    · rw [if_pos c5] at H
      have c5b0 : decide (200 < (l0.length : Int)) = true := decide_eq_true c5
      have c5b1 : decide (200 < l0.length) = true := decide_eq_true (by omega)
      clear c5
      (first | rw [c5b0] | (simp only [i64_w, i32_w]; rw [c5b0]) | skip)
      have H' := Aside0.mk H
      clear H
      go_wp2
      go_meet
      case rel => exact ⟨_, (true), (by first | rfl | (simp; done) | (simp [*]; done)), H', ⟨by first | omega | exact Nat.le_refl _⟩, ⟨by repeat (first | (with_reducible first | exact HB.out | apply below_alloc | apply pw_below_drewN | apply below_drew1) | exact HB.out)⟩⟩
    · rw [if_neg c5] at H
      have c5b0 : decide (200 < (l0.length : Int)) = false := decide_eq_false c5
      have c5b1 : decide (200 < l0.length) = false := decide_eq_false (by omega)
      clear c5
      (first | rw [c5b0] | (simp only [i64_w, i32_w]; rw [c5b0]) | skip)
      by_cases c6 : (l1.length : Int) > 40
      · rw [if_pos c6] at H
        have c6b0 : decide (40 < (l1.length : Int)) = true := decide_eq_true c6
        have c6b1 : decide (40 < l1.length) = true := decide_eq_true (by omega)
        clear c6
        have H' := Aside0.mk H
        clear H
        go_wp2
        go_meet
        case rel => exact ⟨_, (true), (by first | rfl | (simp; done) | (simp [*]; done)), H', ⟨by first | omega | exact Nat.le_refl _⟩, ⟨by repeat (first | (with_reducible first | exact HB.out | apply below_alloc | apply pw_below_drewN | apply below_drew1) | exact HB.out)⟩⟩
      · rw [if_neg c6] at H
        have c6b0 : decide (40 < (l1.length : Int)) = false := decide_eq_false c6
        have c6b1 : decide (40 < l1.length) = false := decide_eq_false (by omega)
        clear c6
        have H' := Aside0.mk H
        clear H
        go_wp2
        go_meet
        case rel => exact ⟨_, (decide (a2 > 300)), (by first | rfl | (simp; done) | (simp [*]; done)), H', ⟨by first | omega | exact Nat.le_refl _⟩, ⟨by repeat (first | (with_reducible first | exact HB.out | apply below_alloc | apply pw_below_drewN | apply below_drew1) | exact HB.out)⟩⟩
  case rest =>
    clear HC4
    try clear c1
    try clear p2
    try clear c5
    try clear c5b0
    try clear c5b1
    try clear c6
    try clear c6b0
    try clear c6b1
    obtain ⟨kq, x22_3, rfl, HA, HJ3, HB⟩ := hcut
    cases kq with
    | zero => exact absurd HA.out (by simp [bonsailaw06_RunsTells.j0])
    | succ kj3 =>
      have H := HA.out
      clear HA
      simp only [bonsailaw06_RunsTells.j0] at H
      by_cases c7 : x22_3 = true
      · subst c7
        have H1 : ((bonsailaw06_live.f kj3).bind fun t410 => (some t410)) = some r := by rw [if_pos rfl] at H; exact H
        clear H
        have H := H1
        clear H1
        replace H := Option.bind_eq_some_iff.mp H
        obtain ⟨t410, A80, H⟩ := H
        replace H : (some t410) = some r := H
        have A8 := Aside0.mk A80
        clear A80
        obtain rfl := Option.some.inj H
        go_wp2_with (first | ((with_reducible refine gate_callee (f := 38) rfl ?_); refine goesL_ (some 23) rfl rfl Try.func38 (by kernel_rfl) rfl #[] rfl (by (try simp only [List.map_toArray, List.map_cons, List.map_nil]); first | done | rfl | (simp only [List.length_drop, List.length_take]; rfl)) ?_; (with_reducible refine (bonsailaw06_live.calls kj3  t410 _ A8.out).mono ?_); rintro e w9 ⟨rfl, hb⟩; refine ⟨_, rfl, ?_⟩; have n0_ := Aside0.mk (below_step (by repeat (first | (with_reducible first | exact HB.out | apply below_alloc | apply pw_below_drewN | apply below_drew1) | exact HB.out)) hb); clear HB; have HB := n0_; clear n0_; (try clear hb); (try clear hb2); (try clear hk); (try clear hi)))
        go_ret
        exact ⟨by first | rfl | (simp [errW_none, errW_some] <;> rfl) | (simp [*, errW_none, errW_some] <;> rfl), by repeat (first | (with_reducible first | exact HB.out | apply below_alloc | apply pw_below_drewN | apply below_drew1) | exact HB.out)⟩
      · replace c7 := Bool.eq_false_iff.mpr c7
        subst c7
        have H1 : ((runs_Spread.f kj3 l1 a2).bind fun bt411 => ((bonsairef06_Spread.f kj3 l1 a2).bind fun bt415 => ((runs_Runs.f kj3 l0).bind fun t419 => ((bonsairef06_Runs.f kj3 l0).bind fun t422 => ((bonsairef06_SameRuns.f kj3 t419 t422).bind fun t425 => (if t425 = true then ((runs_Encode.f kj3 l0).bind fun t426 => ((bonsairef06_Encode.f kj3 l0).bind fun t427 => (if t426.toList = t427.toList then ((runs_May.f kj3 l1).bind fun t428 => ((bonsairef06_May.f kj3 l1).bind fun t429 => (if (t428 == t429) = true then ((bonsairef06_Same.f kj3 bt411.1 bt415.1).bind fun t430 => (if t430 = true then (if (bt411.2 == bt415.2) = true then ((bonsailaw06_live.f kj3).bind fun t431 => (some t431)) else (none)) else (none))) else (none)))) else (none)))) else (none))))))) = some r := by rw [if_neg (show ¬ (false = true) by decide)] at H; exact H
        clear H
        have H := H1
        clear H1
        replace H := Option.bind_eq_some_iff.mp H
        obtain ⟨⟨t411, t412⟩, A100, H⟩ := H
        replace H : ((bonsairef06_Spread.f kj3 l1 a2).bind fun bt415 => ((runs_Runs.f kj3 l0).bind fun t419 => ((bonsairef06_Runs.f kj3 l0).bind fun t422 => ((bonsairef06_SameRuns.f kj3 t419 t422).bind fun t425 => (if t425 = true then ((runs_Encode.f kj3 l0).bind fun t426 => ((bonsairef06_Encode.f kj3 l0).bind fun t427 => (if t426.toList = t427.toList then ((runs_May.f kj3 l1).bind fun t428 => ((bonsairef06_May.f kj3 l1).bind fun t429 => (if (t428 == t429) = true then ((bonsairef06_Same.f kj3 t411 bt415.1).bind fun t430 => (if t430 = true then (if (t412 == bt415.2) = true then ((bonsailaw06_live.f kj3).bind fun t431 => (some t431)) else (none)) else (none))) else (none)))) else (none)))) else (none)))))) = some r := H
        have A10 := Aside0.mk A100
        clear A100
        replace H := Option.bind_eq_some_iff.mp H
        obtain ⟨⟨t415, t416⟩, A110, H⟩ := H
        replace H : ((runs_Runs.f kj3 l0).bind fun t419 => ((bonsairef06_Runs.f kj3 l0).bind fun t422 => ((bonsairef06_SameRuns.f kj3 t419 t422).bind fun t425 => (if t425 = true then ((runs_Encode.f kj3 l0).bind fun t426 => ((bonsairef06_Encode.f kj3 l0).bind fun t427 => (if t426.toList = t427.toList then ((runs_May.f kj3 l1).bind fun t428 => ((bonsairef06_May.f kj3 l1).bind fun t429 => (if (t428 == t429) = true then ((bonsairef06_Same.f kj3 t411 t415).bind fun t430 => (if t430 = true then (if (t412 == t416) = true then ((bonsailaw06_live.f kj3).bind fun t431 => (some t431)) else (none)) else (none))) else (none)))) else (none)))) else (none))))) = some r := H
        have A11 := Aside0.mk A110
        clear A110
        replace H := Option.bind_eq_some_iff.mp H
        obtain ⟨t419, A120, H⟩ := H
        replace H : ((bonsairef06_Runs.f kj3 l0).bind fun t422 => ((bonsairef06_SameRuns.f kj3 t419 t422).bind fun t425 => (if t425 = true then ((runs_Encode.f kj3 l0).bind fun t426 => ((bonsairef06_Encode.f kj3 l0).bind fun t427 => (if t426.toList = t427.toList then ((runs_May.f kj3 l1).bind fun t428 => ((bonsairef06_May.f kj3 l1).bind fun t429 => (if (t428 == t429) = true then ((bonsairef06_Same.f kj3 t411 t415).bind fun t430 => (if t430 = true then (if (t412 == t416) = true then ((bonsailaw06_live.f kj3).bind fun t431 => (some t431)) else (none)) else (none))) else (none)))) else (none)))) else (none)))) = some r := H
        have A12 := Aside0.mk A120
        clear A120
        replace H := Option.bind_eq_some_iff.mp H
        obtain ⟨t422, A130, H⟩ := H
        replace H : ((bonsairef06_SameRuns.f kj3 t419 t422).bind fun t425 => (if t425 = true then ((runs_Encode.f kj3 l0).bind fun t426 => ((bonsairef06_Encode.f kj3 l0).bind fun t427 => (if t426.toList = t427.toList then ((runs_May.f kj3 l1).bind fun t428 => ((bonsairef06_May.f kj3 l1).bind fun t429 => (if (t428 == t429) = true then ((bonsairef06_Same.f kj3 t411 t415).bind fun t430 => (if t430 = true then (if (t412 == t416) = true then ((bonsailaw06_live.f kj3).bind fun t431 => (some t431)) else (none)) else (none))) else (none)))) else (none)))) else (none))) = some r := H
        have A13 := Aside0.mk A130
        clear A130
        replace H := Option.bind_eq_some_iff.mp H
        obtain ⟨t425, A140, H⟩ := H
        replace H : (if t425 = true then ((runs_Encode.f kj3 l0).bind fun t426 => ((bonsairef06_Encode.f kj3 l0).bind fun t427 => (if t426.toList = t427.toList then ((runs_May.f kj3 l1).bind fun t428 => ((bonsairef06_May.f kj3 l1).bind fun t429 => (if (t428 == t429) = true then ((bonsairef06_Same.f kj3 t411 t415).bind fun t430 => (if t430 = true then (if (t412 == t416) = true then ((bonsailaw06_live.f kj3).bind fun t431 => (some t431)) else (none)) else (none))) else (none)))) else (none)))) else (none)) = some r := H
        have A14 := Aside0.mk A140
        clear A140
        by_cases c15 : t425 = true
        · subst c15
          have H1 : ((runs_Encode.f kj3 l0).bind fun t426 => ((bonsairef06_Encode.f kj3 l0).bind fun t427 => (if t426.toList = t427.toList then ((runs_May.f kj3 l1).bind fun t428 => ((bonsairef06_May.f kj3 l1).bind fun t429 => (if (t428 == t429) = true then ((bonsairef06_Same.f kj3 t411 t415).bind fun t430 => (if t430 = true then (if (t412 == t416) = true then ((bonsailaw06_live.f kj3).bind fun t431 => (some t431)) else (none)) else (none))) else (none)))) else (none)))) = some r := by rw [if_pos rfl] at H; exact H
          clear H
          have H := H1
          clear H1
          replace H := Option.bind_eq_some_iff.mp H
          obtain ⟨t426, A160, H⟩ := H
          replace H : ((bonsairef06_Encode.f kj3 l0).bind fun t427 => (if t426.toList = t427.toList then ((runs_May.f kj3 l1).bind fun t428 => ((bonsairef06_May.f kj3 l1).bind fun t429 => (if (t428 == t429) = true then ((bonsairef06_Same.f kj3 t411 t415).bind fun t430 => (if t430 = true then (if (t412 == t416) = true then ((bonsailaw06_live.f kj3).bind fun t431 => (some t431)) else (none)) else (none))) else (none)))) else (none))) = some r := H
          have A16 := Aside0.mk A160
          clear A160
          replace H := Option.bind_eq_some_iff.mp H
          obtain ⟨t427, A170, H⟩ := H
          replace H : (if t426.toList = t427.toList then ((runs_May.f kj3 l1).bind fun t428 => ((bonsairef06_May.f kj3 l1).bind fun t429 => (if (t428 == t429) = true then ((bonsairef06_Same.f kj3 t411 t415).bind fun t430 => (if t430 = true then (if (t412 == t416) = true then ((bonsailaw06_live.f kj3).bind fun t431 => (some t431)) else (none)) else (none))) else (none)))) else (none)) = some r := H
          have A17 := Aside0.mk A170
          clear A170
          by_cases c18 : t426.toList = t427.toList
          · rw [if_pos c18] at H
            have c18b0 : (t426.toList == t427.toList) = true := beq_iff_eq.mpr c18
            have c18b1 : (t426.toList != t427.toList) = false := bne_eq_false_iff_eq.mpr c18
            clear c18
            replace H := Option.bind_eq_some_iff.mp H
            obtain ⟨t428, A190, H⟩ := H
            replace H : ((bonsairef06_May.f kj3 l1).bind fun t429 => (if (t428 == t429) = true then ((bonsairef06_Same.f kj3 t411 t415).bind fun t430 => (if t430 = true then (if (t412 == t416) = true then ((bonsailaw06_live.f kj3).bind fun t431 => (some t431)) else (none)) else (none))) else (none))) = some r := H
            have A19 := Aside0.mk A190
            clear A190
            replace H := Option.bind_eq_some_iff.mp H
            obtain ⟨t429, A200, H⟩ := H
            replace H : (if (t428 == t429) = true then ((bonsairef06_Same.f kj3 t411 t415).bind fun t430 => (if t430 = true then (if (t412 == t416) = true then ((bonsailaw06_live.f kj3).bind fun t431 => (some t431)) else (none)) else (none))) else (none)) = some r := H
            have A20 := Aside0.mk A200
            clear A200
            by_cases c21 : (t428 == t429) = true
            · rw [if_pos c21] at H
              have c21b0 : (t428 == t429) = true := c21
              (try (have c21b1 : decide (t428 = t429) = true := by simpa using c21))
              (try (have c21b2 : (t428 == t429) = true := by simpa using c21))
              clear c21
              replace H := Option.bind_eq_some_iff.mp H
              obtain ⟨t430, A220, H⟩ := H
              replace H : (if t430 = true then (if (t412 == t416) = true then ((bonsailaw06_live.f kj3).bind fun t431 => (some t431)) else (none)) else (none)) = some r := H
              have A22 := Aside0.mk A220
              clear A220
              by_cases c23 : t430 = true
              · subst c23
                have H1 : (if (t412 == t416) = true then ((bonsailaw06_live.f kj3).bind fun t431 => (some t431)) else (none)) = some r := by rw [if_pos rfl] at H; exact H
                clear H
                have H := H1
                clear H1
                by_cases c24 : (t412 == t416) = true
                · rw [if_pos c24] at H
                  have c24b0 : (t412 == t416) = true := c24
                  (try (have c24b1 : decide (t412 = t416) = true := by simpa using c24))
                  (try (have c24b2 : (t412 == t416) = true := by simpa using c24))
                  clear c24
                  replace H := Option.bind_eq_some_iff.mp H
                  obtain ⟨t431, A250, H⟩ := H
                  replace H : (some t431) = some r := H
                  have A25 := Aside0.mk A250
                  clear A250
                  obtain rfl := Option.some.inj H
                  go_wp2_with (first | ((with_reducible refine gate_callee (f := 39) rfl ?_); refine goesL_ (some 27) rfl rfl Try.func39 (by kernel_rfl) rfl #[.slice A1 l1.length c1, .int .i64 a2] rfl (by (try simp only [List.map_toArray, List.map_cons, List.map_nil]); first | done | rfl | (simp only [List.length_drop, List.length_take]; rfl)) ?_; (with_reducible refine (runs_Spread.calls kj3 _ _ l1 a2 t411 t412 _ ?side1 ?side2 A10.out).mono ?_); (case side1 => repeat (first | exact (Kd.C_below HR1.out HB.out) | (with_reducible refine Kd.C_alloc ?_ _) | (with_reducible refine Kd.C_drewN ?_ _) | (with_reducible refine Kd.C_drew ?_))); (case side2 => exact HC1.out); rintro e w26 ⟨v413, rfl, ho0, hb⟩; refine ⟨_, rfl, ?_⟩; have n0_ := Aside0.mk (Kd.R_lower ho0 (below_size (by repeat (first | (with_reducible first | exact HB.out | apply below_alloc | apply pw_below_drewN | apply below_drew1) | exact HB.out)))); have n1_ := Aside0.mk (below_step (by repeat (first | (with_reducible first | exact HB.out | apply below_alloc | apply pw_below_drewN | apply below_drew1) | exact HB.out)) hb); clear HB; have HO414 := n0_; have HB := n1_; clear n0_ n1_; (try clear hb); (try clear hb2); (try clear hk); (try clear hi); (try clear ho0)) | ((with_reducible refine gate_callee (f := 40) rfl ?_); refine goesL_ (some 33) rfl rfl Try.func40 (by kernel_rfl) rfl #[.slice A1 l1.length c1, .int .i64 a2] rfl (by (try simp only [List.map_toArray, List.map_cons, List.map_nil]); first | done | rfl | (simp only [List.length_drop, List.length_take]; rfl)) ?_; (with_reducible refine (bonsairef06_Spread.calls kj3 _ _ l1 a2 t415 t416 _ ?side1 ?side2 A11.out).mono ?_); (case side1 => repeat (first | exact (Kd.C_below HR1.out HB.out) | (with_reducible refine Kd.C_alloc ?_ _) | (with_reducible refine Kd.C_drewN ?_ _) | (with_reducible refine Kd.C_drew ?_))); (case side2 => exact HC1.out); rintro e w27 ⟨v417, rfl, ho0, hb⟩; refine ⟨_, rfl, ?_⟩; have n0_ := Aside0.mk (Kd.R_elder' (by (with_reducible repeat (first | apply Kd.R_alloc | apply Kd.R_drewN | apply Kd.R_drew)); exact HO414.out) (Kd.R_base ho0) hb); have n1_ := Aside0.mk (Kd.R_lower (Kd.R_new' ho0 (Kd.R_lt (by (with_reducible repeat (first | apply Kd.R_alloc | apply Kd.R_drewN | apply Kd.R_drew)); exact HO414.out))) (below_size (by repeat (first | (with_reducible first | exact HB.out | apply below_alloc | apply pw_below_drewN | apply below_drew1) | exact HB.out)))); have n2_ := Aside0.mk (below_step (by repeat (first | (with_reducible first | exact HB.out | apply below_alloc | apply pw_below_drewN | apply below_drew1) | exact HB.out)) hb); clear HO414; clear HB; have HO414 := n0_; have HO418 := n1_; have HB := n2_; clear n0_ n1_ n2_; (try clear hb); (try clear hb2); (try clear hk); (try clear hi); (try clear ho0)) | ((with_reducible refine gate_callee (f := 42) rfl ?_); refine goesL_ (some 37) rfl rfl Try.func42 (by kernel_rfl) rfl #[.slice A0 l0.length c0] rfl (by (try simp only [List.map_toArray, List.map_cons, List.map_nil]); first | done | rfl | (simp only [List.length_drop, List.length_take]; rfl)) ?_; (with_reducible refine (runs_Runs.calls kj3 _ _ l0 t419 _ ?side1 ?side2 A12.out).mono ?_); (case side1 => repeat (first | exact (Kd.C_below HR0.out HB.out) | (with_reducible refine Kd.C_alloc ?_ _) | (with_reducible refine Kd.C_drewN ?_ _) | (with_reducible refine Kd.C_drew ?_))); (case side2 => exact HC0.out); rintro e w28 ⟨v420, rfl, ho0, hb⟩; refine ⟨_, rfl, ?_⟩; have n0_ := Aside0.mk (Kd.R_below (by (with_reducible repeat (first | apply Kd.R_alloc | apply Kd.R_drewN | apply Kd.R_drew)); exact HO414.out) hb); have n1_ := Aside0.mk (Kd.R_below (by (with_reducible repeat (first | apply Kd.R_alloc | apply Kd.R_drewN | apply Kd.R_drew)); exact HO418.out) hb); have n2_ := Aside0.mk (Kd.R_lower ho0 (below_size (by repeat (first | (with_reducible first | exact HB.out | apply below_alloc | apply pw_below_drewN | apply below_drew1) | exact HB.out)))); have n3_ := Aside0.mk (below_step (by repeat (first | (with_reducible first | exact HB.out | apply below_alloc | apply pw_below_drewN | apply below_drew1) | exact HB.out)) hb); clear HO414; clear HO418; clear HB; have HO414 := n0_; have HO418 := n1_; have HO421 := n2_; have HB := n3_; clear n0_ n1_ n2_ n3_; (try clear hb); (try clear hb2); (try clear hk); (try clear hi); (try clear ho0)) | ((with_reducible refine gate_callee (f := 43) rfl ?_); refine goesL_ (some 39) rfl rfl Try.func43 (by kernel_rfl) rfl #[.slice A0 l0.length c0] rfl (by (try simp only [List.map_toArray, List.map_cons, List.map_nil]); first | done | rfl | (simp only [List.length_drop, List.length_take]; rfl)) ?_; (with_reducible refine (bonsairef06_Runs.calls kj3 _ _ l0 t422 _ ?side1 ?side2 A13.out).mono ?_); (case side1 => repeat (first | exact (Kd.C_below HR0.out HB.out) | (with_reducible refine Kd.C_alloc ?_ _) | (with_reducible refine Kd.C_drewN ?_ _) | (with_reducible refine Kd.C_drew ?_))); (case side2 => exact HC0.out); rintro e w29 ⟨v423, rfl, ho0, hb⟩; refine ⟨_, rfl, ?_⟩; have n0_ := Aside0.mk (Kd.R_below (by (with_reducible repeat (first | apply Kd.R_alloc | apply Kd.R_drewN | apply Kd.R_drew)); exact HO414.out) hb); have n1_ := Aside0.mk (Kd.R_below (by (with_reducible repeat (first | apply Kd.R_alloc | apply Kd.R_drewN | apply Kd.R_drew)); exact HO418.out) hb); have n2_ := Aside0.mk (Kd.R_elder' (by (with_reducible repeat (first | apply Kd.R_alloc | apply Kd.R_drewN | apply Kd.R_drew)); exact HO421.out) (Kd.R_base ho0) hb); have n3_ := Aside0.mk (Kd.R_lower (Kd.R_new' ho0 (Kd.R_lt (by (with_reducible repeat (first | apply Kd.R_alloc | apply Kd.R_drewN | apply Kd.R_drew)); exact HO421.out))) (below_size (by repeat (first | (with_reducible first | exact HB.out | apply below_alloc | apply pw_below_drewN | apply below_drew1) | exact HB.out)))); have n4_ := Aside0.mk (below_step (by repeat (first | (with_reducible first | exact HB.out | apply below_alloc | apply pw_below_drewN | apply below_drew1) | exact HB.out)) hb); clear HO414; clear HO418; clear HO421; clear HB; have HO414 := n0_; have HO418 := n1_; have HO421 := n2_; have HO424 := n3_; have HB := n4_; clear n0_ n1_ n2_ n3_ n4_; (try clear hb); (try clear hb2); (try clear hk); (try clear hi); (try clear ho0); obtain ⟨Ao30, co30, eo30⟩ := Kd.R_slice HO421.out; subst eo30; obtain ⟨Ao31, co31, eo31⟩ := Kd.R_slice HO424.out; subst eo31) | ((with_reducible refine gate_callee (f := 41) rfl ?_); refine goesL_ (some 40) rfl rfl Try.func41 (by kernel_rfl) rfl #[.slice Ao30 t419.length co30, .slice Ao31 t422.length co31] rfl (by (try simp only [List.map_toArray, List.map_cons, List.map_nil]); first | done | rfl | (simp only [List.length_drop, List.length_take]; rfl)) ?_; (with_reducible refine (bonsairef06_SameRuns.calls kj3 _ _ t419 _ _ t422 true _ ?side1 ?side2 ?side3 ?side4 A14.out).mono ?_); (case side1 => repeat (first | exact (Kd.R_reads' HO421.out).2.2 | (with_reducible refine Kd.C_alloc ?_ _) | (with_reducible refine Kd.C_drewN ?_ _) | (with_reducible refine Kd.C_drew ?_))); (case side2 => exact (Kd.R_reads' HO421.out).2.1); (case side3 => repeat (first | exact (Kd.R_reads' HO424.out).2.2 | (with_reducible refine Kd.C_alloc ?_ _) | (with_reducible refine Kd.C_drewN ?_ _) | (with_reducible refine Kd.C_drew ?_))); (case side4 => exact (Kd.R_reads' HO424.out).2.1); rintro e w' ⟨rfl, ⟨nd, rfl⟩⟩; refine ⟨_, rfl, ?_⟩) | (go_at_call 44; (with_reducible refine (runs_Encode.calls kj3 _ _ l0 t426 _ ?side1 ?side2 A16.out).mono ?_); (case side1 => repeat (first | exact (Kd.C_below HR0.out (by repeat (first | (with_reducible first | exact HB.out | apply below_alloc | apply pw_below_drewN | apply below_drew1) | exact HB.out))) | (with_reducible refine Kd.C_alloc ?_ _) | (with_reducible refine Kd.C_drewN ?_ _) | (with_reducible refine Kd.C_drew ?_))); (case side2 => exact HC0.out); rintro e w32 ⟨rfl, hb⟩; have n0_ := Aside0.mk (Kd.R_below (by (with_reducible repeat (first | apply Kd.R_alloc | apply Kd.R_drewN | apply Kd.R_drew)); exact HO414.out) hb); have n1_ := Aside0.mk (Kd.R_below (by (with_reducible repeat (first | apply Kd.R_alloc | apply Kd.R_drewN | apply Kd.R_drew)); exact HO418.out) hb); have n2_ := Aside0.mk (Kd.R_below (by (with_reducible repeat (first | apply Kd.R_alloc | apply Kd.R_drewN | apply Kd.R_drew)); exact HO421.out) hb); have n3_ := Aside0.mk (Kd.R_below (by (with_reducible repeat (first | apply Kd.R_alloc | apply Kd.R_drewN | apply Kd.R_drew)); exact HO424.out) hb); have n4_ := Aside0.mk (below_step (by repeat (first | (with_reducible first | exact HB.out | apply below_alloc | apply pw_below_drewN | apply below_drew1) | exact HB.out)) hb); clear HO414; clear HO418; clear HO421; clear HO424; clear HB; have HO414 := n0_; have HO418 := n1_; have HO421 := n2_; have HO424 := n3_; have HB := n4_; clear n0_ n1_ n2_ n3_ n4_; (try clear hb); (try clear hb2); (try clear hk); (try clear hi)) | (go_at_call 45; (with_reducible refine (bonsairef06_Encode.calls kj3 _ _ l0 t427 _ ?side1 ?side2 A17.out).mono ?_); (case side1 => repeat (first | exact (Kd.C_below HR0.out HB.out) | (with_reducible refine Kd.C_alloc ?_ _) | (with_reducible refine Kd.C_drewN ?_ _) | (with_reducible refine Kd.C_drew ?_))); (case side2 => exact HC0.out); rintro e w33 ⟨rfl, hb⟩; have n0_ := Aside0.mk (Kd.R_below (by (with_reducible repeat (first | apply Kd.R_alloc | apply Kd.R_drewN | apply Kd.R_drew)); exact HO414.out) hb); have n1_ := Aside0.mk (Kd.R_below (by (with_reducible repeat (first | apply Kd.R_alloc | apply Kd.R_drewN | apply Kd.R_drew)); exact HO418.out) hb); have n2_ := Aside0.mk (Kd.R_below (by (with_reducible repeat (first | apply Kd.R_alloc | apply Kd.R_drewN | apply Kd.R_drew)); exact HO421.out) hb); have n3_ := Aside0.mk (Kd.R_below (by (with_reducible repeat (first | apply Kd.R_alloc | apply Kd.R_drewN | apply Kd.R_drew)); exact HO424.out) hb); have n4_ := Aside0.mk (below_step (by repeat (first | (with_reducible first | exact HB.out | apply below_alloc | apply pw_below_drewN | apply below_drew1) | exact HB.out)) hb); clear HO414; clear HO418; clear HO421; clear HO424; clear HB; have HO414 := n0_; have HO418 := n1_; have HO421 := n2_; have HO424 := n3_; have HB := n4_; clear n0_ n1_ n2_ n3_ n4_; (try clear hb); (try clear hb2); (try clear hk); (try clear hi)) | (go_at_call 46; (with_reducible refine (runs_May.calls kj3 _ _ l1 t428 _ ?side1 ?side2 A19.out).mono ?_); (case side1 => repeat (first | exact (Kd.C_below HR1.out HB.out) | (with_reducible refine Kd.C_alloc ?_ _) | (with_reducible refine Kd.C_drewN ?_ _) | (with_reducible refine Kd.C_drew ?_))); (case side2 => exact HC1.out); rintro e w34 ⟨rfl, hb⟩; have n0_ := Aside0.mk (Kd.R_below (by (with_reducible repeat (first | apply Kd.R_alloc | apply Kd.R_drewN | apply Kd.R_drew)); exact HO414.out) hb); have n1_ := Aside0.mk (Kd.R_below (by (with_reducible repeat (first | apply Kd.R_alloc | apply Kd.R_drewN | apply Kd.R_drew)); exact HO418.out) hb); have n2_ := Aside0.mk (Kd.R_below (by (with_reducible repeat (first | apply Kd.R_alloc | apply Kd.R_drewN | apply Kd.R_drew)); exact HO421.out) hb); have n3_ := Aside0.mk (Kd.R_below (by (with_reducible repeat (first | apply Kd.R_alloc | apply Kd.R_drewN | apply Kd.R_drew)); exact HO424.out) hb); have n4_ := Aside0.mk (below_step (by repeat (first | (with_reducible first | exact HB.out | apply below_alloc | apply pw_below_drewN | apply below_drew1) | exact HB.out)) hb); clear HO414; clear HO418; clear HO421; clear HO424; clear HB; have HO414 := n0_; have HO418 := n1_; have HO421 := n2_; have HO424 := n3_; have HB := n4_; clear n0_ n1_ n2_ n3_ n4_; (try clear hb); (try clear hb2); (try clear hk); (try clear hi)) | (go_at_call 47; (with_reducible refine (bonsairef06_May.calls kj3 _ _ l1 t429 _ ?side1 ?side2 A20.out).mono ?_); (case side1 => repeat (first | exact (Kd.C_below HR1.out HB.out) | (with_reducible refine Kd.C_alloc ?_ _) | (with_reducible refine Kd.C_drewN ?_ _) | (with_reducible refine Kd.C_drew ?_))); (case side2 => exact HC1.out); rintro e w' ⟨rfl, ⟨nd, rfl⟩⟩; obtain ⟨Ao35, co35, eo35⟩ := Kd.R_slice HO414.out; subst eo35; obtain ⟨Ao36, co36, eo36⟩ := Kd.R_slice HO418.out; subst eo36) | (go_at_call 48; (with_reducible refine (bonsairef06_Same.calls kj3 _ _ t411 _ _ t415 true _ ?side1 ?side2 ?side3 ?side4 A22.out).mono ?_); (case side1 => repeat (first | exact (Kd.R_reads' HO414.out).2.2 | (with_reducible refine Kd.C_alloc ?_ _) | (with_reducible refine Kd.C_drewN ?_ _) | (with_reducible refine Kd.C_drew ?_))); (case side2 => exact (Kd.R_reads' HO414.out).2.1); (case side3 => repeat (first | exact (Kd.R_reads' HO418.out).2.2 | (with_reducible refine Kd.C_alloc ?_ _) | (with_reducible refine Kd.C_drewN ?_ _) | (with_reducible refine Kd.C_drew ?_))); (case side4 => exact (Kd.R_reads' HO418.out).2.1); rintro e w' ⟨rfl, ⟨nd, rfl⟩⟩) | (go_at_call 38; (with_reducible refine (bonsailaw06_live.calls kj3  t431 _ A25.out).mono ?_); rintro e w37 ⟨rfl, hb⟩; have n0_ := Aside0.mk (Kd.R_below (by (with_reducible repeat (first | apply Kd.R_alloc | apply Kd.R_drewN | apply Kd.R_drew)); exact HO414.out) hb); have n1_ := Aside0.mk (Kd.R_below (by (with_reducible repeat (first | apply Kd.R_alloc | apply Kd.R_drewN | apply Kd.R_drew)); exact HO418.out) hb); have n2_ := Aside0.mk (Kd.R_below (by (with_reducible repeat (first | apply Kd.R_alloc | apply Kd.R_drewN | apply Kd.R_drew)); exact HO421.out) hb); have n3_ := Aside0.mk (Kd.R_below (by (with_reducible repeat (first | apply Kd.R_alloc | apply Kd.R_drewN | apply Kd.R_drew)); exact HO424.out) hb); have n4_ := Aside0.mk (below_step (by repeat (first | (with_reducible first | exact HB.out | apply below_alloc | apply pw_below_drewN | apply below_drew1) | exact HB.out)) hb); clear HO414; clear HO418; clear HO421; clear HO424; clear HB; have HO414 := n0_; have HO418 := n1_; have HO421 := n2_; have HO424 := n3_; have HB := n4_; clear n0_ n1_ n2_ n3_ n4_; (try clear hb); (try clear hb2); (try clear hk); (try clear hi)))
                  go_ret
                  exact ⟨by first | rfl | (simp [errW_none, errW_some] <;> rfl) | (simp [*, errW_none, errW_some] <;> rfl), by repeat (first | (with_reducible first | exact HB.out | apply below_alloc | apply pw_below_drewN | apply below_drew1) | exact HB.out)⟩
                · rw [if_neg c24] at H
                  exact absurd H (by simp)
              · replace c23 := Bool.eq_false_iff.mpr c23
                subst c23
                have H1 : (none) = some r := by rw [if_neg (show ¬ (false = true) by decide)] at H; exact H
                clear H
                have H := H1
                clear H1
                exact absurd H (by simp)
            · rw [if_neg c21] at H
              exact absurd H (by simp)
          · rw [if_neg c18] at H
            exact absurd H (by simp)
        · replace c15 := Bool.eq_false_iff.mpr c15
          subst c15
          have H1 : (none) = some r := by rw [if_neg (show ¬ (false = true) by decide)] at H; exact H
          clear H
          have H := H1
          clear H1
          exact absurd H (by simp)
end Go.Proofs.Ytbgjoiccehiglaa.Print
end
section
namespace Go.Proofs.Ytbgjoiccehiglaa.LibW
open Go.RowKit Go.Proofs.Ytbgjoiccehiglaa.Print Go.Proofs.YtbgjoiccehiglaaW.PrintWords Go.Proofs.YtbgjoiccehiglaaW.PrintLast Go.Proofs.YtbgjoiccehiglaaW.PrintMore Go.Proofs.Ytbgjoiccehiglaa.LibU Go.Proofs.Ytbgjoiccehiglaa.LibV Go.Proofs.Ytbgjoiccehiglaa.LibC Go.Proofs.Ytbgjoiccehiglaa.LibE Go.Proofs.Ytbgjoiccehiglaa.LibG
theorem rd_at (l : List Int) (i : Nat) (h : i < l.length) : rd l (i : Int) = l[i] := by simp [rd, List.getD_eq_getElem?_getD, h]
theorem rd53_at (l : List S53) (i : Nat) (h : i < l.length) : rd_T53 l (i : Int) = l[i] := by simp [rd_T53, List.getD_eq_getElem?_getD, h]
theorem rd98_at (l : List S98) (i : Nat) (h : i < l.length) : rd_T98 l (i : Int) = l[i] := by simp [rd_T98, List.getD_eq_getElem?_getD, h]
theorem len_runs (l : List Int) : (runs l).length ≤ l.length := by
  have := len_spread (may_runs l)
  rwa [spread_runs] at this
theorem copy_l (x7 : List S98) (hl : (x7.length : Int) ≤ 1000000000000) : ∀ (d k i : Nat) (acc : List S53), i + d = x7.length → d + 1 ≤ k → acc.length = i →
    runs_Runs.l0 k acc x7 (x7.length : Int) (i : Int) = some (acc ++ (x7.drop i).map cv)
  | 0, k, i, acc, hd, hk, hs => by
    obtain ⟨k, rfl⟩ : ∃ k', k = k' + 1 := ⟨k - 1, by omega⟩
    unfold runs_Runs.l0
    rw [if_neg (by omega), List.drop_eq_nil_of_le (by omega)]
    simp
  | d + 1, k, i, acc, hd, hk, hs => by
    obtain ⟨k, rfl⟩ : ∃ k', k = k' + 1 := ⟨k - 1, by omega⟩
    have hi : i < x7.length := by omega
    unfold runs_Runs.l0
    rw [if_pos (by omega), if_pos (by omega), if_pos (by omega), if_pos (by omega), rd98_at x7 i hi, w64 (by omega) (by omega), show (i : Int) + 1 = ((i + 1 : Nat) : Int) by omega]
    rw [copy_l x7 hl d k (i + 1) _ (by omega) (by omega) (by simp; omega), List.drop_eq_getElem_cons hi]
    rw [List.append_assoc]
    rfl
theorem runs_some (l : List Int) (hl : (l.length : Int) ≤ 1000000000000) (k : Nat) (hk : l.length + 1 ≤ k) : runs_Runs.f k l = some (runs l) := by
  obtain ⟨r98, h1, h2⟩ := of_is l hl k hk
  have hn : r98.length = (runs l).length := by rw [← h2]; simp
  have := len_runs l
  unfold runs_Runs.f
  rw [h1]
  simp only [Option.bind_some]
  have h := copy_l r98 (by omega) r98.length k 0 [] (by omega) (by omega) rfl
  simp only [Int.natCast_zero, List.drop_zero, List.nil_append] at h
  rw [h, h2]
theorem take_snoc (l : List Int) (i : Nat) (h : i < l.length) : l.take (i + 1) = l.take i ++ [l[i]] := by rw [List.take_succ_eq_append_getElem h]
theorem last_runs {l : List Int} {x : Int} {a : List S53} {r : S53} (h : runs (l ++ [x]) = a ++ [r]) : r.f0 = x := by
  have hm := may_runs (l ++ [x])
  have hs := spread_runs (l ++ [x])
  rw [h] at hm hs
  have h1 := hm.last
  rw [spread_snoc, show r.f1.toNat = (r.f1.toNat - 1) + 1 by omega, List.replicate_succ', ← List.append_assoc] at hs
  exact (snoc_inj hs).2
theorem refRuns_l (l : List Int) (hl : (l.length : Int) ≤ 1000000000000) : ∀ (d k i : Nat), i + d = l.length → d + 1 ≤ k → bonsairef06_Runs.l0 k l (runs (l.take i)) (i : Int) = some (runs l)
  | 0, k, i, hd, hk => by
    obtain ⟨k, rfl⟩ : ∃ k', k = k' + 1 := ⟨k - 1, by omega⟩
    unfold bonsairef06_Runs.l0
    rw [if_neg (by omega), List.take_of_length_le (by omega)]
  | d + 1, k, i, hd, hk => by
    obtain ⟨k, rfl⟩ : ∃ k', k = k' + 1 := ⟨k - 1, by omega⟩
    have hi : i < l.length := by omega
    have ih := refRuns_l l hl d k (i + 1) (by omega) (by omega)
    rw [take_snoc l i hi, runs_snoc] at ih
    have hlen := len_runs (l.take i)
    rw [List.length_take] at hlen
    unfold bonsairef06_Runs.l0
    rw [if_pos (by omega), w64 (n := (i : Int) + 1) (by omega) (by omega)]
    by_cases h0 : (i : Int) > 0
    · rw [if_pos h0, w64 (n := (i : Int) - 1) (by omega) (by omega), if_pos (by omega), if_pos (by omega), if_pos (by omega)]
      rw [show (i : Int) - 1 = ((i - 1 : Nat) : Int) by omega, rd_at l (i - 1) (by omega), rd_at l i hi]
      rcases snoc_cases (runs (l.take i)) with he | ⟨a, r, he⟩
      · exfalso
        have := spread_runs (l.take i)
        rw [he] at this
        have := congrArg List.length this
        simp [spread] at this
        omega
      · have hr : r.f0 = l[i - 1] := by
          have h2 : l.take i = l.take (i - 1) ++ [l[i - 1]] := by rw [← take_snoc l (i - 1) (by omega)]; congr 1; omega
          rw [h2] at he
          exact last_runs he
        rw [he] at ih hlen ⊢
        rw [addR_snoc, hr] at ih
        have hz : ((a ++ [r]).length : Int) = (a.length : Int) + 1 := by simp
        by_cases hx : l[i - 1] = l[i]
        · rw [if_pos hx] at ih ⊢
          have hcnt : 1 ≤ r.f1 ∧ r.f1 ≤ i := by
            have hm := may_runs (l.take i)
            have hs := congrArg List.length (spread_runs (l.take i))
            rw [he] at hm hs
            rw [spread_snoc, List.length_append, List.length_replicate, List.length_take] at hs
            have := hm.last
            omega
          rw [w64 (n := ((a ++ [r]).length : Int) - 1) (by omega) (by omega), if_pos (by omega), if_pos (by omega)]
          rw [show ((a ++ [r]).length : Int) - 1 = ((a.length : Nat) : Int) by omega, rd53_at _ _ (by simp), Int.toNat_natCast]
          simp only [List.getElem_concat_length]
          rw [set_last, w64 (n := r.f1 + 1) (by omega) (by omega), hr, show (i : Int) + 1 = ((i + 1 : Nat) : Int) by omega]
          exact ih
        · rw [if_neg hx] at ih ⊢
          rw [if_pos (by simp at hlen; simp; omega), show (i : Int) + 1 = ((i + 1 : Nat) : Int) by omega]
          exact ih
    · obtain rfl : i = 0 := by omega
      rw [if_neg h0, if_pos (by omega), if_pos (by simp [runs]), rd_at l 0 hi, show ((0 : Nat) : Int) + 1 = ((0 + 1 : Nat) : Int) by omega]
      exact ih
theorem refRuns_some (l : List Int) (hl : (l.length : Int) ≤ 1000000000000) (k : Nat) (hk : l.length + 1 ≤ k) : bonsairef06_Runs.f k l = some (runs l) :=
  refRuns_l l hl l.length k 0 (by omega) hk
theorem may_same (rs : List S53) (hl : (rs.length : Int) ≤ 1000000000000) : ∀ (k : Nat) (i : Int), 0 ≤ i → runs_May.l0 k rs rs (rs.length : Int) i = bonsairef06_May.l0 k rs i
  | 0, _, _ => rfl
  | k + 1, i, h0 => by
    unfold runs_May.l0 bonsairef06_May.l0
    by_cases hi : i < (rs.length : Int)
    · rw [if_pos hi, if_pos hi, if_pos h0, if_pos hi, if_pos h0, w64 (n := i + 1) (by omega) (by omega), may_same rs hl k (i + 1) (by omega)]
    · rw [if_neg hi, if_neg hi]
theorem may_iff (rs : List S53) : MayR rs ↔ (∀ (i : Nat) (h : i < rs.length), 1 ≤ rs[i].f1) ∧ ∀ (i : Nat) (h : i + 1 < rs.length), rs[i].f0 ≠ rs[i + 1].f0 := by
  constructor
  · intro h
    induction h with
    | nil => exact ⟨fun i h => absurd h (by simp), fun i h => absurd h (by simp)⟩
    | one r h => exact ⟨fun i hi => by obtain rfl : i = 0 := by simpa using hi
                                       exact h, fun i hi => by simp at hi⟩
    | snoc a q r h h1 hne ih =>
      refine ⟨fun i hi => ?_, fun i hi => ?_⟩
      · by_cases hc : i < (a ++ [q]).length
        · rw [List.getElem_append_left hc]; exact ih.1 i hc
        · rw [List.getElem_append_right (by omega)]; simpa using h1
      · by_cases hc : i + 1 < (a ++ [q]).length
        · rw [List.getElem_append_left (by omega), List.getElem_append_left hc]; exact ih.2 i hc
        · have hz : (a ++ [q]).length = a.length + 1 := by simp
          have hz2 : (a ++ [q] ++ [r]).length = a.length + 2 := by simp
          obtain rfl : i = a.length := by omega
          rw [List.getElem_append_left (by omega), List.getElem_append_right (by omega)]
          simpa using hne
  · obtain ⟨n, hn⟩ : ∃ n, n = rs.length := ⟨_, rfl⟩
    induction n generalizing rs with
    | zero => intro _; rw [List.length_eq_zero_iff.mp hn.symm]; exact .nil
    | succ n ih =>
      rintro ⟨h1, h2⟩
      rcases snoc_cases rs with rfl | ⟨b, r, rfl⟩
      · exact .nil
      · have hz : (b ++ [r]).length = b.length + 1 := by simp
        rcases snoc_cases b with rfl | ⟨a, q, rfl⟩
        · exact .one r (by have := h1 0 (by simp); simpa using this)
        · have hz3 : (a ++ [q]).length = a.length + 1 := by simp
          refine .snoc a q r (ih _ (by omega) ⟨fun i hi => ?_, fun i hi => ?_⟩) ?_ ?_
          · have := h1 i (by omega)
            rwa [List.getElem_append_left (by omega)] at this
          · have := h2 i (by omega)
            rwa [List.getElem_append_left (by omega), List.getElem_append_left (bs := [r]) hi] at this
          · have := h1 (a ++ [q]).length (by omega)
            rw [List.getElem_append_right (by omega)] at this
            simpa using this
          · have := h2 a.length (by omega)
            rw [List.getElem_append_left (by omega), List.getElem_append_right (by omega)] at this
            simpa using this
theorem may_l (rs : List S53) (hl : (rs.length : Int) ≤ 1000000000000) : ∀ (d k i : Nat), i + d = rs.length → d + 1 ≤ k → ((∀ (j : Nat) (h : j < rs.length), j < i → 1 ≤ rs[j].f1) ∧ ∀ (j : Nat) (h : j + 1 < rs.length), j + 1 < i → rs[j].f0 ≠ rs[j + 1].f0) →
    ∃ b, bonsairef06_May.l0 k rs (i : Int) = some b ∧ (b = true ↔ MayR rs)
  | 0, k, i, hd, hk, hm => by
    obtain ⟨k, rfl⟩ : ∃ k', k = k' + 1 := ⟨k - 1, by omega⟩
    unfold bonsairef06_May.l0
    rw [if_neg (by omega)]
    exact ⟨true, rfl, by simp only [true_iff]; exact (may_iff rs).mpr ⟨fun j h => hm.1 j h (by omega), fun j h => hm.2 j h (by omega)⟩⟩
  | d + 1, k, i, hd, hk, hm => by
    obtain ⟨k, rfl⟩ : ∃ k', k = k' + 1 := ⟨k - 1, by omega⟩
    have hi : i < rs.length := by omega
    unfold bonsairef06_May.l0
    rw [if_pos (by omega), if_pos (by omega), rd53_at rs i hi]
    by_cases h1 : rs[i].f1 < 1
    · rw [if_pos h1]
      exact ⟨false, rfl, by simp only [Bool.false_eq_true, false_iff]; intro h; have := ((may_iff rs).mp h).1 i hi; omega⟩
    · rw [if_neg h1, w64 (n := (i : Int) + 1) (by omega) (by omega)]
      by_cases h0 : (i : Int) > 0
      · rw [if_pos h0, w64 (n := (i : Int) - 1) (by omega) (by omega), if_pos (by omega), if_pos (by omega), show (i : Int) - 1 = ((i - 1 : Nat) : Int) by omega, rd53_at rs (i - 1) (by omega)]
        by_cases h2 : rs[i - 1].f0 = rs[i].f0
        · rw [if_pos h2]
          refine ⟨false, rfl, ?_⟩
          simp only [Bool.false_eq_true, false_iff]
          intro h
          have := ((may_iff rs).mp h).2 (i - 1) (by omega)
          simp only [show i - 1 + 1 = i by omega] at this
          exact this h2
        · rw [if_neg h2, show (i : Int) + 1 = ((i + 1 : Nat) : Int) by omega]
          refine may_l rs hl d k (i + 1) (by omega) (by omega) ⟨fun j h hj => ?_, fun j h hj => ?_⟩
          · by_cases hji : j = i
            · subst hji; omega
            · exact hm.1 j h (by omega)
          · by_cases hji : j + 1 = i
            · subst hji; simpa using h2
            · exact hm.2 j h (by omega)
      · rw [if_neg h0, show (i : Int) + 1 = ((i + 1 : Nat) : Int) by omega]
        refine may_l rs hl d k (i + 1) (by omega) (by omega) ⟨fun j h hj => ?_, fun j h hj => ?_⟩
        · obtain rfl : j = i := by omega
          omega
        · omega
theorem may_some (rs : List S53) (hl : (rs.length : Int) ≤ 1000000000000) (k : Nat) (hk : rs.length + 1 ≤ k) : ∃ b, runs_May.f k rs = some b ∧ bonsairef06_May.f k rs = some b ∧ (b = true ↔ MayR rs) := by
  obtain ⟨b, h1, h2⟩ := may_l rs hl rs.length k 0 (by omega) hk ⟨fun j _ h => absurd h (by omega), fun j _ h => absurd h (by omega)⟩
  exact ⟨b, (may_same rs hl k 0 (Int.le_refl 0)).trans h1, h1, h2⟩
def sL (most : Int) : List S53 → List Int → List Int × Bool
  | [], out => (out, true)
  | r :: rs, out => if r.f1 > most - out.length then ([], false) else sL most rs (out ++ List.replicate r.f1.toNat r.f0)
theorem sL_is (most : Int) : ∀ (rs : List S53) (out : List Int), (∀ r ∈ rs, 0 ≤ r.f1) → (out.length : Int) ≤ most → sL most rs out = if ((out ++ spread rs).length : Int) ≤ most then (out ++ spread rs, true) else ([], false)
  | [], out, _, ho => by simp [sL, spread, ho]
  | r :: rs, out, hr, ho => by
    have h0 := hr r List.mem_cons_self
    have hsp : spread (r :: rs) = List.replicate r.f1.toNat r.f0 ++ spread rs := by simp [spread]
    unfold sL
    by_cases h : r.f1 > most - out.length
    · rw [if_pos h, if_neg]
      rw [hsp, List.length_append, List.length_append, List.length_replicate]
      omega
    · rw [if_neg h, sL_is most rs _ (fun r hr' => hr r (List.mem_cons_of_mem _ hr')) (by rw [List.length_append, List.length_replicate]; omega), hsp, List.append_assoc]
theorem drop_at (l : List S53) (i : Nat) (h : i < l.length) : l.drop i = l[i] :: l.drop (i + 1) := List.drop_eq_getElem_cons h
theorem spread_l (rs : List S53) (most : Int) (hl : (rs.length : Int) ≤ 1000000000000) (hm : most ≤ 1000000) (hr : ∀ r ∈ rs, 0 ≤ r.f1) : ∀ (d k i : Nat) (out : List Int), i + d = rs.length → d + 1 ≤ k → (out.length : Int) ≤ most →
    runs_Spread.l0 k most out rs (rs.length : Int) (i : Int) = some (sL most (rs.drop i) out)
  | 0, k, i, out, hd, hk, ho => by
    obtain ⟨k, rfl⟩ : ∃ k', k = k' + 1 := ⟨k - 1, by omega⟩
    unfold runs_Spread.l0
    rw [if_neg (by omega), List.drop_eq_nil_of_le (by omega)]
    rfl
  | d + 1, k, i, out, hd, hk, ho => by
    obtain ⟨k, rfl⟩ : ∃ k', k = k' + 1 := ⟨k - 1, by omega⟩
    have hi : i < rs.length := by omega
    have h0 := hr rs[i] (List.getElem_mem hi)
    unfold runs_Spread.l0
    rw [if_pos (by omega), if_pos (by omega), if_pos (by omega), rd53_at rs i hi, drop_at rs i hi, w64 (n := most - out.length) (by omega) (by omega), w64 (n := (i : Int) + 1) (by omega) (by omega)]
    unfold sL
    by_cases h : rs[i].f1 > most - out.length
    · rw [if_pos h, if_pos h]
    · rw [if_neg h, if_neg h]
      unfold slices_Repeat_uint64_uint64.f
      rw [if_pos (by simp), if_pos (by omega)]
      simp only [Option.bind_some, List.length_replicate]
      rw [if_pos (by omega), show rd [rs[i].f0] 0 = rs[i].f0 from rfl, show (i : Int) + 1 = ((i + 1 : Nat) : Int) by omega]
      exact spread_l rs most hl hm hr d k (i + 1) _ (by omega) (by omega) (by rw [List.length_append, List.length_replicate]; omega)
theorem rep_add (n : Nat) (x : Int) (out : List Int) : out ++ [x] ++ List.replicate n x = out ++ List.replicate (n + 1) x := by
  rw [List.append_assoc, List.replicate_succ]; rfl
theorem refSpread_l1 (rs : List S53) (most : Int) (i : Nat) (hi : i < rs.length) (hl : (rs.length : Int) ≤ 1000000000000) (hf : rs[i].f1 ≤ 1000000) : ∀ (d k : Nat) (out : List Int) (j : Int), 0 ≤ j → j + d = rs[i].f1 → d + 1 ≤ k → (out.length : Int) + d ≤ 1000000 →
    bonsairef06_Spread.l1 k rs most out (i : Int) j = bonsairef06_Spread.l0 (k - (d + 1)) rs most (out ++ List.replicate d rs[i].f0) ((i + 1 : Nat) : Int) := by
  intro d
  induction d with
  | zero =>
    intro  k out j h0 hd hk ho
    obtain ⟨k, rfl⟩ : ∃ k', k = k' + 1 := ⟨k - 1, by omega⟩
    unfold bonsairef06_Spread.l1
    rw [if_pos (by omega), if_pos (by omega), rd53_at rs i hi, if_neg (by omega), w64 (by omega) (by omega)]
    simp
  | succ d ih =>
    intro  k out j h0 hd hk ho
    obtain ⟨k, rfl⟩ : ∃ k', k = k' + 1 := ⟨k - 1, by omega⟩
    unfold bonsairef06_Spread.l1
    rw [if_pos (by omega), if_pos (by omega), rd53_at rs i hi, if_pos (by omega), if_pos (by omega), w64 (n := j + 1) (by omega) (by omega)]
    rw [ih k _ (j + 1) (by omega) (by omega) (by omega) (by simp; omega), rep_add]
    congr 1
    omega
theorem refSpread_l (rs : List S53) (most : Int) (hl : (rs.length : Int) ≤ 1000000000000) (hm : most ≤ 1000000) (hr : ∀ r ∈ rs, 0 ≤ r.f1) (K : Nat) (hK : 1000002 ≤ K) : ∀ (d k i : Nat) (out : List Int), i + d = rs.length → d * K + 1 ≤ k → (out.length : Int) ≤ most →
    bonsairef06_Spread.l0 k rs most out (i : Int) = some (sL most (rs.drop i) out) := by
  intro d
  induction d with
  | zero =>
    intro  k i out hd hk ho
    obtain ⟨k, rfl⟩ : ∃ k', k = k' + 1 := ⟨k - 1, by omega⟩
    unfold bonsairef06_Spread.l0
    rw [if_neg (by omega), List.drop_eq_nil_of_le (by omega)]
    rfl
  | succ d ih =>
    intro  k i out hd hk ho
    obtain ⟨k, rfl⟩ : ∃ k', k = k' + 1 := ⟨k - 1, by omega⟩
    rw [Nat.succ_mul] at hk
    generalize d * K = D at hk ih
    have hi : i < rs.length := by omega
    have h0 := hr rs[i] (List.getElem_mem hi)
    unfold bonsairef06_Spread.l0
    rw [if_pos (by omega), if_pos (by omega), rd53_at rs i hi, drop_at rs i hi, w64 (n := most - out.length) (by omega) (by omega)]
    unfold sL
    by_cases h : rs[i].f1 > most - out.length
    · rw [if_pos h, if_pos h]
    · rw [if_neg h, if_neg h, refSpread_l1 rs most i hi hl (by omega) rs[i].f1.toNat k out 0 (by omega) (by omega) (by omega) (by omega)]
      exact ih _ (i + 1) _ (by omega) (by omega) (by rw [List.length_append, List.length_replicate]; omega)
noncomputable def spreadTo (rs : List S53) (most : Int) : List Int × Bool := by
  classical exact if MayR rs ∧ ((spread rs).length : Int) ≤ most then (spread rs, true) else ([], false)
theorem MayR.pos {rs : List S53} (h : MayR rs) : ∀ r ∈ rs, 1 ≤ r.f1 := fun r hr => by
  obtain ⟨i, hi, rfl⟩ := List.getElem_of_mem hr
  exact ((may_iff rs).mp h).1 i hi
theorem spread_some (rs : List S53) (most : Int) (hl : (rs.length : Int) ≤ 1000000000000) (hm : most ≤ 1000000) (hm0 : -9223372036854775808 ≤ most) (k : Nat) (K : Nat) (hK : 1000002 ≤ K) (hk : rs.length * K + rs.length + 3 ≤ k) :
    runs_Spread.f k rs most = some (spreadTo rs most) ∧ bonsairef06_Spread.f k rs most = some (spreadTo rs most) := by
  obtain ⟨k, rfl⟩ : ∃ m, k = m + 1 := ⟨k - 1, by omega⟩
  obtain ⟨b, h1, h2, h3⟩ := may_some rs hl (k + 1) (by omega)
  unfold runs_Spread.f bonsairef06_Spread.f
  rw [h1, h2]
  simp only [Option.bind_some]
  have no : ¬ (MayR rs ∧ ((spread rs).length : Int) ≤ most) → spreadTo rs most = ([], false) := fun h => by unfold spreadTo; rw [if_neg h]
  cases b with
  | false =>
    have hn : ¬ MayR rs := fun h => by have := h3.mpr h; cases this
    simp only [Bool.false_eq_true, if_false, runs_Spread.j0, bonsairef06_Spread.j0, if_true]
    rw [no (fun h => hn h.1)]
    exact ⟨rfl, rfl⟩
  | true =>
    have hmay := h3.mp rfl
    have hr : ∀ r ∈ rs, 0 ≤ r.f1 := fun r hr => by have := MayR.pos hmay r hr; omega
    simp only [if_true, runs_Spread.j0, bonsairef06_Spread.j0]
    by_cases hneg : most < 0
    · rw [if_pos (by simpa using hneg), if_pos (by simpa using hneg), no (fun h => by have := h.2; omega)]
      exact ⟨rfl, rfl⟩
    · rw [if_neg (by simpa using hneg), if_neg (by simpa using hneg)]
      have e1 := spread_l rs most hl hm hr rs.length k 0 [] (by omega) (by omega) (by simp; omega)
      have e2 := refSpread_l rs most hl hm hr K hK rs.length k 0 [] (by omega) (by omega) (by simp; omega)
      simp only [Int.natCast_zero, List.drop_zero] at e1 e2
      rw [e1, e2, sL_is most rs [] hr (by simp; omega), List.nil_append]
      unfold spreadTo
      by_cases hle : ((spread rs).length : Int) ≤ most
      · rw [if_pos hle, if_pos ⟨hmay, hle⟩]; exact ⟨rfl, rfl⟩
      · rw [if_neg hle, if_neg (fun h => hle h.2)]; exact ⟨rfl, rfl⟩
noncomputable def put (x : Int) : ByteArray := strOfNums (putL 9 x)
theorem put_size (x : Int) : 1 ≤ (put x).size ∧ (put x).size ≤ 10 := by
  have := putL_length 9 x
  unfold put
  rw [strOfNums_size]
  omega
noncomputable def encR : List S53 → ByteArray
  | [] => noText
  | r :: rs => (put r.f0 ++ put r.f1) ++ encR rs
theorem no_app (a : ByteArray) : noText ++ a = a := by
  apply ByteArray.ext
  simp [noText]
theorem app_no (a : ByteArray) : a ++ noText = a := by
  apply ByteArray.ext
  simp [noText]
theorem put_both (x : Int) (h0 : 0 ≤ x) (h1 : x < 18446744073709551616) (k : Nat) (hk : 10 ≤ k) : pack_Put.f k x = some (put x) ∧ bonsairef03_Put.f k x = some (put x) := put_some x h0 h1 k hk
def Wf (rs : List S53) : Prop := ∀ r ∈ rs, (0 ≤ r.f0 ∧ r.f0 < 18446744073709551616) ∧ 0 ≤ r.f1 ∧ r.f1 < 9223372036854775808
theorem enc_g (k : Nat) (hk : 10 ≤ k) : ∀ (l : List S98) (acc : ByteArray), Wf (l.map cv) → acc.size + 20 * l.length ≤ 140737488355328 → runs_Encode.g k l acc = some (acc ++ encR (l.map cv))
  | [], acc, _, _ => by simp only [runs_Encode.g, List.map_nil, encR, app_no]
  | x :: xs, acc, hw, hs => by
    have hx := hw (cv x) List.mem_cons_self
    have h0 := put_size x.f0
    have h1 := put_size x.f1
    simp only [List.length_cons] at hs
    simp only [cv] at hx
    unfold runs_Encode.g
    rw [show IntKind.u64.wrap x.f1 = x.f1 from pack_wraps_u64 _ hx.2.1 (by omega), (put_both x.f0 hx.1.1 hx.1.2 k hk).1, (put_both x.f1 hx.2.1 (by omega) k hk).1]
    simp only [Option.bind_some]
    rw [if_pos (by omega), enc_g k hk xs _ (fun r hr => hw r (List.mem_cons_of_mem _ hr)) (by simp only [ByteArray.size_append]; omega)]
    simp only [List.map_cons, encR, cv, ByteArray.append_assoc]
theorem wf_runs {l : List Int} (hl : (l.length : Int) ≤ 1000000000000) (h : ∀ x ∈ l, 0 ≤ x ∧ x < 18446744073709551616) : Wf (runs l) := fun r hr => by
  have hp := MayR.pos (may_runs l) r hr
  obtain ⟨a, b, hab⟩ := List.append_of_mem hr
  have hs := spread_runs l
  rw [hab] at hs
  have hsp : spread (a ++ r :: b) = spread a ++ (List.replicate r.f1.toNat r.f0 ++ spread b) := by simp [spread]
  rw [hsp] at hs
  have hlen := congrArg List.length hs
  simp only [List.length_append, List.length_replicate] at hlen
  have hmem : r.f0 ∈ l := by
    rw [← hs]
    refine List.mem_append_right _ (List.mem_append_left _ ?_)
    rw [List.mem_replicate]
    exact ⟨by omega, rfl⟩
  exact ⟨h _ hmem, by omega, by omega⟩
theorem refEnc_l (rs : List S53) (hl : (rs.length : Int) ≤ 1000000000000) (hw : Wf rs) : ∀ (d k i : Nat) (acc : ByteArray), i + d = rs.length → d + 11 ≤ k → acc.size + 20 * d ≤ 9223372036854775807 →
    bonsairef06_Encode.l0 k rs acc (i : Int) = some (acc ++ encR (rs.drop i))
  | 0, k, i, acc, hd, hk, hs => by
    obtain ⟨k, rfl⟩ : ∃ k', k = k' + 1 := ⟨k - 1, by omega⟩
    unfold bonsairef06_Encode.l0
    rw [if_neg (by omega), List.drop_eq_nil_of_le (by omega)]
    simp only [encR, app_no]
  | d + 1, k, i, acc, hd, hk, hs => by
    obtain ⟨k, rfl⟩ : ∃ k', k = k' + 1 := ⟨k - 1, by omega⟩
    have hi : i < rs.length := by omega
    have hx := hw rs[i] (List.getElem_mem hi)
    have h0 := put_size rs[i].f0
    have h1 := put_size rs[i].f1
    unfold bonsairef06_Encode.l0
    rw [if_pos (by omega), if_pos (by omega), rd53_at rs i hi, show IntKind.u64.wrap rs[i].f1 = rs[i].f1 from pack_wraps_u64 _ hx.2.1 (by omega), (put_both rs[i].f0 hx.1.1 hx.1.2 k (by omega)).2, (put_both rs[i].f1 hx.2.1 (by omega) k (by omega)).2]
    simp only [Option.bind_some]
    rw [if_pos (by omega), if_pos (by rw [ByteArray.size_append]; omega), w64 (by omega) (by omega), show (i : Int) + 1 = ((i + 1 : Nat) : Int) by omega]
    rw [refEnc_l rs hl hw d k (i + 1) _ (by omega) (by omega) (by simp only [ByteArray.size_append]; omega), drop_at rs i hi]
    simp only [encR, ByteArray.append_assoc]
theorem enc_some (l : List Int) (hl : (l.length : Int) ≤ 1000000000) (h : ∀ x ∈ l, 0 ≤ x ∧ x < 18446744073709551616) (k : Nat) (hk : l.length + 11 ≤ k) : runs_Encode.f k l = some (encR (runs l)) ∧ bonsairef06_Encode.f k l = some (encR (runs l)) := by
  have hw := wf_runs (by omega) h
  have hn := len_runs l
  constructor
  · obtain ⟨r98, h1, h2⟩ := of_is l (by omega) k (by omega)
    have hz : r98.length = (runs l).length := by rw [← h2]; simp
    unfold runs_Encode.f
    rw [h1]
    simp only [Option.bind_some]
    have he : ByteArray.empty = noText := rfl
    have h0 : noText.size = 0 := rfl
    rw [if_pos (by omega), enc_g k (by omega) r98 _ (by rw [h2]; exact hw) (by rw [he, h0]; omega), h2, he, no_app]
  · unfold bonsairef06_Encode.f
    rw [refRuns_some l (by omega) k (by omega)]
    simp only [Option.bind_some]
    have h0 : noText.size = 0 := rfl
    have := refEnc_l (runs l) (by omega) hw (runs l).length k 0 noText (by omega) (by omega) (by rw [h0]; omega)
    simp only [Int.natCast_zero, List.drop_zero, no_app] at this
    exact this
end Go.Proofs.Ytbgjoiccehiglaa.LibW
end
namespace Go.Proofs.Ytbgjoiccehiglaa.Print
end Go.Proofs.Ytbgjoiccehiglaa.Print
namespace Go.Proofs.Ytbgjoiccehiglaa.LibX
end Go.Proofs.Ytbgjoiccehiglaa.LibX
section
namespace Go.Proofs.Ytbgjoiccehiglaa.LibY
open Go.RowKit Go.Proofs.Ytbgjoiccehiglaa.Print Go.Proofs.YtbgjoiccehiglaaW.PrintWords Go.Proofs.YtbgjoiccehiglaaW.PrintLast Go.Proofs.YtbgjoiccehiglaaW.PrintMore Go.Proofs.Ytbgjoiccehiglaa.LibU Go.Proofs.Ytbgjoiccehiglaa.LibV Go.Proofs.Ytbgjoiccehiglaa.LibW Go.Proofs.Ytbgjoiccehiglaa.LibX
theorem live06 : bonsailaw06_live.f 60 = some true := by decide +kernel
theorem live06_at {k : Nat} (hk : 60 ≤ k) : bonsailaw06_live.f k = some true := at_rounds (g := bonsailaw06_live.f) (fun k => bonsailaw06_live.mono k) hk live06
theorem same_l (a : List Int) (hl : (a.length : Int) ≤ 1000000000000) : ∀ (d k i : Nat), i + d = a.length → d + 1 ≤ k → bonsairef06_Same.l0 k a a (i : Int) = some true := by
  intro d
  induction d with
  | zero =>
    intro k i hd hk
    obtain ⟨k, rfl⟩ : ∃ m, k = m + 1 := ⟨k - 1, by omega⟩
    unfold bonsairef06_Same.l0
    rw [if_neg (by omega)]
  | succ d ih =>
    intro k i hd hk
    obtain ⟨k, rfl⟩ : ∃ m, k = m + 1 := ⟨k - 1, by omega⟩
    unfold bonsairef06_Same.l0
    rw [if_pos (by omega), if_pos (by omega), if_pos (by omega), if_pos rfl, w64 (by omega) (by omega), show (i : Int) + 1 = ((i + 1 : Nat) : Int) by omega]
    exact ih k (i + 1) (by omega) (by omega)
theorem same_self (a : List Int) (hl : (a.length : Int) ≤ 1000000000000) (k : Nat) (hk : a.length + 1 ≤ k) : bonsairef06_Same.f k a a = some true := by
  unfold bonsairef06_Same.f
  rw [if_pos rfl]
  exact same_l a hl a.length k 0 (by omega) hk
theorem sameRuns_l (a : List S53) (hl : (a.length : Int) ≤ 1000000000000) : ∀ (d k i : Nat), i + d = a.length → d + 1 ≤ k → bonsairef06_SameRuns.l0 k a a (i : Int) = some true := by
  intro d
  induction d with
  | zero =>
    intro k i hd hk
    obtain ⟨k, rfl⟩ : ∃ m, k = m + 1 := ⟨k - 1, by omega⟩
    unfold bonsairef06_SameRuns.l0
    rw [if_neg (by omega)]
  | succ d ih =>
    intro k i hd hk
    obtain ⟨k, rfl⟩ : ∃ m, k = m + 1 := ⟨k - 1, by omega⟩
    unfold bonsairef06_SameRuns.l0
    rw [if_pos (by omega), if_pos (by omega), if_pos (by omega), if_neg (by simp), w64 (by omega) (by omega), show (i : Int) + 1 = ((i + 1 : Nat) : Int) by omega]
    exact ih k (i + 1) (by omega) (by omega)
theorem sameRuns_self (a : List S53) (hl : (a.length : Int) ≤ 1000000000000) (k : Nat) (hk : a.length + 1 ≤ k) : bonsairef06_SameRuns.f k a a = some true := by
  unfold bonsairef06_SameRuns.f
  rw [if_pos rfl]
  exact sameRuns_l a hl a.length k 0 (by omega) hk
end Go.Proofs.Ytbgjoiccehiglaa.LibY
end
section
namespace Go.Proofs.Ytbgjoiccehiglaa.Pure
open Go.RowKit Go.Proofs.Ytbgjoiccehiglaa.Print Go.Proofs.YtbgjoiccehiglaaW.PrintWords Go.Proofs.YtbgjoiccehiglaaW.PrintLast Go.Proofs.YtbgjoiccehiglaaW.PrintMore Go.Proofs.Ytbgjoiccehiglaa.LibU Go.Proofs.Ytbgjoiccehiglaa.LibV Go.Proofs.Ytbgjoiccehiglaa.LibW Go.Proofs.Ytbgjoiccehiglaa.LibX Go.Proofs.Ytbgjoiccehiglaa.LibY
theorem u64_of {l : List Int} (h : ∀ x ∈ l, (Lit.int .u64 x).wf = true) : ∀ x ∈ l, 0 ≤ x ∧ x < 18446744073709551616 := fun x hx => by
  have := h x hx
  simp [Lit.wf, IntKind.min, IntKind.max, IntKind.bits, IntKind.signed] at this
  omega
theorem i64_of {n : Int} (h : (Lit.int .i64 n).wf = true) : -9223372036854775808 ≤ n ∧ n ≤ 9223372036854775807 := by
  simp [Lit.wf, IntKind.min, IntKind.max, IntKind.bits, IntKind.signed] at h
  omega
theorem RunsTells : ∀ (l0 : List Int) (l1 : List Print.S53) (a2 : Int), l0.length ≤ maxLen → (∀ x ∈ l0, (Lit.int .u64 x).wf = true) → l1.length ≤ maxLen → (∀ x ∈ l1, ((Lit.int .u64 x.f0).wf = true ∧ (Lit.int .i64 x.f1).wf = true)) → (Lit.int .i64 a2).wf = true → ∃ k, bonsailaw06_RunsTells.f k l0 l1 a2 = some true := by
  intro l r most _ hl _ _ hm
  have hu := u64_of hl
  have hmo := i64_of hm
  obtain ⟨K, hK⟩ : ∃ K : Nat, 1000002 ≤ K := ⟨1000002, Nat.le_refl _⟩
  obtain ⟨M, hM⟩ : ∃ M : Nat, M = 40 * K + 3000 := ⟨_, rfl⟩
  refine ⟨M + 1, ?_⟩
  unfold bonsailaw06_RunsTells.f
  have yes : bonsailaw06_RunsTells.j0 (M + 1) l r most true = some true := by
    simp only [bonsailaw06_RunsTells.j0, if_true]
    rw [live06_at (by omega)]; rfl
  by_cases h1 : (l.length : Int) > 200
  · rw [if_pos h1]; exact yes
  rw [if_neg h1]
  by_cases h2 : (r.length : Int) > 40
  · rw [if_pos h2]; exact yes
  rw [if_neg h2]
  by_cases h3 : most > 300
  · rw [decide_eq_true h3]; exact yes
  rw [decide_eq_false h3]
  simp only [bonsailaw06_RunsTells.j0, Bool.false_eq_true, if_false]
  have hmul : r.length * K ≤ 40 * K := Nat.mul_le_mul_right K (by omega)
  obtain ⟨s1, s2⟩ := spread_some r most (by omega) (by omega) (by omega) M K hK (by omega)
  obtain ⟨b, b1, b2, _⟩ := may_some r (by omega) M (by omega)
  have e := enc_some l (by omega) hu M (by omega)
  have rl := len_runs l
  rw [s1, s2, runs_some l (by omega) M (by omega), refRuns_some l (by omega) M (by omega)]
  simp only [Option.bind_some]
  rw [sameRuns_self _ (by omega) M (by omega), e.1, e.2, b1, b2]
  simp only [Option.bind_some, if_true, beq_self_eq_true]
  have hz : ((spreadTo r most).1.length : Int) ≤ 300 := by
    unfold spreadTo
    split
    · rename_i h; have := h.2; simp only; omega
    · simp
  rw [same_self _ (by omega) M (by omega), live06_at (by omega)]
  simp
end Go.Proofs.Ytbgjoiccehiglaa.Pure
end
section
namespace Go.Proofs.Ytbgjoiccehiglaa.runsTells
open Go.ChangeShapes Go.WideShapes Go.ChangeAt Go.RowKit Go.Proofs.YtbgjoiccehiglaaW.PrintWords
open Go.ChangeMaps (open_string shut_string)
set_option linter.unusedVariables false
theorem own : ownKnob Try.prog.godebug = none := by kernel_rfl
theorem laidOut : laidOutB Try.prog = true := by kernel_rfl
set_option maxRecDepth 100000 in
theorem lifted (os : Os) (started : os.Started) (H : Type) (enc : TypeId × Value → H) :
    ReturnsInHanded {} Try.checked os 9 .any (Rows.runsTellsSpec.pre6 enc Try.prog Try.f9 Rows.runsTellsRow.domain false) (Rows.runsTellsSpec.post enc Try.prog Try.f9 false true false false) := by
  refine returnsInHanded_of_change_sized (C := Try.checked) own started (by kernel_rfl) Try.func9
    (ChangeSpec.witness6 (enc := enc) (C := Try.checked) false ⟨#[], #[.slice none 0 0, .slice none 0 0, .int .i64 0], []⟩ 8 (by kernel_rfl) (by kernel_rfl) (by kernel_rfl) (by kernel_rfl)) ?_
  intro W base args ds gs before hval0 hW hcnd hsz0 _
  have hsz : (DataW.weightsEach Try.prog (Try.f9.params.toList ++ Rows.runsTellsSpec.plain.varTypes Try.prog) (ds ++ gs)).all (· ≤ reachBytes) = true := hsz0
  have hval : ∀ (j : Nat) t v, Try.f9.params[j]? = some t → args[j]? = some v → Value.okWide Try.prog W .any base t v := hval0
  have hW' := hW
  obtain ⟨p, q, hA0, hV, rfl, hfz, hnd⟩ := hW
  have hA : DataW.TrodAll enc Try.prog W 0 (fun _ => true) true Try.f9.params.toList args.toList ds p := hA0
  rw [Try.params9] at hA hval hsz
  obtain ⟨v0, vs0, d0, ds0, p0, q0, hargs, rfl, rfl, h0, r0⟩ := trodAll_cons hA
  obtain ⟨v1, vs1, d1, ds1, p1, q1, rfl, rfl, rfl, h1, r1⟩ := trodAll_cons r0
  obtain ⟨v2, vs2, d2, ds2, p2, q2, rfl, rfl, rfl, h2, r2⟩ := trodAll_cons r1
  obtain ⟨rfl, rfl, rfl⟩ := trodAll_nil r2
  obtain rfl : args = #[v0, v1, v2] := by cases args; simp_all
  obtain ⟨rfl, rfl⟩ := trodVars_none hV
  obtain ⟨a0, len0, cap0, rfl⟩ := okWide_slice Try.underlying38 (hval 0 38 v0 rfl rfl)
  have k0 := h0
  have lt0 : ∀ x ∈ p0, x.block < W.heap.size := by obtain ⟨m, hm⟩ := k0; exact DataW.trod_lt m _ _ _ hm
  obtain ⟨l0, rfl, hc0, hm0, hr0, hq0⟩ := LibO.arg_slice (d := (Kd.int .u64)) Try.underlying38 (by kernel_rfl) (LibO.opens_int Try.underlying51) h0
  obtain ⟨a1, len1, cap1, rfl⟩ := okWide_slice Try.underlying39 (hval 1 39 v1 rfl rfl)
  have k1 := h1
  have lt1 : ∀ x ∈ p1, x.block < W.heap.size := by obtain ⟨m, hm⟩ := k1; exact DataW.trod_lt m _ _ _ hm
  obtain ⟨l1, rfl, hc1, hm1, hr1, hq1⟩ := LibO.arg_slice (d := Print.k53) Try.underlying39 (by kernel_rfl) (LibO.opens_iso (fun x : Print.S53 => (x.f0, x.f1)) (fun p => (⟨p.1, p.2⟩ : Print.S53)) (fun _ => rfl) (LibO.opens_struct Try.underlying53 (by kernel_rfl) (fun n cs h => by obtain ⟨y0, h0⟩ := h 0 _ rfl; obtain ⟨y1, h1⟩ := h 1 _ rfl; exact (LibO.fo_pair rfl (LibO.fo_one (LibO.opens_int Try.underlying51) (by kernel_rfl) h0) (LibO.fo_one (LibO.opens_int Try.underlying3) (by kernel_rfl) h1))))) h1
  obtain ⟨a2, rfl, rfl, rfl, w2⟩ := open_int Try.underlying3 (hval 2 3 v2 rfl rfl) h2
  clear hA0 hval0 hsz0 hsz
  obtain ⟨k, hk⟩ := Pure.RunsTells l0 l1 a2 hm0 hq0 hm1 hq1 w2
  refine (Print.bonsailaw06_RunsTells.calls k a0 cap0 l0 a1 cap1 l1 a2 true W hr0 hc0 hr1 hc1 hk).mono fun e W' ⟨he, bel⟩ => ?_
  subst he
  exact ⟨_, rfl, _, _, _, [], _, [], hW', trodAll_mk1 (shut_bool Try.underlying4 _), (trodAll_cons_mk (Below.trod laidOut (by kernel_rfl) (of_decide_eq_true (by kernel_rfl)) k0 bel lt0) (trodAll_cons_mk (Below.trod laidOut (by kernel_rfl) (of_decide_eq_true (by kernel_rfl)) k1 bel lt1) (trodAll_cons_mk (shut_int Try.underlying3 w2) trodAll_mk0))), rfl, bel.frame _, fun h => by cases h⟩
theorem over : Rows.runsTellsRow.holds Try.pinned (OpenSpec.ofChange Rows.runsTellsSpec) :=
  OpenClaim.holds_of_wide 9 Try.f9 rfl rfl rfl rfl rfl rfl rfl ⟨rfl, rfl, rfl, rfl, rfl⟩ rfl rfl rfl rfl rfl (by kernel_rfl) Try.func9 (by kernel_rfl)
    (of_decide_eq_true (by kernel_rfl)) (by unfold Func.isWrapper; first | (rw [if_pos (by decide +kernel)]; kernel_rfl) | (rw [if_neg (by decide +kernel)]; exact ⟨rfl, rfl⟩))
    (fun os started H enc _ => lifted os started H enc)
theorem proved : Rows.RunsTellsSaid := over
#print axioms proved
end Go.Proofs.Ytbgjoiccehiglaa.runsTells
namespace Go.Proofs.Ytbgjoiccehiglaa
theorem runsTells_holds : Rows.RunsTellsSaid := runsTells.proved
end Go.Proofs.Ytbgjoiccehiglaa
end
