/- Part 5 of what DictBack stands on: merged by a program of this session out of its texts. -/
import Derived.Test.YtbgjoiccehiglaaCDictBack4
section
namespace Go.Proofs.Ytbgjoiccehiglaa.Print
open Go.RowKit Go.Proofs.YtbgjoiccehiglaaW.PrintWords Go.Proofs.YtbgjoiccehiglaaW.PrintLast Go.Proofs.YtbgjoiccehiglaaW.PrintMore
attribute [local go_sem] max2_int min2_int max_two min_two max_three min_three max_four min_four
set_option linter.unusedVariables false
set_option linter.unusedSimpArgs false
mutual
def bonsailaw08_DictBack.j0 : Nat → List ByteArray → ByteArray → Int → Bool → Option (Bool)
  | 0, _, _, _, _ => none
  | k + 1, x0, x1, x2, x26 => if x26 = true then ((bonsailaw08_live.f k).bind fun t974 => (some t974)) else (bonsailaw08_DictBack.l0 k x0 x1 x2 0 true 0)
def bonsailaw08_DictBack.l0 : Nat → List ByteArray → ByteArray → Int → Int → Bool → Int → Option (Bool)
  | 0, _, _, _, _, _, _ => none
  | k + 1, x0, x1, x2, x7, x8, x9 => if x9 < (x0.length : Int) then (if 0 ≤ x9 then (if x8 = true then ((bonsairef04_Valid.f k (rdOf ByteArray.empty x0 x9)).bind fun t977 => (bonsailaw08_DictBack.l0 k x0 x1 x2 (mx x7 ((rdOf ByteArray.empty x0 x9).size : Int)) t977 (wrap64 (x9 + 1)))) else (bonsailaw08_DictBack.l0 k x0 x1 x2 (mx x7 ((rdOf ByteArray.empty x0 x9).size : Int)) false (wrap64 (x9 + 1)))) else (none)) else ((dict_Encode.f k x0).bind fun t978 => ((dict_Decode.f k t978 (x0.length : Int) x7).bind fun bt979 => (if (x8 != (bt979.2 == 0)) = true then (bonsailaw08_DictBack.j2 k x0 x1 x2 x7 t978 true) else (if x8 = true then ((bonsairef04_Same.f k bt979.1 x0).bind fun t983 => (if t983 = true then (bonsailaw08_DictBack.j2 k x0 x1 x2 x7 t978 false) else (bonsailaw08_DictBack.j2 k x0 x1 x2 x7 t978 true))) else (bonsailaw08_DictBack.j2 k x0 x1 x2 x7 t978 (bt979.2 != 4))))))
def bonsailaw08_DictBack.j2 : Nat → List ByteArray → ByteArray → Int → Int → ByteArray → Bool → Option (Bool)
  | 0, _, _, _, _, _, _ => none
  | k + 1, x0, x1, x2, x7, x10, x79 => if x79 = true then (none) else (if x7 > 0 then ((dict_Decode.f k x10 (x0.length : Int) (wrap64 (x7 - 1))).bind fun bt984 => (if bt984.2 = 10 then (bonsailaw08_DictBack.j3 k x0 x1 x2 x7 x10) else (if bt984.2 = 4 then (bonsailaw08_DictBack.j3 k x0 x1 x2 x7 x10) else (none)))) else (bonsailaw08_DictBack.j3 k x0 x1 x2 x7 x10))
def bonsailaw08_DictBack.j3 : Nat → List ByteArray → ByteArray → Int → Int → ByteArray → Option (Bool)
  | 0, _, _, _, _, _ => none
  | k + 1, x0, x1, x2, x7, x10 => if x2 = (x0.length : Int) then (bonsailaw08_DictBack.j4 k x1 x2) else ((dict_Decode.f k x10 x2 x7).bind fun bt988 => (if bt988.2 = 0 then (none) else (bonsailaw08_DictBack.j4 k x1 x2)))
def bonsailaw08_DictBack.j4 : Nat → ByteArray → Int → Option (Bool)
  | 0, _, _ => none
  | k + 1, x1, x2 => (dict_Decode.f k x1 x2 60).bind fun bt992 => (if bt992.2 = 0 then (if (bt992.1.length : Int) = x2 then ((dict_Encode.f k bt992.1).bind fun t996 => (if t996.toList = x1.toList then ((bonsailaw08_live.f k).bind fun t997 => (some t997)) else (none))) else (none)) else (if (bt992.1.length : Int) = 0 then ((bonsailaw08_live.f k).bind fun t998 => (some t998)) else (none)))
end
def bonsailaw08_DictBack.f (k : Nat) (l0 : List ByteArray) (a1 : ByteArray) (a2 : Int) : Option (Bool) := (bonsairef04_Few.f k l0 60 60).bind fun t973 => (if t973 = true then (bonsailaw08_DictBack.j0 k l0 a1 a2 (decide ((a1.size : Int) > 500))) else (bonsailaw08_DictBack.j0 k l0 a1 a2 true))
set_option maxHeartbeats 8000000 in
set_option maxRecDepth 100000 in
theorem bonsailaw08_DictBack.calls (k : Nat) (A0 : Option Addr) (c0 : Nat) (l0 : List ByteArray) (a1 : ByteArray) (a2 : Int) (r : Bool) (w : World) (hr0 : Kd.C Kd.string w A0 l0.length l0) (hc0 : l0.length ≤ c0) (h : bonsailaw08_DictBack.f k l0 a1 a2 = some r) :
    Calls Try.prog 21 #[.slice A0 l0.length c0, .string a1, .int .i64 a2] w fun e w' => e = .returned (.bool r) ∧ Below w.heap.size w w' := by
  have HR0 := Aside0.mk hr0
  have HC0 := Aside0.mk hc0
  clear hr0 hc0
  have HB := Aside0.mk (Below.refl w.heap.size w)
  have H : ((bonsairef04_Few.f k l0 60 60).bind fun t973 => (if t973 = true then (bonsailaw08_DictBack.j0 k l0 a1 a2 (decide ((a1.size : Int) > 500))) else (bonsailaw08_DictBack.j0 k l0 a1 a2 true))) = some r := h
  clear h
  have HC4 := Aside0.mk H
  clear H
  go_enter Try.func21, Try.ntmps21
  go_upto_region 1 with (fail)
  go_cut [26] (fun v26 wc => ∃ (kq : Nat) (x26_3 : Bool), v26 = .bool x26_3 ∧ Aside0 (bonsailaw08_DictBack.j0 kq l0 a1 a2 x26_3 = some r) ∧ Aside0 (kq ≤ k) ∧ Aside0 (Below w.heap.size w wc))
  case first =>
    have H := HC4.out
    clear HC4
    replace H := Option.bind_eq_some_iff.mp H
    obtain ⟨t973, A50, H⟩ := H
    replace H : (if t973 = true then (bonsailaw08_DictBack.j0 k l0 a1 a2 (decide ((a1.size : Int) > 500))) else (bonsailaw08_DictBack.j0 k l0 a1 a2 true)) = some r := H
    have A5 := Aside0.mk A50
    clear A50
    by_cases c6 : t973 = true
    · subst c6
      have H1 : (bonsailaw08_DictBack.j0 k l0 a1 a2 (decide ((a1.size : Int) > 500))) = some r := by rw [if_pos rfl] at H; exact H
      clear H
      have H := H1
      clear H1
      have H' := Aside0.mk H
      clear H
      go_wp2_with (first | ((with_reducible refine gate_callee (f := 37) rfl ?_); refine goesL_ (some 20) rfl rfl Try.func37 (by kernel_rfl) rfl #[.slice A0 l0.length c0, .int .i64 60, .int .i64 60] rfl (by (try simp only [List.map_toArray, List.map_cons, List.map_nil]); first | done | rfl | (simp only [List.length_drop, List.length_take]; rfl)) ?_; (with_reducible refine (bonsairef04_Few.calls k _ _ l0 60 60 true _ ?side1 ?side2 A5.out).mono ?_); (case side1 => repeat (first | exact (Kd.C_below HR0.out HB.out) | (with_reducible refine Kd.C_alloc ?_ _) | (with_reducible refine Kd.C_drewN ?_ _) | (with_reducible refine Kd.C_drew ?_))); (case side2 => exact HC0.out); rintro e w' ⟨rfl, ⟨nd, rfl⟩⟩; refine ⟨_, rfl, ?_⟩))
      go_meet
      case rel => exact ⟨_, (decide ((a1.size : Int) > 500)), (by first | rfl | (simp; done) | (simp [*]; done)), H', ⟨by first | omega | exact Nat.le_refl _⟩, ⟨by repeat (first | (with_reducible first | exact HB.out | apply below_alloc | apply pw_below_drewN | apply below_drew1) | exact HB.out)⟩⟩
    · replace c6 := Bool.eq_false_iff.mpr c6
      subst c6
      have H1 : (bonsailaw08_DictBack.j0 k l0 a1 a2 true) = some r := by rw [if_neg (show ¬ (false = true) by decide)] at H; exact H
      clear H
      have H := H1
      clear H1
      have H' := Aside0.mk H
      clear H
      go_wp2_with (first | ((with_reducible refine gate_callee (f := 37) rfl ?_); refine goesL_ (some 20) rfl rfl Try.func37 (by kernel_rfl) rfl #[.slice A0 l0.length c0, .int .i64 60, .int .i64 60] rfl (by (try simp only [List.map_toArray, List.map_cons, List.map_nil]); first | done | rfl | (simp only [List.length_drop, List.length_take]; rfl)) ?_; (with_reducible refine (bonsairef04_Few.calls k _ _ l0 60 60 false _ ?side1 ?side2 A5.out).mono ?_); (case side1 => repeat (first | exact (Kd.C_below HR0.out HB.out) | (with_reducible refine Kd.C_alloc ?_ _) | (with_reducible refine Kd.C_drewN ?_ _) | (with_reducible refine Kd.C_drew ?_))); (case side2 => exact HC0.out); rintro e w' ⟨rfl, ⟨nd, rfl⟩⟩; refine ⟨_, rfl, ?_⟩))
      go_meet
      case rel => exact ⟨_, (true), (by first | rfl | (simp; done) | (simp [*]; done)), H', ⟨by first | omega | exact Nat.le_refl _⟩, ⟨by repeat (first | (with_reducible first | exact HB.out | apply below_alloc | apply pw_below_drewN | apply below_drew1) | exact HB.out)⟩⟩
  case rest =>
    clear HC4
    try clear c2
    try clear p2
    try clear c3
    try clear c6
    obtain ⟨kq, x26_3, rfl, HA, HJ3, HB⟩ := hcut
    cases kq with
    | zero => exact absurd HA.out (by simp [bonsailaw08_DictBack.j0])
    | succ kj3 =>
      have H := HA.out
      clear HA
      simp only [bonsailaw08_DictBack.j0] at H
      by_cases c7 : x26_3 = true
      · subst c7
        have H1 : ((bonsailaw08_live.f kj3).bind fun t974 => (some t974)) = some r := by rw [if_pos rfl] at H; exact H
        clear H
        have H := H1
        clear H1
        replace H := Option.bind_eq_some_iff.mp H
        obtain ⟨t974, A80, H⟩ := H
        replace H : (some t974) = some r := H
        have A8 := Aside0.mk A80
        clear A80
        obtain rfl := Option.some.inj H
        go_wp2_with (first | ((with_reducible refine gate_callee (f := 64) rfl ?_); refine goesL_ (some 27) rfl rfl Try.func64 (by kernel_rfl) rfl #[] rfl (by (try simp only [List.map_toArray, List.map_cons, List.map_nil]); first | done | rfl | (simp only [List.length_drop, List.length_take]; rfl)) ?_; (with_reducible refine (bonsailaw08_live.calls kj3  t974 _ A8.out).mono ?_); rintro e w9 ⟨rfl, hb⟩; refine ⟨_, rfl, ?_⟩; have n0_ := Aside0.mk (below_step (by repeat (first | (with_reducible first | exact HB.out | apply below_alloc | apply pw_below_drewN | apply below_drew1) | exact HB.out)) hb); clear HB; have HB := n0_; clear n0_; (try clear hb); (try clear hb2); (try clear hk); (try clear hi)))
        go_ret
        exact ⟨by first | rfl | (simp [errW_none, errW_some] <;> rfl) | (simp [*, errW_none, errW_some] <;> rfl), by repeat (first | (with_reducible first | exact HB.out | apply below_alloc | apply pw_below_drewN | apply below_drew1) | exact HB.out)⟩
      · replace c7 := Bool.eq_false_iff.mpr c7
        subst c7
        have H1 : (bonsailaw08_DictBack.l0 kj3 l0 a1 a2 0 true 0) = some r := by rw [if_neg (show ¬ (false = true) by decide)] at H; exact H
        clear H
        have H := H1
        clear H1
        have H' := Aside0.mk H
        clear H
        go_wp2
        go_loopg [7, 8, 9] kj3 (fun kq v7 v8 v9 w' => ∃ (x7_2 : Int) (x8_2 : Bool) (x9_2 : Int), v7 = .int .i64 x7_2 ∧ v8 = .bool x8_2 ∧ v9 = .int .i64 x9_2 ∧ Aside0 (bonsailaw08_DictBack.l0 kq l0 a1 a2 x7_2 x8_2 x9_2 = some r) ∧ Aside0 (kq ≤ kj3) ∧ Aside0 (Below w.heap.size w w'))
        case atStart => exact ⟨(0), (true), (0), (by first | rfl | (simp; done) | (simp [*]; done)), (by first | rfl | (simp; done) | (simp [*]; done)), (by first | rfl | (simp; done) | (simp [*]; done)), H', ⟨Nat.le_refl _⟩, ⟨by repeat (first | (with_reducible first | exact HB.out | apply below_alloc | apply pw_below_drewN | apply below_drew1) | exact HB.out)⟩⟩
        case round =>
          clear H'
          try clear c2
          try clear p2
          try clear c3
          try clear c6
          try clear c7
          try clear p2
          obtain ⟨x7_2, x8_2, x9_2, rfl, rfl, rfl, HA, HK2, HB⟩ := hrel
          cases gk with
          | zero => exact absurd HA.out (by simp [bonsailaw08_DictBack.l0])
          | succ k2 =>
            have H := HA.out
            clear HA
            simp only [bonsailaw08_DictBack.l0] at H
            by_cases c10 : x9_2 < (l0.length : Int)
            · rw [if_pos c10] at H
              have c10b0 : decide (x9_2 < (l0.length : Int)) = true := decide_eq_true c10
              clear c10
              by_cases c11 : 0 ≤ x9_2
              · rw [if_pos c11] at H
                have c11b0 : decide (0 ≤ x9_2) = true := decide_eq_true c11
                clear c11
                obtain ⟨ji12, hji12⟩ : ∃ j_ : Int, (mx x7_2 ((rdOf ByteArray.empty l0 x9_2).size : Int)) = j_ := ⟨_, rfl⟩
                replace H : (if x8_2 = true then ((bonsairef04_Valid.f k2 (rdOf ByteArray.empty l0 x9_2)).bind fun t977 => (bonsailaw08_DictBack.l0 k2 l0 a1 a2 ji12 t977 (wrap64 (x9_2 + 1)))) else (bonsailaw08_DictBack.l0 k2 l0 a1 a2 ji12 false (wrap64 (x9_2 + 1)))) = some r := by first | (rw [hji12] at H; exact H) | (simp only [hji12] at H ⊢; exact H)
                have hji12_ : (if x7_2 < ((rdOf ByteArray.empty l0 x9_2).size : Int) then ((rdOf ByteArray.empty l0 x9_2).size : Int) else x7_2) = ji12 := hji12
                by_cases c13 : x8_2 = true
                · subst c13
                  have H1 : ((bonsairef04_Valid.f k2 (rdOf ByteArray.empty l0 x9_2)).bind fun t977 => (bonsailaw08_DictBack.l0 k2 l0 a1 a2 ji12 t977 (wrap64 (x9_2 + 1)))) = some r := by rw [if_pos rfl] at H; exact H
                  clear H
                  have H := H1
                  clear H1
                  replace H := Option.bind_eq_some_iff.mp H
                  obtain ⟨t977, A140, H⟩ := H
                  replace H : (bonsailaw08_DictBack.l0 k2 l0 a1 a2 ji12 t977 (wrap64 (x9_2 + 1))) = some r := H
                  have A14 := Aside0.mk A140
                  clear A140
                  have H' := Aside0.mk H
                  clear H
                  have p975 : 0 ≤ (x9_2 : Int) := of_decide_eq_true (by first | (with_reducible assumption) | assumption)
                  have q975 : x9_2 < (l0.length : Int) := of_decide_eq_true (by first | (with_reducible assumption) | assumption)
                  obtain ⟨ad975, e975, hx975_0⟩ := Kd.at_string HR0.out x9_2 p975 q975
                  cases e975
                  replace hx975_0 := (HB.out.cell (World.block_lt_of_cell? w _ hx975_0)).trans hx975_0
                  replace p975 := eq_true p975
                  replace q975 := eq_true q975
                  have p976 : 0 ≤ (x9_2 : Int) := of_decide_eq_true (by first | (with_reducible assumption) | assumption)
                  have q976 : x9_2 < (l0.length : Int) := of_decide_eq_true (by first | (with_reducible assumption) | assumption)
                  obtain ⟨ad976, e976, hx976_0⟩ := Kd.at_string HR0.out x9_2 p976 q976
                  obtain rfl : ad975 = ad976 := (by injection e976)
                  replace hx976_0 := (HB.out.cell (World.block_lt_of_cell? w _ hx976_0)).trans hx976_0
                  replace p976 := eq_true p976
                  replace q976 := eq_true q976
                  go_wp2_with (first | (go_at_call 30; (with_reducible refine (bonsairef04_Valid.calls k2 (rdOf ByteArray.empty l0 x9_2) t977 _ A14.out).mono ?_); rintro e w' ⟨rfl, ⟨nd, rfl⟩⟩))
                  go_roundg k2
                  case measure => have := HJ3.out; have := HK2.out; omega
                  case rel => exact ⟨(ji12), (t977), (wrap64 (x9_2 + 1)), (by first | rfl | (simp; done) | (simp only [← hji12] <;> (first | rfl | simp)) | (simp [*]; done)), (by first | rfl | (simp; done) | (simp [*]; done)), (by first | rfl | (simp; done) | (simp [*]; done)), H', ⟨by have := HJ3.out; have := HK2.out; omega⟩, ⟨by repeat (first | (with_reducible first | exact HB.out | apply below_alloc | apply pw_below_drewN | apply below_drew1) | exact HB.out)⟩⟩
                · replace c13 := Bool.eq_false_iff.mpr c13
                  subst c13
                  have H1 : (bonsailaw08_DictBack.l0 k2 l0 a1 a2 ji12 false (wrap64 (x9_2 + 1))) = some r := by rw [if_neg (show ¬ (false = true) by decide)] at H; exact H
                  clear H
                  have H := H1
                  clear H1
                  have H' := Aside0.mk H
                  clear H
                  have p975 : 0 ≤ (x9_2 : Int) := of_decide_eq_true (by first | (with_reducible assumption) | assumption)
                  have q975 : x9_2 < (l0.length : Int) := of_decide_eq_true (by first | (with_reducible assumption) | assumption)
                  obtain ⟨ad975, e975, hx975_0⟩ := Kd.at_string HR0.out x9_2 p975 q975
                  cases e975
                  replace hx975_0 := (HB.out.cell (World.block_lt_of_cell? w _ hx975_0)).trans hx975_0
                  replace p975 := eq_true p975
                  replace q975 := eq_true q975
                  go_wp2
                  go_roundg k2
                  case measure => have := HJ3.out; have := HK2.out; omega
                  case rel => exact ⟨(ji12), (false), (wrap64 (x9_2 + 1)), (by first | rfl | (simp; done) | (simp only [← hji12] <;> (first | rfl | simp)) | (simp [*]; done)), (by first | rfl | (simp; done) | (simp [*]; done)), (by first | rfl | (simp; done) | (simp [*]; done)), H', ⟨by have := HJ3.out; have := HK2.out; omega⟩, ⟨by repeat (first | (with_reducible first | exact HB.out | apply below_alloc | apply pw_below_drewN | apply below_drew1) | exact HB.out)⟩⟩
              · rw [if_neg c11] at H
                exact absurd H (by simp)
            · rw [if_neg c10] at H
              have c10b0 : decide (x9_2 < (l0.length : Int)) = false := decide_eq_false c10
              clear c10
              replace H := Option.bind_eq_some_iff.mp H
              obtain ⟨t978, A150, H⟩ := H
              replace H : ((dict_Decode.f k2 t978 (l0.length : Int) x7_2).bind fun bt979 => (if (x8_2 != (bt979.2 == 0)) = true then (bonsailaw08_DictBack.j2 k2 l0 a1 a2 x7_2 t978 true) else (if x8_2 = true then ((bonsairef04_Same.f k2 bt979.1 l0).bind fun t983 => (if t983 = true then (bonsailaw08_DictBack.j2 k2 l0 a1 a2 x7_2 t978 false) else (bonsailaw08_DictBack.j2 k2 l0 a1 a2 x7_2 t978 true))) else (bonsailaw08_DictBack.j2 k2 l0 a1 a2 x7_2 t978 (bt979.2 != 4))))) = some r := H
              have A15 := Aside0.mk A150
              clear A150
              replace H := Option.bind_eq_some_iff.mp H
              obtain ⟨⟨t979, t980⟩, A160, H⟩ := H
              replace H : (if (x8_2 != (t980 == 0)) = true then (bonsailaw08_DictBack.j2 k2 l0 a1 a2 x7_2 t978 true) else (if x8_2 = true then ((bonsairef04_Same.f k2 t979 l0).bind fun t983 => (if t983 = true then (bonsailaw08_DictBack.j2 k2 l0 a1 a2 x7_2 t978 false) else (bonsailaw08_DictBack.j2 k2 l0 a1 a2 x7_2 t978 true))) else (bonsailaw08_DictBack.j2 k2 l0 a1 a2 x7_2 t978 (t980 != 4)))) = some r := H
              have A16 := Aside0.mk A160
              clear A160
              have HC17 := Aside0.mk H
              clear H
              go_upto_region 12 with (first | ((with_reducible refine gate_callee (f := 70) rfl ?_); refine goesL_ (some 50) rfl rfl Try.func70 (by kernel_rfl) rfl #[.slice A0 l0.length c0] rfl (by (try simp only [List.map_toArray, List.map_cons, List.map_nil]); first | done | rfl | (simp only [List.length_drop, List.length_take]; rfl)) ?_; (with_reducible refine (dict_Encode.calls k2 _ _ l0 t978 _ ?side1 ?side2 A15.out).mono ?_); (case side1 => repeat (first | exact (Kd.C_below HR0.out HB.out) | (with_reducible refine Kd.C_alloc ?_ _) | (with_reducible refine Kd.C_drewN ?_ _) | (with_reducible refine Kd.C_drew ?_))); (case side2 => exact HC0.out); rintro e w18 ⟨rfl, hb⟩; refine ⟨_, rfl, ?_⟩; have n0_ := Aside0.mk (below_step (by repeat (first | (with_reducible first | exact HB.out | apply below_alloc | apply pw_below_drewN | apply below_drew1) | exact HB.out)) hb); clear HB; have HB := n0_; clear n0_; (try clear hb); (try clear hb2); (try clear hk); (try clear hi)) | ((with_reducible refine gate_callee (f := 74) rfl ?_); refine goesL_ (some 56) rfl rfl Try.func74 (by kernel_rfl) rfl #[.string t978, .int .i64 (l0.length : Int), .int .i64 x7_2] rfl (by (try simp only [List.map_toArray, List.map_cons, List.map_nil]); first | done | rfl | (simp only [List.length_drop, List.length_take]; rfl)) ?_; (with_reducible refine (dict_Decode.calls k2 t978 (l0.length : Int) x7_2 t979 t980 _ A16.out).mono ?_); rintro e w19 ⟨v981, rfl, ho0, hb⟩; refine ⟨_, rfl, ?_⟩; have n0_ := Aside0.mk (Kd.R_lower ho0 (below_size (by repeat (first | (with_reducible first | exact HB.out | apply below_alloc | apply pw_below_drewN | apply below_drew1) | exact HB.out)))); have n1_ := Aside0.mk (below_step (by repeat (first | (with_reducible first | exact HB.out | apply below_alloc | apply pw_below_drewN | apply below_drew1) | exact HB.out)) hb); clear HB; have HO982 := n0_; have HB := n1_; clear n0_ n1_; (try clear hb); (try clear hb2); (try clear hk); (try clear hi); (try clear ho0)))
              (try simp only [Act.put, List.setIfInBounds_toArray, List.set_cons_zero, List.set_cons_succ])
              go_cut [79] (fun v79 wc => ∃ (kq : Nat) (x79_16 : Bool), v79 = .bool x79_16 ∧ Aside0 (bonsailaw08_DictBack.j2 kq l0 a1 a2 x7_2 t978 x79_16 = some r) ∧ Aside0 (kq ≤ k2) ∧ Aside0 (Below w.heap.size w wc))
              case first =>
                have H := HC17.out
                clear HC17
                by_cases c20 : (x8_2 != (t980 == 0)) = true
                · rw [if_pos c20] at H
                  have c20b0 : (x8_2 != (t980 == 0)) = true := c20
                  (try (have c20b1 : decide (x8_2 = (t980 == 0)) = false := by simpa using c20))
                  (try (have c20b2 : (x8_2 == (t980 == 0)) = false := by simpa using c20))
                  (try (have c20b3 : ¬ (x8_2 = (t980 == 0)) := by simpa using c20))
                  clear c20
                  (first | rw [c20b0] | (simp only [i64_w, i32_w]; rw [c20b0]) | skip)
                  have H' := Aside0.mk H
                  clear H
                  go_wp2
                  go_meet
                  case rel => exact ⟨_, (true), (by first | rfl | (simp; done) | (simp [*]; done)), H', ⟨by have := HJ3.out; have := HK2.out; first | omega | exact Nat.le_refl _⟩, ⟨by repeat (first | (with_reducible first | exact HB.out | apply below_alloc | apply pw_below_drewN | apply below_drew1) | exact HB.out)⟩⟩
                · rw [if_neg c20] at H
                  have c20b0 : (x8_2 != (t980 == 0)) = false := by simpa using c20
                  (try (have c20b1 : decide (x8_2 = (t980 == 0)) = true := by simpa using c20))
                  (try (have c20b2 : (x8_2 == (t980 == 0)) = true := by simpa using c20))
                  clear c20
                  (first | rw [c20b0] | (simp only [i64_w, i32_w]; rw [c20b0]) | skip)
                  by_cases c21 : x8_2 = true
                  · subst c21
                    have H1 : ((bonsairef04_Same.f k2 t979 l0).bind fun t983 => (if t983 = true then (bonsailaw08_DictBack.j2 k2 l0 a1 a2 x7_2 t978 false) else (bonsailaw08_DictBack.j2 k2 l0 a1 a2 x7_2 t978 true))) = some r := by rw [if_pos rfl] at H; exact H
                    clear H
                    have H := H1
                    clear H1
                    replace H := Option.bind_eq_some_iff.mp H
                    obtain ⟨t983, A220, H⟩ := H
                    replace H : (if t983 = true then (bonsailaw08_DictBack.j2 k2 l0 a1 a2 x7_2 t978 false) else (bonsailaw08_DictBack.j2 k2 l0 a1 a2 x7_2 t978 true)) = some r := H
                    have A22 := Aside0.mk A220
                    clear A220
                    by_cases c23 : t983 = true
                    · subst c23
                      have H1 : (bonsailaw08_DictBack.j2 k2 l0 a1 a2 x7_2 t978 false) = some r := by rw [if_pos rfl] at H; exact H
                      clear H
                      have H := H1
                      clear H1
                      have H' := Aside0.mk H
                      clear H
                      obtain ⟨Ao24, co24, eo24⟩ := Kd.R_slice HO982.out
                      subst eo24
                      go_wp2_with (first | (go_at_call 69; (with_reducible refine (bonsairef04_Same.calls k2 _ _ t979 _ _ l0 true _ ?side1 ?side2 ?side3 ?side4 A22.out).mono ?_); (case side1 => repeat (first | exact (Kd.R_reads' HO982.out).2.2 | (with_reducible refine Kd.C_alloc ?_ _) | (with_reducible refine Kd.C_drewN ?_ _) | (with_reducible refine Kd.C_drew ?_))); (case side2 => exact (Kd.R_reads' HO982.out).2.1); (case side3 => repeat (first | exact (Kd.C_below HR0.out HB.out) | (with_reducible refine Kd.C_alloc ?_ _) | (with_reducible refine Kd.C_drewN ?_ _) | (with_reducible refine Kd.C_drew ?_))); (case side4 => exact HC0.out); rintro e w' ⟨rfl, ⟨nd, rfl⟩⟩))
                      go_meet
                      case rel => exact ⟨_, (false), (by first | rfl | (simp; done) | (simp [*]; done)), H', ⟨by have := HJ3.out; have := HK2.out; first | omega | exact Nat.le_refl _⟩, ⟨by repeat (first | (with_reducible first | exact HB.out | apply below_alloc | apply pw_below_drewN | apply below_drew1) | exact HB.out)⟩⟩
                    · replace c23 := Bool.eq_false_iff.mpr c23
                      subst c23
                      have H1 : (bonsailaw08_DictBack.j2 k2 l0 a1 a2 x7_2 t978 true) = some r := by rw [if_neg (show ¬ (false = true) by decide)] at H; exact H
                      clear H
                      have H := H1
                      clear H1
                      have H' := Aside0.mk H
                      clear H
                      obtain ⟨Ao25, co25, eo25⟩ := Kd.R_slice HO982.out
                      subst eo25
                      go_wp2_with (first | (go_at_call 69; (with_reducible refine (bonsairef04_Same.calls k2 _ _ t979 _ _ l0 false _ ?side1 ?side2 ?side3 ?side4 A22.out).mono ?_); (case side1 => repeat (first | exact (Kd.R_reads' HO982.out).2.2 | (with_reducible refine Kd.C_alloc ?_ _) | (with_reducible refine Kd.C_drewN ?_ _) | (with_reducible refine Kd.C_drew ?_))); (case side2 => exact (Kd.R_reads' HO982.out).2.1); (case side3 => repeat (first | exact (Kd.C_below HR0.out HB.out) | (with_reducible refine Kd.C_alloc ?_ _) | (with_reducible refine Kd.C_drewN ?_ _) | (with_reducible refine Kd.C_drew ?_))); (case side4 => exact HC0.out); rintro e w' ⟨rfl, ⟨nd, rfl⟩⟩))
                      go_meet
                      case rel => exact ⟨_, (true), (by first | rfl | (simp; done) | (simp [*]; done)), H', ⟨by have := HJ3.out; have := HK2.out; first | omega | exact Nat.le_refl _⟩, ⟨by repeat (first | (with_reducible first | exact HB.out | apply below_alloc | apply pw_below_drewN | apply below_drew1) | exact HB.out)⟩⟩
                  · replace c21 := Bool.eq_false_iff.mpr c21
                    subst c21
                    have H1 : (bonsailaw08_DictBack.j2 k2 l0 a1 a2 x7_2 t978 (t980 != 4)) = some r := by rw [if_neg (show ¬ (false = true) by decide)] at H; exact H
                    clear H
                    have H := H1
                    clear H1
                    have H' := Aside0.mk H
                    clear H
                    go_wp2
                    go_meet
                    case rel => exact ⟨_, ((t980 != 4)), (by first | rfl | (simp; done) | (simp [*]; done)), H', ⟨by have := HJ3.out; have := HK2.out; first | omega | exact Nat.le_refl _⟩, ⟨by repeat (first | (with_reducible first | exact HB.out | apply below_alloc | apply pw_below_drewN | apply below_drew1) | exact HB.out)⟩⟩
              case rest =>
                clear HC17
                try clear c1
                try clear c2
                try clear p2
                try clear c3
                try clear c6
                try clear p6
                try clear c7
                try clear p9
                try clear q9
                try clear hx9
                try clear c10
                try clear c10b0
                try clear c11
                try clear c11b0
                try clear c13
                try clear c20
                try clear c20b0
                try clear c20b1
                try clear c20b2
                try clear c21
                try clear c23
                try clear hx975_0
                try clear hx976_0
                try clear p2
                try clear p975
                try clear p976
                try clear q975
                try clear q976
                obtain ⟨kq, x79_16, rfl, HA, HJ16, HB⟩ := hcut
                cases kq with
                | zero => exact absurd HA.out (by simp [bonsailaw08_DictBack.j2])
                | succ kj16 =>
                  have H := HA.out
                  clear HA
                  simp only [bonsailaw08_DictBack.j2] at H
                  by_cases c26 : x79_16 = true
                  · subst c26
                    have H1 : (none) = some r := by rw [if_pos rfl] at H; exact H
                    clear H
                    have H := H1
                    clear H1
                    exact absurd H (by simp)
                  · replace c26 := Bool.eq_false_iff.mpr c26
                    subst c26
                    have H1 : (if x7_2 > 0 then ((dict_Decode.f kj16 t978 (l0.length : Int) (wrap64 (x7_2 - 1))).bind fun bt984 => (if bt984.2 = 10 then (bonsailaw08_DictBack.j3 kj16 l0 a1 a2 x7_2 t978) else (if bt984.2 = 4 then (bonsailaw08_DictBack.j3 kj16 l0 a1 a2 x7_2 t978) else (none)))) else (bonsailaw08_DictBack.j3 kj16 l0 a1 a2 x7_2 t978)) = some r := by rw [if_neg (show ¬ (false = true) by decide)] at H; exact H
                    clear H
                    have H := H1
                    clear H1
                    have HC27 := Aside0.mk H
                    clear H
                    go_upto_if 81 with (fail)
                    go_cut [] (fun wc => ∃ (kq : Nat), Aside0 (bonsailaw08_DictBack.j3 kq l0 a1 a2 x7_2 t978 = some r) ∧ Aside0 (kq ≤ kj16) ∧ Aside0 (Below w.heap.size w wc))
                    case first =>
                      have H := HC27.out
                      clear HC27
                      by_cases c28 : x7_2 > 0
                      · rw [if_pos c28] at H
                        have c28b0 : decide (0 < x7_2) = true := decide_eq_true c28
                        clear c28
                        (first | rw [c28b0] | (simp only [i64_w, i32_w]; rw [c28b0]) | skip)
                        replace H := Option.bind_eq_some_iff.mp H
                        obtain ⟨⟨t984, t985⟩, A290, H⟩ := H
                        replace H : (if t985 = 10 then (bonsailaw08_DictBack.j3 kj16 l0 a1 a2 x7_2 t978) else (if t985 = 4 then (bonsailaw08_DictBack.j3 kj16 l0 a1 a2 x7_2 t978) else (none))) = some r := H
                        have A29 := Aside0.mk A290
                        clear A290
                        by_cases c30 : t985 = 10
                        · rw [if_pos c30] at H
                          have c30b0 : (t985 == 10) = true := beq_iff_eq.mpr c30
                          have c30b1 : (t985 != 10) = false := bne_eq_false_iff_eq.mpr c30
                          clear c30
                          have H' := Aside0.mk H
                          clear H
                          go_wp2_with (first | ((with_reducible refine gate_callee (f := 74) rfl ?_); refine goesL_ (some 88) rfl rfl Try.func74 (by kernel_rfl) rfl #[.string t978, .int .i64 (l0.length : Int), .int .i64 (wrap64 (x7_2 - 1))] rfl (by (try simp only [List.map_toArray, List.map_cons, List.map_nil]); first | done | rfl | (simp only [List.length_drop, List.length_take]; rfl)) ?_; (with_reducible refine (dict_Decode.calls kj16 t978 (l0.length : Int) (wrap64 (x7_2 - 1)) t984 t985 _ A29.out).mono ?_); rintro e w31 ⟨v986, rfl, ho0, hb⟩; refine ⟨_, rfl, ?_⟩; have n0_ := Aside0.mk (Kd.R_lower ho0 (below_size (by repeat (first | (with_reducible first | exact HB.out | apply below_alloc | apply pw_below_drewN | apply below_drew1) | exact HB.out)))); have n1_ := Aside0.mk (below_step (by repeat (first | (with_reducible first | exact HB.out | apply below_alloc | apply pw_below_drewN | apply below_drew1) | exact HB.out)) hb); clear HB; have HO987 := n0_; have HB := n1_; clear n0_ n1_; (try clear hb); (try clear hb2); (try clear hk); (try clear hi); (try clear ho0)))
                          go_meet
                          case rel => exact ⟨_, H', ⟨by have := HJ3.out; have := HK2.out; have := HJ16.out; first | omega | exact Nat.le_refl _⟩, ⟨by repeat (first | (with_reducible first | exact HB.out | apply below_alloc | apply pw_below_drewN | apply below_drew1) | exact HB.out)⟩⟩
                        · rw [if_neg c30] at H
                          have c30b0 : (t985 == 10) = false := beq_eq_false_iff_ne.mpr c30
                          have c30b1 : (t985 != 10) = true := bne_iff_ne.mpr c30
                          by_cases c32 : t985 = 4
                          · rw [if_pos c32] at H
                            have c32b0 : (t985 == 4) = true := beq_iff_eq.mpr c32
                            have c32b1 : (t985 != 4) = false := bne_eq_false_iff_eq.mpr c32
                            clear c32
                            have H' := Aside0.mk H
                            clear H
                            go_wp2_with (first | ((with_reducible refine gate_callee (f := 74) rfl ?_); refine goesL_ (some 88) rfl rfl Try.func74 (by kernel_rfl) rfl #[.string t978, .int .i64 (l0.length : Int), .int .i64 (wrap64 (x7_2 - 1))] rfl (by (try simp only [List.map_toArray, List.map_cons, List.map_nil]); first | done | rfl | (simp only [List.length_drop, List.length_take]; rfl)) ?_; (with_reducible refine (dict_Decode.calls kj16 t978 (l0.length : Int) (wrap64 (x7_2 - 1)) t984 t985 _ A29.out).mono ?_); rintro e w33 ⟨v986, rfl, ho0, hb⟩; refine ⟨_, rfl, ?_⟩; have n0_ := Aside0.mk (Kd.R_lower ho0 (below_size (by repeat (first | (with_reducible first | exact HB.out | apply below_alloc | apply pw_below_drewN | apply below_drew1) | exact HB.out)))); have n1_ := Aside0.mk (below_step (by repeat (first | (with_reducible first | exact HB.out | apply below_alloc | apply pw_below_drewN | apply below_drew1) | exact HB.out)) hb); clear HB; have HO987 := n0_; have HB := n1_; clear n0_ n1_; (try clear hb); (try clear hb2); (try clear hk); (try clear hi); (try clear ho0)))
                            go_meet
                            case rel => exact ⟨_, H', ⟨by have := HJ3.out; have := HK2.out; have := HJ16.out; first | omega | exact Nat.le_refl _⟩, ⟨by repeat (first | (with_reducible first | exact HB.out | apply below_alloc | apply pw_below_drewN | apply below_drew1) | exact HB.out)⟩⟩
                          · rw [if_neg c32] at H
                            exact absurd H (by simp)
                      · rw [if_neg c28] at H
                        have c28b0 : decide (0 < x7_2) = false := decide_eq_false c28
                        clear c28
                        (first | rw [c28b0] | (simp only [i64_w, i32_w]; rw [c28b0]) | skip)
                        have H' := Aside0.mk H
                        clear H
                        go_wp2
                        go_meet
                        case rel => exact ⟨_, H', ⟨by have := HJ3.out; have := HK2.out; have := HJ16.out; first | omega | exact Nat.le_refl _⟩, ⟨by repeat (first | (with_reducible first | exact HB.out | apply below_alloc | apply pw_below_drewN | apply below_drew1) | exact HB.out)⟩⟩
                    case rest =>
                      clear HC27
                      try clear c1
                      try clear c2
                      try clear p2
                      try clear c3
                      try clear c6
                      try clear p6
                      try clear c7
                      try clear p9
                      try clear q9
                      try clear hx9
                      try clear c10
                      try clear c10b0
                      try clear c11
                      try clear c11b0
                      try clear c13
                      try clear c20
                      try clear c20b0
                      try clear c20b1
                      try clear c20b2
                      try clear c21
                      try clear c23
                      try clear c26
                      try clear c28
                      try clear c28b0
                      try clear c30
                      try clear c30b0
                      try clear c30b1
                      try clear c32
                      try clear c32b0
                      try clear c32b1
                      try clear hx975_0
                      try clear hx976_0
                      try clear p2
                      try clear p6
                      try clear p9
                      try clear p975
                      try clear p976
                      try clear q9
                      try clear q975
                      try clear q976
                      obtain ⟨kq, HA, HJ26, HB⟩ := hcut
                      cases kq with
                      | zero => exact absurd HA.out (by simp [bonsailaw08_DictBack.j3])
                      | succ kj26 =>
                        have H := HA.out
                        clear HA
                        simp only [bonsailaw08_DictBack.j3] at H
                        have HC34 := Aside0.mk H
                        clear H
                        go_upto_if 100 with (fail)
                        go_cut [] (fun wc => ∃ (kq : Nat), Aside0 (bonsailaw08_DictBack.j4 kq a1 a2 = some r) ∧ Aside0 (kq ≤ kj26) ∧ Aside0 (Below w.heap.size w wc))
                        case first =>
                          have H := HC34.out
                          clear HC34
                          by_cases c35 : a2 = (l0.length : Int)
                          · rw [if_pos c35] at H
                            have c35b0 : (a2 == (l0.length : Int)) = true := beq_iff_eq.mpr c35
                            have c35b1 : (a2 != (l0.length : Int)) = false := bne_eq_false_iff_eq.mpr c35
                            clear c35
                            (first | rw [c35b0] | (simp only [i64_w, i32_w]; rw [c35b0]) | skip)
                            have H' := Aside0.mk H
                            clear H
                            go_wp2
                            go_meet
                            case rel => exact ⟨_, H', ⟨by have := HJ3.out; have := HK2.out; have := HJ16.out; have := HJ26.out; first | omega | exact Nat.le_refl _⟩, ⟨by repeat (first | (with_reducible first | exact HB.out | apply below_alloc | apply pw_below_drewN | apply below_drew1) | exact HB.out)⟩⟩
                          · rw [if_neg c35] at H
                            have c35b0 : (a2 == (l0.length : Int)) = false := beq_eq_false_iff_ne.mpr c35
                            have c35b1 : (a2 != (l0.length : Int)) = true := bne_iff_ne.mpr c35
                            (first | rw [c35b0] | (simp only [i64_w, i32_w]; rw [c35b0]) | skip)
                            replace H := Option.bind_eq_some_iff.mp H
                            obtain ⟨⟨t988, t989⟩, A360, H⟩ := H
                            replace H : (if t989 = 0 then (none) else (bonsailaw08_DictBack.j4 kj26 a1 a2)) = some r := H
                            have A36 := Aside0.mk A360
                            clear A360
                            by_cases c37 : t989 = 0
                            · rw [if_pos c37] at H
                              exact absurd H (by simp)
                            · rw [if_neg c37] at H
                              have c37b0 : (t989 == 0) = false := beq_eq_false_iff_ne.mpr c37
                              have c37b1 : (t989 != 0) = true := bne_iff_ne.mpr c37
                              have H' := Aside0.mk H
                              clear H
                              go_wp2_with (first | ((with_reducible refine gate_callee (f := 74) rfl ?_); refine goesL_ (some 105) rfl rfl Try.func74 (by kernel_rfl) rfl #[.string t978, .int .i64 a2, .int .i64 x7_2] rfl (by (try simp only [List.map_toArray, List.map_cons, List.map_nil]); first | done | rfl | (simp only [List.length_drop, List.length_take]; rfl)) ?_; (with_reducible refine (dict_Decode.calls kj26 t978 a2 x7_2 t988 t989 _ A36.out).mono ?_); rintro e w38 ⟨v990, rfl, ho0, hb⟩; refine ⟨_, rfl, ?_⟩; have n0_ := Aside0.mk (Kd.R_lower ho0 (below_size (by repeat (first | (with_reducible first | exact HB.out | apply below_alloc | apply pw_below_drewN | apply below_drew1) | exact HB.out)))); have n1_ := Aside0.mk (below_step (by repeat (first | (with_reducible first | exact HB.out | apply below_alloc | apply pw_below_drewN | apply below_drew1) | exact HB.out)) hb); clear HB; have HO991 := n0_; have HB := n1_; clear n0_ n1_; (try clear hb); (try clear hb2); (try clear hk); (try clear hi); (try clear ho0)))
                              go_meet
                              case rel => exact ⟨_, H', ⟨by have := HJ3.out; have := HK2.out; have := HJ16.out; have := HJ26.out; first | omega | exact Nat.le_refl _⟩, ⟨by repeat (first | (with_reducible first | exact HB.out | apply below_alloc | apply pw_below_drewN | apply below_drew1) | exact HB.out)⟩⟩
                        case rest =>
                          clear HC34
                          try clear c1
                          try clear c2
                          try clear p2
                          try clear c3
                          try clear c6
                          try clear p6
                          try clear c7
                          try clear p9
                          try clear q9
                          try clear hx9
                          try clear c10
                          try clear c10b0
                          try clear c11
                          try clear c11b0
                          try clear c13
                          try clear c20
                          try clear c20b0
                          try clear c20b1
                          try clear c20b2
                          try clear c21
                          try clear c23
                          try clear c26
                          try clear c28
                          try clear c28b0
                          try clear c30
                          try clear c30b0
                          try clear c30b1
                          try clear c32
                          try clear c32b0
                          try clear c32b1
                          try clear c35
                          try clear c35b0
                          try clear c35b1
                          try clear c37
                          try clear c37b0
                          try clear c37b1
                          try clear hx975_0
                          try clear hx976_0
                          try clear p2
                          try clear p6
                          try clear p9
                          try clear p975
                          try clear p976
                          try clear q9
                          try clear q975
                          try clear q976
                          obtain ⟨kq, HA, HJ33, HB⟩ := hcut
                          cases kq with
                          | zero => exact absurd HA.out (by simp [bonsailaw08_DictBack.j4])
                          | succ kj33 =>
                            have H := HA.out
                            clear HA
                            simp only [bonsailaw08_DictBack.j4] at H
                            replace H := Option.bind_eq_some_iff.mp H
                            obtain ⟨⟨t992, t993⟩, A390, H⟩ := H
                            replace H : (if t993 = 0 then (if (t992.length : Int) = a2 then ((dict_Encode.f kj33 t992).bind fun t996 => (if t996.toList = a1.toList then ((bonsailaw08_live.f kj33).bind fun t997 => (some t997)) else (none))) else (none)) else (if (t992.length : Int) = 0 then ((bonsailaw08_live.f kj33).bind fun t998 => (some t998)) else (none))) = some r := H
                            have A39 := Aside0.mk A390
                            clear A390
                            by_cases c40 : t993 = 0
                            · rw [if_pos c40] at H
                              have c40b0 : (t993 == 0) = true := beq_iff_eq.mpr c40
                              have c40b1 : (t993 != 0) = false := bne_eq_false_iff_eq.mpr c40
                              clear c40
                              by_cases c41 : (t992.length : Int) = a2
                              · rw [if_pos c41] at H
                                have c41b0 : ((t992.length : Int) == a2) = true := beq_iff_eq.mpr c41
                                have c41b1 : ((t992.length : Int) != a2) = false := bne_eq_false_iff_eq.mpr c41
                                clear c41
                                replace H := Option.bind_eq_some_iff.mp H
                                obtain ⟨t996, A420, H⟩ := H
                                replace H : (if t996.toList = a1.toList then ((bonsailaw08_live.f kj33).bind fun t997 => (some t997)) else (none)) = some r := H
                                have A42 := Aside0.mk A420
                                clear A420
                                by_cases c43 : t996.toList = a1.toList
                                · rw [if_pos c43] at H
                                  have c43b0 : (t996.toList == a1.toList) = true := beq_iff_eq.mpr c43
                                  have c43b1 : (t996.toList != a1.toList) = false := bne_eq_false_iff_eq.mpr c43
                                  clear c43
                                  replace H := Option.bind_eq_some_iff.mp H
                                  obtain ⟨t997, A440, H⟩ := H
                                  replace H : (some t997) = some r := H
                                  have A44 := Aside0.mk A440
                                  clear A440
                                  obtain rfl := Option.some.inj H
                                  go_wp2_with (first | ((with_reducible refine gate_callee (f := 74) rfl ?_); refine goesL_ (some 113) rfl rfl Try.func74 (by kernel_rfl) rfl #[.string a1, .int .i64 a2, .int .i64 60] rfl (by (try simp only [List.map_toArray, List.map_cons, List.map_nil]); first | done | rfl | (simp only [List.length_drop, List.length_take]; rfl)) ?_; (with_reducible refine (dict_Decode.calls kj33 a1 a2 60 t992 t993 _ A39.out).mono ?_); rintro e w45 ⟨v994, rfl, ho0, hb⟩; refine ⟨_, rfl, ?_⟩; have n0_ := Aside0.mk (Kd.R_lower ho0 (below_size (by repeat (first | (with_reducible first | exact HB.out | apply below_alloc | apply pw_below_drewN | apply below_drew1) | exact HB.out)))); have n1_ := Aside0.mk (below_step (by repeat (first | (with_reducible first | exact HB.out | apply below_alloc | apply pw_below_drewN | apply below_drew1) | exact HB.out)) hb); clear HB; have HO995 := n0_; have HB := n1_; clear n0_ n1_; (try clear hb); (try clear hb2); (try clear hk); (try clear hi); (try clear ho0); obtain ⟨Ao46, co46, eo46⟩ := Kd.R_slice HO995.out; subst eo46) | (go_at_call 70; (with_reducible refine (dict_Encode.calls kj33 _ _ t992 t996 _ ?side1 ?side2 A42.out).mono ?_); (case side1 => repeat (first | exact (Kd.R_reads' HO995.out).2.2 | (with_reducible refine Kd.C_alloc ?_ _) | (with_reducible refine Kd.C_drewN ?_ _) | (with_reducible refine Kd.C_drew ?_))); (case side2 => exact (Kd.R_reads' HO995.out).2.1); rintro e w47 ⟨rfl, hb⟩; have n0_ := Aside0.mk (Kd.R_below (by (with_reducible repeat (first | apply Kd.R_alloc | apply Kd.R_drewN | apply Kd.R_drew)); exact HO995.out) hb); have n1_ := Aside0.mk (below_step (by repeat (first | (with_reducible first | exact HB.out | apply below_alloc | apply pw_below_drewN | apply below_drew1) | exact HB.out)) hb); clear HO995; clear HB; have HO995 := n0_; have HB := n1_; clear n0_ n1_; (try clear hb); (try clear hb2); (try clear hk); (try clear hi)) | (go_at_call 64; (with_reducible refine (bonsailaw08_live.calls kj33  t997 _ A44.out).mono ?_); rintro e w48 ⟨rfl, hb⟩; have n0_ := Aside0.mk (Kd.R_below (by (with_reducible repeat (first | apply Kd.R_alloc | apply Kd.R_drewN | apply Kd.R_drew)); exact HO995.out) hb); have n1_ := Aside0.mk (below_step (by repeat (first | (with_reducible first | exact HB.out | apply below_alloc | apply pw_below_drewN | apply below_drew1) | exact HB.out)) hb); clear HO995; clear HB; have HO995 := n0_; have HB := n1_; clear n0_ n1_; (try clear hb); (try clear hb2); (try clear hk); (try clear hi)))
                                  go_ret
                                  exact ⟨by first | rfl | (simp [errW_none, errW_some] <;> rfl) | (simp [*, errW_none, errW_some] <;> rfl), by repeat (first | (with_reducible first | exact HB.out | apply below_alloc | apply pw_below_drewN | apply below_drew1) | exact HB.out)⟩
                                · rw [if_neg c43] at H
                                  exact absurd H (by simp)
                              · rw [if_neg c41] at H
                                exact absurd H (by simp)
                            · rw [if_neg c40] at H
                              have c40b0 : (t993 == 0) = false := beq_eq_false_iff_ne.mpr c40
                              have c40b1 : (t993 != 0) = true := bne_iff_ne.mpr c40
                              by_cases c49 : (t992.length : Int) = 0
                              · rw [if_pos c49] at H
                                have c49b0 : ((t992.length : Int) == 0) = true := beq_iff_eq.mpr c49
                                have c49b1 : ((t992.length : Int) != 0) = false := bne_eq_false_iff_eq.mpr c49
                                clear c49
                                replace H := Option.bind_eq_some_iff.mp H
                                obtain ⟨t998, A500, H⟩ := H
                                replace H : (some t998) = some r := H
                                have A50 := Aside0.mk A500
                                clear A500
                                obtain rfl := Option.some.inj H
                                go_wp2_with (first | ((with_reducible refine gate_callee (f := 74) rfl ?_); refine goesL_ (some 113) rfl rfl Try.func74 (by kernel_rfl) rfl #[.string a1, .int .i64 a2, .int .i64 60] rfl (by (try simp only [List.map_toArray, List.map_cons, List.map_nil]); first | done | rfl | (simp only [List.length_drop, List.length_take]; rfl)) ?_; (with_reducible refine (dict_Decode.calls kj33 a1 a2 60 t992 t993 _ A39.out).mono ?_); rintro e w51 ⟨v994, rfl, ho0, hb⟩; refine ⟨_, rfl, ?_⟩; have n0_ := Aside0.mk (Kd.R_lower ho0 (below_size (by repeat (first | (with_reducible first | exact HB.out | apply below_alloc | apply pw_below_drewN | apply below_drew1) | exact HB.out)))); have n1_ := Aside0.mk (below_step (by repeat (first | (with_reducible first | exact HB.out | apply below_alloc | apply pw_below_drewN | apply below_drew1) | exact HB.out)) hb); clear HB; have HO995 := n0_; have HB := n1_; clear n0_ n1_; (try clear hb); (try clear hb2); (try clear hk); (try clear hi); (try clear ho0); obtain ⟨Ao52, co52, eo52⟩ := Kd.R_slice HO995.out; subst eo52) | (go_at_call 64; (with_reducible refine (bonsailaw08_live.calls kj33  t998 _ A50.out).mono ?_); rintro e w53 ⟨rfl, hb⟩; have n0_ := Aside0.mk (Kd.R_below (by (with_reducible repeat (first | apply Kd.R_alloc | apply Kd.R_drewN | apply Kd.R_drew)); exact HO995.out) hb); have n1_ := Aside0.mk (below_step (by repeat (first | (with_reducible first | exact HB.out | apply below_alloc | apply pw_below_drewN | apply below_drew1) | exact HB.out)) hb); clear HO995; clear HB; have HO995 := n0_; have HB := n1_; clear n0_ n1_; (try clear hb); (try clear hb2); (try clear hk); (try clear hi)))
                                go_ret
                                exact ⟨by first | rfl | (simp [errW_none, errW_some] <;> rfl) | (simp [*, errW_none, errW_some] <;> rfl), by repeat (first | (with_reducible first | exact HB.out | apply below_alloc | apply pw_below_drewN | apply below_drew1) | exact HB.out)⟩
                              · rw [if_neg c49] at H
                                exact absurd H (by simp)
end Go.Proofs.Ytbgjoiccehiglaa.Print
end
section
namespace Go.Proofs.Ytbgjoiccehiglaa.Pure
open Go.RowKit Go.Proofs.Ytbgjoiccehiglaa.Print Go.Proofs.YtbgjoiccehiglaaW.PrintWords Go.Proofs.YtbgjoiccehiglaaW.PrintLast Go.Proofs.YtbgjoiccehiglaaW.PrintMore Go.Proofs.Ytbgjoiccehiglaa.LibA Go.Proofs.Ytbgjoiccehiglaa.LibE Go.Proofs.Ytbgjoiccehiglaa.LibK Go.Proofs.Ytbgjoiccehiglaa.LibL Go.Proofs.Ytbgjoiccehiglaa.LibM Go.Proofs.Ytbgjoiccehiglaa.LibN Go.Proofs.Ytbgjoiccehiglaa.LibP Go.Proofs.Ytbgjoiccehiglaa.LibR2
theorem db_j4 (s : ByteArray) (hs : s.size ≤ 140737488351232) (n : Int) (K : Nat) (hK : 1000002 ≤ K) (M : Nat) (hM : (s.size + 1) * K + 5000 * K + 5000 + 20000 + s.size + 100 ≤ M) (k : Nat) (hk : M ≤ k) : bonsailaw08_DictBack.j4 (k + 1) s n = some true := by
  obtain ⟨h1, _⟩ := decD_some s hs n 60 (by omega) (by omega) K hK k (Nat.le_trans hM hk)
  obtain ⟨w1, w2⟩ := decD_was s hs n 60 (by omega) (by omega)
  have hk2 : 25100 ≤ k := by omega
  clear hM
  simp only [bonsailaw08_DictBack.j4]
  rw [h1]
  simp only [Option.bind_some]
  by_cases he : (decD s n 60).2 = 0
  · obtain ⟨r1, r2, r3, r4⟩ := w2 he
    rw [if_pos he, if_pos r1, (encD_some (decD s n 60).1 (by omega) (fun x hx => by have := r3 x hx; omega) k (by omega)).1, r4]
    simp only [Option.bind_some, if_true]
    rw [live08_at (by omega)]
    rfl
  · rw [if_neg he, w1 he, if_pos (show (([] : List ByteArray).length : Int) = 0 from rfl), live08_at (by omega)]
    rfl
theorem db_j2 (l : List ByteArray) (s : ByteArray) (hs : s.size ≤ 140737488351232) (n m : Int) (hl : l.length ≤ 60) (hm0 : 0 ≤ m) (hm1 : m ≤ 60) (hle : ∀ x ∈ l, (x.size : Int) ≤ m) (hex : m = 0 ∨ ∃ x ∈ l, (x.size : Int) = m) (K : Nat) (hK : 1000002 ≤ K) (M : Nat) (hM : (s.size + 1) * K + 5000 * K + 5000 + 20000 + s.size + 100 ≤ M)
    (hM2 : ((encD l).size + 1) * K + 5000 * K + 5000 + 20000 + (encD l).size + 100 ≤ M) (k : Nat) (hk : M ≤ k) : bonsailaw08_DictBack.j2 (k + 3) l s n m (encD l) false = some true := by
  have hsz : ∀ x ∈ l, x.size ≤ 1000000 := fun x hx => by have := hle x hx; omega
  have j3 : bonsailaw08_DictBack.j3 (k + 2) l s n m (encD l) = some true := by
    obtain ⟨_, _, _, e4, e5⟩ := enc_dec l (by omega) hsz n m hm0 (by omega)
    have hd := (decD_some (encD l) e5 n m (by omega) (by omega) K hK (k + 1) (by omega)).1
    simp only [bonsailaw08_DictBack.j3]
    rw [hd]
    simp only [Option.bind_some]
    by_cases hn : n = (l.length : Int)
    · rw [if_pos hn]; exact db_j4 s hs n K hK M hM k hk
    · rw [if_neg hn, if_neg (e4 hn hle)]; exact db_j4 s hs n K hK M hM k hk
  simp only [bonsailaw08_DictBack.j2, Bool.false_eq_true, if_false]
  by_cases hm : m > 0
  · rw [if_pos hm, LibV.w64 (by omega) (by omega)]
    obtain ⟨x, hx, hxm⟩ := hex.resolve_left (by omega)
    obtain ⟨_, _, e3, _, e5⟩ := enc_dec l (by omega) hsz n (m - 1) (by omega) (by omega)
    have hd := (decD_some (encD l) e5 l.length (m - 1) (by omega) (by omega) K hK (k + 2) (by omega)).1
    rw [hd]
    simp only [Option.bind_some]
    rcases e3 ⟨x, hx, by omega⟩ with h | h
    · rw [if_neg (by omega), if_pos h]; exact j3
    · rw [if_pos h]; exact j3
  · rw [if_neg hm]; exact j3
theorem db_l0 (l : List ByteArray) (s : ByteArray) (hs : s.size ≤ 140737488351232) (n : Int) (hl : l.length ≤ 60) (h60 : ∀ x ∈ l, (x.size : Int) ≤ 60) (K : Nat) (hK : 1000002 ≤ K) (M : Nat) (hM : (s.size + 1) * K + 5000 * K + 5000 + 20000 + s.size + 100 ≤ M)
    (hM2 : ((encD l).size + 1) * K + 5000 * K + 5000 + 20000 + (encD l).size + 100 ≤ M) : ∀ (d k i : Nat) (m : Int) (b : Bool), i + d = l.length → 0 ≤ m → m ≤ 60 → (∀ x ∈ l.take i, (x.size : Int) ≤ m) → (m = 0 ∨ ∃ x ∈ l.take i, (x.size : Int) = m) → (b = true ↔ ∀ x ∈ l.take i, Vld x) → M + d + 4 ≤ k →
    bonsailaw08_DictBack.l0 k l s n m b (i : Int) = some true
  | 0, k, i, m, b, hd, hm0, hm1, hle, hex, hb, hk => by
    obtain ⟨k, rfl⟩ : ∃ k', k = k' + 3 + 1 := ⟨k - 4, by omega⟩
    have hsz : ∀ x ∈ l, x.size ≤ 1000000 := fun x hx => by have := h60 x hx; omega
    rw [List.take_of_length_le (by omega)] at hle hex hb
    obtain ⟨e1, e2, _, _, e5⟩ := enc_dec l (by omega) hsz n m hm0 (by omega)
    have hd := (decD_some (encD l) e5 l.length m (by omega) (by omega) K hK (k + 3) (by omega)).1
    have hk2 : 25100 ≤ k := by omega
    have hj2 := db_j2 l s hs n m hl hm0 hm1 hle hex K hK M hM hM2 k (by omega)
    unfold bonsailaw08_DictBack.l0
    rw [if_neg (by omega), (encD_some l (by omega) hsz (k + 3) (by omega)).1]
    simp only [Option.bind_some]
    rw [hd]
    simp only [Option.bind_some]
    cases b with
    | true =>
      rw [e1 (fun x hx => ⟨hb.mp rfl x hx, hle x hx⟩)]
      simp only [beq_self_eq_true, bne_self_eq_false, Bool.false_eq_true, if_false, if_true]
      rw [same4 l l (by omega) _ (by omega)]
      simp only [Option.bind_some, decide_true, if_true]
      exact hj2
    | false =>
      have hbad : ∃ x ∈ l, ¬ Vld x := by
        refine Classical.byContradiction fun hc => ?_
        have : ∀ x ∈ l, Vld x := fun x hx => Classical.byContradiction fun hx' => hc ⟨x, hx, hx'⟩
        exact absurd (hb.mpr this) (by simp)
      have h4 := e2 hbad hle
      rw [h4]
      simp only [show ((4 : Int) == 0) = false from rfl, bne_self_eq_false, Bool.false_eq_true, if_false]
      exact hj2
  | d + 1, k, i, m, b, hd, hm0, hm1, hle, hex, hb, hk => by
    obtain ⟨k, rfl⟩ : ∃ k', k = k' + 1 := ⟨k - 1, by omega⟩
    have hi : i < l.length := by omega
    have hin := List.getElem_mem hi
    have h1 := h60 _ hin
    have hk2 : 25100 ≤ k := by omega
    have hval := refValid l[i] (by omega) k (by omega)
    have htake : l.take (i + 1) = l.take i ++ [l[i]] := List.take_succ_eq_append_getElem hi
    have hmx : 0 ≤ mx m (l[i].size : Int) ∧ mx m (l[i].size : Int) ≤ 60 ∧ m ≤ mx m (l[i].size : Int) ∧ (l[i].size : Int) ≤ mx m (l[i].size : Int) ∧ (mx m (l[i].size : Int) = m ∨ mx m (l[i].size : Int) = l[i].size) := by
      unfold mx
      split <;> omega
    have go : ∀ b' : Bool, (b' = true ↔ b = true ∧ Vld l[i]) → bonsailaw08_DictBack.l0 k l s n (mx m (l[i].size : Int)) b' ((i + 1 : Nat) : Int) = some true := fun b' hb' => by
      refine db_l0 l s hs n hl h60 K hK M hM hM2 d k (i + 1) _ b' (by omega) hmx.1 hmx.2.1 ?_ ?_ ?_ (by omega)
      · intro x hx
        rw [htake] at hx
        rcases List.mem_append.mp hx with hx | hx
        · have := hle x hx; omega
        · simp at hx; subst hx; exact hmx.2.2.2.1
      · rw [htake]
        rcases hmx.2.2.2.2 with h | h
        · rw [h]
          rcases hex with h' | ⟨x, hx, h'⟩
          · exact .inl h'
          · exact .inr ⟨x, List.mem_append_left _ hx, h'⟩
        · exact .inr ⟨l[i], List.mem_append_right _ (List.mem_singleton.mpr rfl), h.symm⟩
      · rw [hb', htake, hb]
        simp only [List.mem_append, List.mem_singleton]
        exact ⟨fun h x hx => hx.elim (h.1 x) (fun e => e ▸ h.2), fun h => ⟨fun x hx => h x (.inl hx), h _ (.inr rfl)⟩⟩
    unfold bonsailaw08_DictBack.l0
    rw [if_pos (by omega), if_pos (by omega), rd_txt hi, LibV.w64 (by omega) (by omega), show (i : Int) + 1 = ((i + 1 : Nat) : Int) by omega]
    cases b with
    | true =>
      rw [if_pos rfl, hval]
      simp only [Option.bind_some]
      exact go _ (by simp)
    | false =>
      rw [if_neg (by simp)]
      exact go _ (by simp)
theorem DictBack : ∀ (l0 : List ByteArray) (a1 : ByteArray) (a2 : Int), l0.length ≤ maxLen → (∀ x ∈ l0, x.size ≤ maxLen) → a1.size ≤ 140737488351232 → (Lit.int .i64 a2).wf = true → ∃ k, bonsailaw08_DictBack.f k l0 a1 a2 = some true := by
  intro l s n _ _ hs _
  obtain ⟨K, hK⟩ : ∃ K : Nat, 1000002 ≤ K := ⟨1000002, Nat.le_refl _⟩
  obtain ⟨M, hM, hM2⟩ : ∃ M : Nat, (s.size + 1) * K + 5000 * K + 5000 + 20000 + s.size + 100 ≤ M ∧ ((encD l).size + 1) * K + 5000 * K + 5000 + 20000 + (encD l).size + 100 ≤ M := ⟨_, Nat.le_max_left _ _, Nat.le_max_right _ _⟩
  have hk2 : 25100 ≤ M := by omega
  refine ⟨M + 70 + 1, ?_⟩
  unfold bonsailaw08_DictBack.f
  have yes : bonsailaw08_DictBack.j0 (M + 70 + 1) l s n true = some true := by
    simp only [bonsailaw08_DictBack.j0, if_true]
    rw [live08_at (by omega)]; rfl
  rw [few_some l 60 60 (by omega) _ (by omega) (by omega)]
  simp only [Option.bind_some, decide_eq_true_eq]
  by_cases h1 : (l.length : Int) ≤ 60 ∧ ∀ x ∈ l, (x.size : Int) ≤ 60
  rotate_left
  · rw [if_neg h1]; exact yes
  rw [if_pos h1]
  by_cases h2 : (s.size : Int) > 500
  · rw [decide_eq_true h2]; exact yes
  rw [decide_eq_false h2]
  simp only [bonsailaw08_DictBack.j0, Bool.false_eq_true, if_false]
  exact db_l0 l s hs n (by omega) h1.2 K hK M hM hM2 l.length (M + 70) 0 0 true (by omega) (by omega) (by omega) (by simp) (.inl rfl) (by simp) (by omega)
end Go.Proofs.Ytbgjoiccehiglaa.Pure
end
