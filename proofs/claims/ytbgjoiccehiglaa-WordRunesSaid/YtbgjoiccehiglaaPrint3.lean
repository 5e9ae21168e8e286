/- Written by a program of this session (a turned print). Each Go function has a Lean function with the same answers, and a proof that the Go code comes to these. -/
import Derived.Test.YtbgjoiccehiglaaPrint0
import Derived.Test.YtbgjoiccehiglaaPrint2
namespace Go.Proofs.Ytbgjoiccehiglaa.Print
open Go.RowKit Go.Proofs.YtbgjoiccehiglaaW.PrintWords Go.Proofs.YtbgjoiccehiglaaW.PrintLast Go.Proofs.YtbgjoiccehiglaaW.PrintMore
attribute [local go_sem] max2_int min2_int max_two min_two max_three min_three max_four min_four   -- for this text's walks alone
set_option linter.unusedVariables false
set_option linter.unusedSimpArgs false

/-! ### pack_Reader_read: function 98 -/
theorem must_ok (c : Int) (w : World) : Calls Try.prog 100 #[.bool true, .int .i64 c] w fun e w' => e = .returned (.tuple #[]) ∧ w' = w := by
  go_enter Try.func100, Try.ntmps100
  go_wp2
  go_end0
  exact ⟨rfl, rfl⟩
set_option maxRecDepth 100000 in
theorem must_no (c : Int) (w : World) : Calls Try.prog 100 #[.bool false, .int .i64 c] w fun e w' => e = .panicked [{ v := .iface 126 (.int .i64 c), recovered := false }] ∧ w' = w := by
  go_enter Try.func100, Try.ntmps100
  go_wp2
  exact ⟨rfl, rfl, rfl⟩

theorem catch_idle (p : Addr) (w : World) :
    CallsD Try.prog 105 #[.pointer (some p)] .returning w fun e u' w' => e = .returned (.tuple #[]) ∧ u' = .returning ∧ w' = w := by
  refine callsD_of_wpS Try.func105 rfl fun c₀ cs hu => ?_
  apply wpS_seq
  apply wpS_region
  simp [wpOpsS, go_sem, recoverD, hu, Try.ntmps105, Exit.thenS]
  apply wpS_seq
  apply wpS_region
  simp [wpOpsS, go_sem, Exit.thenS]
  refine wpS_cond (t := false) (by simp [Act.eval, Array.replicate]) ?_
  simp only [Bool.false_eq_true, if_false]
  refine wpS_of_wp (wp_skip ?_)
  cases c₀
  simp_all [bodyPostS, results, Try.results105]
set_option maxRecDepth 100000 in
theorem catch_panics (p : Addr) (g : Nat) (c : Int) (s : ByteArray) (older : List PanicEntry) (w : World) (hp : w.cell? p = some (.pointer (some ⟨g, 0, none⟩)))
    (hI : w.heap[g]? = some (.cells #[.string s, .int .i64 0] 120 (0, 0))) (hne : p.block ≠ g) :
    CallsD Try.prog 105 #[.pointer (some p)] (.panicking ({ v := .iface 126 (.int .i64 c), recovered := false } :: older)) w fun e u' w' => e = .returned (.tuple #[]) ∧ u' = .panicking ({ v := .iface 126 (.int .i64 c), recovered := true } :: older) ∧ ∃ n, w' = (w.drewN n).setCell ⟨g, 1, none⟩ (.int .i64 c) := by
  refine callsD_of_wpS Try.func105 rfl fun c₀ cs hu => ?_
  apply wpS_seq
  apply wpS_region
  simp [wpOpsS, go_sem, recoverD, hu, Try.ntmps105, Exit.thenS]
  apply wpS_seq
  apply wpS_region
  simp [wpOpsS, go_sem, Exit.thenS]
  refine wpS_cond (t := true) (by simp [Act.eval, Array.replicate]) ?_
  simp only [if_true]
  refine wpS_of_wp ?_
  have h1 := cellS120_1 hI
  have h2 := blk_frozen hI 1
  have hta : ∀ (v : Value) (W : World), (Instr.typeAssert (.iface 126 v) 20 126 false).run Try.prog W = .ok v W := fun v W => by rfl
  clear hI
  have hk : ∀ v, ((w.setCell ⟨g, 1, none⟩ v).drew).cell? p = some (.pointer (some ⟨g, 0, none⟩)) := by
    intro v
    have hne' : (⟨g, 1, none⟩ : Addr) ≠ p := by rintro rfl; exact hne rfl
    simp [World.cell?_setCell_other _ _ _ _ hne', hp]
  go_region_held3 (fun W => W.cell? p = some (.pointer (some ⟨g, 0, none⟩))) (first | go_keep | exact hk _) (first | fail)
  cases c₀
  simp_all [bodyPostS, results, Try.results105]
  exact ⟨1, rfl⟩
set_option maxHeartbeats 8000000 in
set_option maxRecDepth 100000 in
theorem read_ret (g : Nat) (s s' : ByteArray) (c : Nat) (caps : Array Value) (w : World) (R : World → Prop)
    (hI : w.heap[g]? = some (.cells #[.string s, .int .i64 0] 120 (0, 0)))
    (hc : ∀ n, Calls Try.prog c (#[.string s] ++ caps) ((w.alloc (.cells #[.pointer (some ⟨g, 0, none⟩)] 85)).drewN n) fun e w' => e = .returned (.string s') ∧ R w')
    (hcf : ∀ W, (callFunc c (#[.string s] ++ caps)).run Try.prog W = .ok (.enter c (#[.string s] ++ caps)) W)
    (hR : ∀ w', R w' → w'.heap[g]? = some (.cells #[.string s, .int .i64 0] 120 (0, 0)) ∧ w'.heap[w.heap.size]? = some (.cells #[.pointer (some ⟨g, 0, none⟩)] 85 (0, 0))) :
    Calls Try.prog 98 #[.pointer (some ⟨g, 0, none⟩), .func (.func c) #[] caps] w fun e w' => e = .returned (.tuple #[]) ∧ ∃ w1, R w1 ∧ w' = w1.setCell ⟨g, 0, none⟩ (.string s') := by
  have hmf : ∀ (fn : Fn) (first cap : Array Value) (w : World), (Instr.makeFunc fn first cap).run Try.prog w = .ok (.func fn first cap) w := fun _ _ _ _ => rfl
  have HI := blk_alloc hI (.cells #[.pointer (some ⟨g, 0, none⟩)] 85)
  have HG := Aside0.mk (blk_lt hI)
  have h0 := cellS120_0 HI
  have h1 := cellS120_1 HI
  have HH := Aside0.mk HI
  clear HI hI
  have HC := Aside0.mk hc
  have HR := Aside0.mk hR
  clear hc hR
  go_enter_defers Try.func98, Try.ntmps98
  go_wp2_with fail
  refine wp_region_noPanic ?_
  refine wp_region_held_drew (S := fun W => W.cell? ⟨w.heap.size, 0, none⟩ = some (.pointer (some ⟨g, 0, none⟩))) (by kernel_rfl) (by go_simp) (fun hHeld => ?_)
  refine wpAnyH_take (i := 0) (v := .pointer (some ⟨g, 0, none⟩)) rfl (by kernel_rfl) (by kernel_rfl) (by kernel_rfl) (fun _ _ _ h => h) (Or.inl ⟨by rfl, fun W hS => by (try dsimp only at hS); go_simp⟩) hHeld ?_
  simp only [Act.put, List.setIfInBounds_toArray, List.set_cons_zero, List.set_cons_succ]
  refine wpAnyH_take (i := 1) (v := .func (.func c) #[] caps) rfl (by kernel_rfl) (by kernel_rfl) (by kernel_rfl) (fun _ _ _ h => h) (Or.inl ⟨by rfl, fun W hS => by go_simp⟩) hHeld ?_
  simp only [Act.put, List.setIfInBounds_toArray, List.set_cons_zero, List.set_cons_succ]
  refine wpAnyH_take (i := 2) (v := .pointer (some ⟨g, 0, none⟩)) rfl (by kernel_rfl) (by kernel_rfl) (by kernel_rfl) (fun _ _ _ h => h) (Or.inl ⟨by rfl, fun W hS => by (try dsimp only at hS); go_simp⟩) hHeld ?_
  simp only [Act.put, List.setIfInBounds_toArray, List.set_cons_zero, List.set_cons_succ]
  refine wpAnyH_take (i := 3) (v := .pointer (some ⟨g, 0, none⟩)) rfl (by kernel_rfl) (by kernel_rfl) (by kernel_rfl) (fun _ _ _ h => h) (Or.inl ⟨by rfl, fun W hS => by go_simp⟩) hHeld ?_
  simp only [Act.put, List.setIfInBounds_toArray, List.set_cons_zero, List.set_cons_succ]
  refine wpAnyH_take (i := 4) (v := .pointer (some ⟨g, 0, none⟩)) rfl (by kernel_rfl) (by kernel_rfl) (by kernel_rfl) (fun _ _ _ h => h) (Or.inl ⟨by rfl, fun W hS => by go_simp⟩) hHeld ?_
  simp only [Act.put, List.setIfInBounds_toArray, List.set_cons_zero, List.set_cons_succ]
  refine wpAnyH_ready (rs := [5]) (by kernel_rfl) (by simp) (AllReadyH.cons rfl (fun K hK => ?_) AllReadyH.nil)
  go_simp
  refine hK.out _ _ hHeld (fun hHeld => ?_)
  clear hK K
  (try simp only [Act.put, List.setIfInBounds_toArray, List.set_cons_zero, List.set_cons_succ])
  refine wpAnyH_ready (rs := [6]) (by kernel_rfl) (by simp) (AllReadyH.cons rfl (fun K hK => ?_) AllReadyH.nil)
  go_simp
  refine Calls.mono (HC.out 1) ?_
  rintro e w' ⟨rfl, hq⟩
  have hz := HR.out _ hq
  have hbox : w'.cell? ⟨w.heap.size, 0, none⟩ = some (.pointer (some ⟨g, 0, none⟩)) := (blk_cell hz.2 0).trans rfl
  have hg0 := cellS120_0 hz.1
  have hgf := blk_frozen hz.1 0
  have hbox2 : ∀ v, (w'.setCell ⟨g, 0, none⟩ v).cell? ⟨w.heap.size, 0, none⟩ = some (.pointer (some ⟨g, 0, none⟩)) := fun v => by
    have hne : (⟨g, 0, none⟩ : Addr) ≠ ⟨w.heap.size, 0, none⟩ := by
      intro h
      injection h with h
      have := HG.out
      omega
    rw [World.cell?_setCell_other _ _ _ _ hne]
    exact hbox
  refine hK.out _ _ hbox (fun hHeld => ?_)
  clear hK K
  (try simp only [Act.put, List.setIfInBounds_toArray, List.set_cons_zero, List.set_cons_succ])
  refine wpAnyH_take (i := 7) (v := .pointer (some ⟨g, 0, none⟩)) rfl (by kernel_rfl) (by kernel_rfl) (by kernel_rfl) (fun _ _ _ h => h) (Or.inl ⟨by rfl, fun W hS => by go_simp⟩) hHeld ?_
  simp only [Act.put, List.setIfInBounds_toArray, List.set_cons_zero, List.set_cons_succ]
  refine wpAnyH_take (i := 8) (v := .pointer (some ⟨g, 0, none⟩)) rfl (by kernel_rfl) (by kernel_rfl) (by kernel_rfl) (fun _ _ _ h => h) (Or.inl ⟨by rfl, fun W hS => by go_simp⟩) hHeld ?_
  simp only [Act.put, List.setIfInBounds_toArray, List.set_cons_zero, List.set_cons_succ]
  refine wpAnyH_ready (rs := [9]) (by kernel_rfl) (by simp) (AllReadyH.cons rfl (fun K hK => ?_) AllReadyH.nil)
  go_simp
  refine hK.out _ _ (hbox2 _) (fun hHeld => ?_)
  clear hK K
  refine wpAnyH_done (by kernel_rfl) ?_ _
  all_goals
    refine NoPanic.normal ?_
    refine leaves_cons (f := 105) (args := #[.pointer (some ⟨w.heap.size, 0, none⟩)]) (by simp) (by simp [go_sem]) ?_
    refine (catch_idle ⟨w.heap.size, 0, none⟩ _).mono ?_
    rintro e u' w'' ⟨rfl, rfl, rfl⟩
    simp [Leaves, settle, results, Try.results98, go_sem]
    exact ⟨w', hq, rfl⟩
/-- Of a region that panics alone. -/
def PanicR (D : List Deferred) (R : List PanicEntry → World → Prop) : Exit → Act → World → Prop
  | .panic ch, a, w => a.defers = D ∧ R ch w
  | _, _, _ => False
set_option maxHeartbeats 8000000 in
set_option maxRecDepth 100000 in
theorem read_panics (g : Nat) (s : ByteArray) (c : Nat) (k : Int) (caps : Array Value) (w : World) (R : World → Prop)
    (hI : w.heap[g]? = some (.cells #[.string s, .int .i64 0] 120 (0, 0)))
    (hc : ∀ n, Calls Try.prog c (#[.string s] ++ caps) ((w.alloc (.cells #[.pointer (some ⟨g, 0, none⟩)] 85)).drewN n) fun e w' => e = .panicked [{ v := .iface 126 (.int .i64 k), recovered := false }] ∧ R w')
    (hcf : ∀ W, (callFunc c (#[.string s] ++ caps)).run Try.prog W = .ok (.enter c (#[.string s] ++ caps)) W)
    (hR : ∀ w', R w' → w'.heap[g]? = some (.cells #[.string s, .int .i64 0] 120 (0, 0)) ∧ w'.heap[w.heap.size]? = some (.cells #[.pointer (some ⟨g, 0, none⟩)] 85 (0, 0))) :
    Calls Try.prog 98 #[.pointer (some ⟨g, 0, none⟩), .func (.func c) #[] caps] w fun e w' => e = .returned (.tuple #[]) ∧ ∃ w1 n, R w1 ∧ w' = (World.drewN w1 n).setCell ⟨g, 1, none⟩ (.int .i64 k) := by
  have hmf : ∀ (fn : Fn) (first cap : Array Value) (w : World), (Instr.makeFunc fn first cap).run Try.prog w = .ok (.func fn first cap) w := fun _ _ _ _ => rfl
  have HI := blk_alloc hI (.cells #[.pointer (some ⟨g, 0, none⟩)] 85)
  have HG := Aside0.mk (blk_lt hI)
  have h0 := cellS120_0 HI
  have h1 := cellS120_1 HI
  have HH := Aside0.mk HI
  clear HI hI
  have HC := Aside0.mk hc
  have HR := Aside0.mk hR
  clear hc hR
  go_enter_defers Try.func98, Try.ntmps98
  go_wp2_with fail
  refine Code.wp_mono (Q := PanicR [{ target := .fn (.func 105) #[.pointer (some ⟨w.heap.size, 0, none⟩)], args := #[] }] fun ch w' => ch = [{ v := .iface 126 (.int .i64 k), recovered := false }] ∧ R w') ?_ ?_
  · intro e a w1 hq
    cases e with
    | panic ch =>
      obtain ⟨hd, rfl, hr⟩ := hq
      obtain ⟨tmps, defers⟩ := a
      simp only at hd
      subst hd
      have hz := HR.out _ hr
      refine leaves_cons (f := 105) (args := #[.pointer (some ⟨w.heap.size, 0, none⟩)]) (by simp) (by simp [go_sem]) ?_
      refine (catch_panics ⟨w.heap.size, 0, none⟩ g k s [] _ ((blk_cell hz.2 0).trans rfl) hz.1 (by have := HG.out; simp; omega)).mono ?_
      rintro e u' w'' ⟨rfl, rfl, n, rfl⟩
      simp [Leaves, settle, results, Try.results98, go_sem]
      exact ⟨w1, hr, n, rfl⟩
    | _ => exact hq.elim
  refine wp_region_held_drew (S := fun W => W.cell? ⟨w.heap.size, 0, none⟩ = some (.pointer (some ⟨g, 0, none⟩))) (by kernel_rfl) (by go_simp) (fun hHeld => ?_)
  refine wpAnyH_take (i := 0) (v := .pointer (some ⟨g, 0, none⟩)) rfl (by kernel_rfl) (by kernel_rfl) (by kernel_rfl) (fun _ _ _ h => h) (Or.inl ⟨by rfl, fun W hS => by (try dsimp only at hS); go_simp⟩) hHeld ?_
  simp only [Act.put, List.setIfInBounds_toArray, List.set_cons_zero, List.set_cons_succ]
  refine wpAnyH_take (i := 1) (v := .func (.func c) #[] caps) rfl (by kernel_rfl) (by kernel_rfl) (by kernel_rfl) (fun _ _ _ h => h) (Or.inl ⟨by rfl, fun W hS => by go_simp⟩) hHeld ?_
  simp only [Act.put, List.setIfInBounds_toArray, List.set_cons_zero, List.set_cons_succ]
  refine wpAnyH_take (i := 2) (v := .pointer (some ⟨g, 0, none⟩)) rfl (by kernel_rfl) (by kernel_rfl) (by kernel_rfl) (fun _ _ _ h => h) (Or.inl ⟨by rfl, fun W hS => by (try dsimp only at hS); go_simp⟩) hHeld ?_
  simp only [Act.put, List.setIfInBounds_toArray, List.set_cons_zero, List.set_cons_succ]
  refine wpAnyH_take (i := 3) (v := .pointer (some ⟨g, 0, none⟩)) rfl (by kernel_rfl) (by kernel_rfl) (by kernel_rfl) (fun _ _ _ h => h) (Or.inl ⟨by rfl, fun W hS => by go_simp⟩) hHeld ?_
  simp only [Act.put, List.setIfInBounds_toArray, List.set_cons_zero, List.set_cons_succ]
  refine wpAnyH_take (i := 4) (v := .pointer (some ⟨g, 0, none⟩)) rfl (by kernel_rfl) (by kernel_rfl) (by kernel_rfl) (fun _ _ _ h => h) (Or.inl ⟨by rfl, fun W hS => by go_simp⟩) hHeld ?_
  simp only [Act.put, List.setIfInBounds_toArray, List.set_cons_zero, List.set_cons_succ]
  refine wpAnyH_ready (rs := [5]) (by kernel_rfl) (by simp) (AllReadyH.cons rfl (fun K hK => ?_) AllReadyH.nil)
  go_simp
  refine hK.out _ _ hHeld (fun hHeld => ?_)
  clear hK K
  (try simp only [Act.put, List.setIfInBounds_toArray, List.set_cons_zero, List.set_cons_succ])
  refine wpAnyH_ready (rs := [6]) (by kernel_rfl) (by simp) (AllReadyH.cons rfl (fun K hK => ?_) AllReadyH.nil)
  go_simp
  refine Calls.mono (HC.out 1) ?_
  rintro e w' ⟨rfl, hq⟩
  exact ⟨rfl, rfl, hq⟩
theorem take1_ok (s x : ByteArray) (n : Int) (pn po : Addr) (w : World) (hn : w.cell? pn = some (.int .i64 n)) (ho : w.cell? po = some (.string x)) (hf : w.frozen? po = false) (hne : po ≠ pn) (h0 : 0 ≤ n) (h1 : n ≤ s.size) :
    Calls Try.prog 101 #[.string s, .pointer (some pn), .pointer (some po)] w fun e w' => e = .returned (.string (s.extract n.toNat s.size)) ∧ w' = w.setCell po (.string (s.extract 0 n.toNat)) := by
  have h0b := decide_eq_true h0
  have h1b := decide_eq_true h1
  have h0t := eq_true h0
  have h1t := eq_true h1
  have hk : ∀ v, (w.setCell po v).cell? pn = some (.int .i64 n) := fun v => by rw [World.cell?_setCell_other _ _ _ _ hne]; exact hn
  go_enter Try.func101, Try.ntmps101
  go_wp2_with (go_at_call 100; refine (must_ok _ _).mono ?_; rintro e w' ⟨rfl, rfl⟩)
  go_ret
  exact ⟨rfl, rfl⟩
theorem take1_no (s x : ByteArray) (n : Int) (pn po : Addr) (w : World) (hn : w.cell? pn = some (.int .i64 n)) (h : n < 0 ∨ s.size < n) :
    Calls Try.prog 101 #[.string s, .pointer (some pn), .pointer (some po)] w fun e w' => e = .panicked [{ v := .iface 126 (.int .i64 2), recovered := false }] ∧ w' = w := by
  by_cases h0 : 0 ≤ n
  · have h1 : ¬ n ≤ s.size := by omega
    have h0b := decide_eq_true h0
    have h1b := decide_eq_false h1
    clear h h0 h1
    go_enter Try.func101, Try.ntmps101
    go_wp2_with (go_at_call 100; refine (must_no _ _).mono ?_; rintro e w' ⟨rfl, rfl⟩)
    exact ⟨rfl, rfl, rfl⟩
  · have h0b := decide_eq_false h0
    clear h h0
    go_enter Try.func101, Try.ntmps101
    go_wp2_with (go_at_call 100; refine (must_no _ _).mono ?_; rintro e w' ⟨rfl, rfl⟩)
    exact ⟨rfl, rfl, rfl⟩

def numL (s : ByteArray) : Nat → Int → Int → Int × Int × Int   -- an error's number, the number, the bytes it has
  | 0, _, _ => (3, 0, 0)
  | k + 1, i, n => if i < s.size then
      (if (i < 9 ∨ bt s i ≤ 1) ∧ (i = 0 ∨ bt s i ≠ 0) then
        (if bt s i < 128 then (0, n + bt s i % 128 * 128 ^ i.toNat, i + 1) else numL s k (i + 1) (n + bt s i % 128 * 128 ^ i.toNat))
      else (3, 0, 0)) else (2, 0, 0)
theorem pack_wraps_u64 (n : Int) (h₀ : 0 ≤ n) (h₁ : n < 2 ^ 64) : IntKind.u64.wrap n = n := by simp [IntKind.wrap, IntKind.bits, IntKind.signed]; omega
theorem pack_bits_comm (k : IntKind) (x y : Int) : bits .or k x y = bits .or k y x := by simp only [bits]; rw [BitVec.or_comm]
theorem pack_andNot (b : Int) (h0 : 0 ≤ b) (h1 : b ≤ 255) : bits .andNot .u8 b 128 = b % 128 := by
  obtain ⟨n, rfl⟩ := Int.eq_ofNat_of_zero_le h0
  have hn : n < 256 := by omega
  have key : ∀ m : Fin 256, bits .andNot .u8 ((m.val : Nat) : Int) 128 = ((m.val : Nat) : Int) % 128 := by decide +kernel
  exact key ⟨n, hn⟩
theorem pack_pow (i : Int) : (2 : Int) ^ (7 * i).toNat = 128 ^ i.toNat := by
  rw [show (7 * i).toNat = 7 * i.toNat by omega, Int.pow_mul]; rfl
theorem pack_pow9 (i : Int) (hi : i ≤ 9) : (128 : Int) ^ i.toNat ≤ 2 ^ 63 ∧ 0 < (128 : Int) ^ i.toNat := by
  have h : i.toNat ≤ 9 := by omega
  generalize i.toNat = j at h
  rcases j with _ | _ | _ | _ | _ | _ | _ | _ | _ | _ | j
  all_goals first | omega | (constructor <;> decide)
theorem pack_pow8 (i : Int) (hi : i ≤ 8) : (128 : Int) ^ i.toNat ≤ 2 ^ 56 := by
  have h : i.toNat ≤ 8 := by omega
  generalize i.toNat = j at h
  rcases j with _ | _ | _ | _ | _ | _ | _ | _ | _ | j
  all_goals first | omega | decide
theorem num_step (i b n : Int) (h0 : 0 ≤ i) (h9 : i ≤ 9) (hb0 : 0 ≤ b) (hb : b ≤ 255) (h1 : i < 9 ∨ b ≤ 1) (hn0 : 0 ≤ n) (hn : n < 128 ^ i.toNat) :
    bits .or .u64 n (IntKind.u64.wrap (IntKind.u64.wrap (bits .andNot .u8 b 128) * 2 ^ (7 * i).toNat)) = n + b % 128 * 128 ^ i.toNat ∧ n + b % 128 * 128 ^ i.toNat < 2 ^ 64 := by
  rw [pack_andNot b hb0 hb, pack_pow, pack_wraps_u64 (b % 128) (by omega) (by omega)]
  obtain ⟨hp, hq⟩ := pack_pow9 i h9
  have hm : b % 128 * 128 ^ i.toNat ≤ 2 ^ 64 - 128 ^ i.toNat := by
    rcases h1 with h1 | h1
    · have h8 := pack_pow8 i (by omega)
      have : b % 128 * 128 ^ i.toNat ≤ 127 * 128 ^ i.toNat := Int.mul_le_mul_of_nonneg_right (by omega) (by omega)
      omega
    · have : b % 128 * 128 ^ i.toNat ≤ 1 * 128 ^ i.toNat := Int.mul_le_mul_of_nonneg_right (by omega) (by omega)
      omega
  have hm0 : 0 ≤ b % 128 * 128 ^ i.toNat := Int.mul_nonneg (by omega) (by omega)
  rw [pack_wraps_u64 (b % 128 * 128 ^ i.toNat) hm0 (by omega)]
  refine ⟨?_, by omega⟩
  rw [pack_bits_comm, bits_join .u64 64 (by decide) pack_wraps_u64 (7 * i).toNat _ _ hm0 ?_ (by omega) hn0 (by rw [pack_pow]; exact hn) (by omega)]
  · omega
  · rw [pack_pow]; exact Int.mul_emod_left _ _
def NumEnd (R : Int × Int × Int) (s : ByteArray) (po : Addr) (w : World) (e : Ending) (w' : World) : Prop :=
      (R.1 = 0 ∧ e = .returned (.string (s.extract R.2.2.toNat s.size)) ∧ w' = w.setCell po (.int .u64 R.2.1)) ∨
      (R.1 ≠ 0 ∧ e = .panicked [{ v := .iface 126 (.int .i64 R.1), recovered := false }] ∧ w' = w)
set_option maxHeartbeats 8000000 in
set_option maxRecDepth 100000 in
theorem num1_any (s : ByteArray) (po : Addr) (w : World) (x : Int) (hs : s.size ≤ 9223372036854775000) (ho : w.cell? po = some (.int .u64 x)) (hf : w.frozen? po = false) :
    Calls Try.prog 99 #[.string s, .pointer (some po)] w (NumEnd (numL s 10 0 0) s po w) := by
  obtain ⟨R, hR⟩ : ∃ R, numL s 10 0 0 = R := ⟨_, rfl⟩
  rw [hR]
  have HR0 := Aside0.mk hR
  clear hR
  go_enter Try.func99, Try.ntmps99
  go_wp2
  go_loopg [4, 5] 10 (fun gk v4 v5 w' => ∃ (i : Int) (n : Int), v4 = .int .u64 n ∧ v5 = .int .i64 i ∧ 0 ≤ i ∧ i + gk = 10 ∧ 1 ≤ gk ∧ Aside0 (0 ≤ n ∧ n < 128 ^ i.toNat) ∧ Aside0 (numL s gk i n = R) ∧ i ≤ s.size ∧ w = w')
  case atStart => exact ⟨0, 0, rfl, rfl, by omega, by omega, by omega, ⟨by decide⟩, HR0, by omega, rfl⟩
  case round =>
    clear HR0
    obtain ⟨i, n, rfl, rfl, hi0, hi9, hgk, HN, HA, his, rfl⟩ := hrel
    have p7 := eq_true hi0
    have hr := bt_range s i
    cases gk with
    | zero => omega
    | succ k =>
    by_cases hlt : i < s.size
    · have hlt' : decide (i < (s.size : Int)) = true := decide_eq_true hlt
      have q7 := eq_true hlt
      have hx := bt_at s i
      by_cases hok : (i < 9 ∨ bt s i ≤ 1) ∧ (i = 0 ∨ bt s i ≠ 0)
      · obtain ⟨hs1, hs2⟩ := num_step i (bt s i) n hi0 (by omega) hr.1 hr.2 hok.1 HN.out.1 HN.out.2
        have HM := Aside0.mk hs2
        clear hs2
        have hA := HA.out
        simp only [numL, if_pos hlt, if_pos hok] at hA
        by_cases hb : bt s i < 128
        · have hb' := decide_eq_true hb
          rw [if_pos hb] at hA
          have HR := Aside0.mk hA
          clear hA HA
          have s1 := eq_true (show 0 ≤ i + 1 by omega)
          have s2 := eq_true (show i + 1 ≤ (s.size : Int) by omega)
          obtain ⟨hok1, hok2⟩ := hok
          have c : (decide (i < 9) = true ∧ (i == 0) = true) ∨ (decide (i < 9) = true ∧ (i == 0) = false ∧ (bt s i != 0) = true) ∨ (decide (i < 9) = false ∧ decide (bt s i ≤ 1) = true ∧ (i == 0) = false ∧ (bt s i != 0) = true) := by
            simp only [decide_eq_false_iff_not, decide_eq_true_eq, beq_eq_false_iff_ne, bne_iff_ne, beq_iff_eq]
            omega
          clear hok1 hok2
          rcases c with ⟨c1, c2⟩ | ⟨c1, c2, c3⟩ | ⟨c1, c2, c3, c4⟩
          all_goals
            go_wp2_with (go_at_call 100; refine (must_ok _ _).mono ?_; rintro e w' ⟨rfl, rfl⟩)
            go_ret
            exact .inl ⟨by rw [← HR.out], by rw [← HR.out]; rfl, by rw [← HR.out]⟩
        · have hb' := decide_eq_false hb
          rw [if_neg hb] at hA
          have HA' := Aside0.mk hA
          clear hA HA
          obtain ⟨hok1, hok2⟩ := hok
          have h9 : i < 9 := by omega
          have c1 := decide_eq_true h9
          have HP : Aside0 (0 ≤ n + bt s i % 128 * 128 ^ i.toNat ∧ n + bt s i % 128 * 128 ^ i.toNat < 128 ^ (i + 1).toNat) := by
            obtain ⟨hp, hq⟩ := pack_pow9 i (by omega)
            have hn := HN.out
            have hm0 : 0 ≤ bt s i % 128 * 128 ^ i.toNat := Int.mul_nonneg (by omega) (by omega)
            have : bt s i % 128 * 128 ^ i.toNat ≤ 127 * 128 ^ i.toNat := Int.mul_le_mul_of_nonneg_right (by omega) (by omega)
            rw [show (i + 1).toNat = i.toNat + 1 by omega, Int.pow_succ]
            exact ⟨by omega, by omega⟩
          by_cases h0 : i = 0
          all_goals
            first | have c2 := beq_iff_eq.mpr h0 | (have c2 := beq_eq_false_iff_ne.mpr h0; have c2b := bne_iff_ne.mpr (show bt s i ≠ 0 by omega))
            clear hok1 hok2 h0
            go_wp2_with (go_at_call 100; refine (must_ok _ _).mono ?_; rintro e w' ⟨rfl, rfl⟩)
            go_roundg k
            case measure => omega
            case rel => exact ⟨i + 1, n + bt s i % 128 * 128 ^ i.toNat, by first | rfl | simp, rfl, by omega, by omega, by omega, HP, HA', by omega, rfl⟩
      · have hA := HA.out
        simp only [numL, if_pos hlt, if_neg hok] at hA
        have HR := Aside0.mk hA
        clear hA HA
        have c : (decide (i < 9) = false ∧ decide (bt s i ≤ 1) = false) ∨ (decide (i < 9) = true ∧ (i == 0) = false ∧ (bt s i != 0) = false) ∨ (decide (i < 9) = false ∧ decide (bt s i ≤ 1) = true ∧ (i == 0) = false ∧ (bt s i != 0) = false) := by
          simp only [decide_eq_false_iff_not, decide_eq_true_eq, beq_eq_false_iff_ne, bne_eq_false_iff_eq]
          omega
        clear hok
        rcases c with ⟨c1, c2⟩ | ⟨c1, c2, c3⟩ | ⟨c1, c2, c3, c4⟩
        all_goals
          go_wp2_with (first | (go_at_call 100; (with_reducible refine (must_ok 2 _).mono ?_); rintro e w' ⟨rfl, rfl⟩) | (go_at_call 100; (with_reducible refine (must_no 3 _).mono ?_); rintro e w' ⟨rfl, rfl⟩))
          exact ⟨rfl, .inr ⟨by rw [← HR.out]; decide, by rw [← HR.out], rfl⟩⟩
    · have hlt' : decide (i < (s.size : Int)) = false := decide_eq_false hlt
      have hA := HA.out
      simp only [numL, if_neg hlt] at hA
      have HR := Aside0.mk hA
      clear hA HA
      go_wp2_with (go_at_call 100; refine (must_no _ _).mono ?_; rintro e w' ⟨rfl, rfl⟩)
      exact ⟨rfl, .inr ⟨by rw [← HR.out]; decide, by rw [← HR.out], rfl⟩⟩
set_option maxRecDepth 100000 in
theorem read_skip (g : Nat) (s : ByteArray) (c : Nat) (k : Int) (caps : Array Value) (w : World) (hk : k ≠ 0)
    (hI : w.heap[g]? = some (.cells #[.string s, .int .i64 k] 120 (0, 0))) :
    Calls Try.prog 98 #[.pointer (some ⟨g, 0, none⟩), .func (.func c) #[] caps] w fun e w' => e = .returned (.tuple #[]) ∧ w' = w.alloc (.cells #[.pointer (some ⟨g, 0, none⟩)] 85) := by
  have HI := blk_alloc hI (.cells #[.pointer (some ⟨g, 0, none⟩)] 85)
  have h1 := cellS120_1 HI
  have hk' := bne_iff_ne.mpr hk
  clear HI hI hk
  go_enter_defers Try.func98, Try.ntmps98
  go_wp2_with fail
  exact ⟨_, by simp [results, Try.results98, go_sem], rfl, rfl⟩

/-! ### pack_Reader_Num: function 81 -/
def pack_Reader_Num.f (s : ByteArray) (k : Int) : Option (Int × ByteArray × Int) :=
  if s.size ≤ 9223372036854775000 then
    (if k = 0 then (if (numL s 10 0 0).1 = 0 then some ((numL s 10 0 0).2.1, s.extract (numL s 10 0 0).2.2.toNat s.size, 0) else some (0, s, (numL s 10 0 0).1))
    else some (0, s, k)) else none
theorem num_fn38 (args : Array Value) (W : World) : (callFunc 99 args).run Try.prog W = .ok (.enter 99 args) W := by
  simp [go_sem, Try.func99]
set_option maxHeartbeats 8000000 in
set_option maxRecDepth 100000 in
theorem pack_Reader_Num.calls (g : Nat) (s0_0 : ByteArray) (s0_1 : Int) (r1 : Int) (r2 : ByteArray) (r3 : Int) (w0 w : World) (hI : IsS120 w0 w g s0_0 s0_1) (hB : Below w0.heap.size w0 w) (h : pack_Reader_Num.f s0_0 s0_1 = some (r1, r2, r3)) :
    Calls Try.prog 81 #[.pointer (some ⟨g, 0, none⟩)] w fun e w' => e = .returned (.int .u64 r1) ∧ IsS120 w0 w' g r2 r3 ∧ Below w0.heap.size w0 w' ∧ KeepBut w w' g none := by
  have hmf : ∀ (fn : Fn) (first cap : Array Value) (w : World), (Instr.makeFunc fn first cap).run Try.prog w = .ok (.func fn first cap) w := fun _ _ _ _ => rfl
  obtain ⟨hg, hge⟩ := hI
  have hlt := blk_lt hg
  have hg1 := blk_alloc hg (.cells #[.int .u64 0] 51)
  have hsz := hB.size
  unfold pack_Reader_Num.f at h
  by_cases hs : s0_0.size ≤ 9223372036854775000
  · rw [if_pos hs] at h
    by_cases hk : s0_1 = 0
    · subst hk
      rw [if_pos rfl] at h
      by_cases hR : (numL s0_0 10 0 0).1 = 0
      · rw [if_pos hR] at h
        simp only [Option.some.injEq, Prod.mk.injEq] at h
        obtain ⟨rfl, rfl, rfl⟩ := h
        have ho : (w.alloc (.cells #[.int .u64 0] 51)).heap[w.heap.size]? = some (.cells #[.int .u64 0] 51 (0, 0)) := blk_new w _
        have ho1 := blk_alloc ho (.cells #[.pointer (some ⟨g, 0, none⟩)] 85)
        have hg2 := blk_alloc hg1 (.cells #[.pointer (some ⟨g, 0, none⟩)] 85)
        have hb2 := blk_new (w.alloc (.cells #[.int .u64 0] 51)) (.cells #[.pointer (some ⟨g, 0, none⟩)] 85)
        have hsA : (w.alloc (.cells #[.int .u64 0] 51)).heap.size = w.heap.size + 1 := by simp
        have hnum := fun n => num1_any s0_0 ⟨w.heap.size, 0, none⟩ (((w.alloc (.cells #[.int .u64 0] 51)).alloc (.cells #[.pointer (some ⟨g, 0, none⟩)] 85)).drewN n) 0 hs ((blk_cell (blk_drewN ho1 n) 0).trans rfl) (blk_frozen (blk_drewN ho1 n) 0)
        have HC := Aside0.mk (read_ret g s0_0 (s0_0.extract (numL s0_0 10 0 0).2.2.toNat s0_0.size) 99 #[.pointer (some ⟨w.heap.size, 0, none⟩)] (w.alloc (.cells #[.int .u64 0] 51))
          (fun w' => ∃ n, w' = ((((w.alloc (.cells #[.int .u64 0] 51)).alloc (.cells #[.pointer (some ⟨g, 0, none⟩)] 85)).drewN n).setCell ⟨w.heap.size, 0, none⟩ (.int .u64 (numL s0_0 10 0 0).2.1))) hg1
          (fun n => (hnum n).mono (by
            rintro e w' (⟨_, rfl, rfl⟩ | ⟨hne, _⟩)
            · exact ⟨rfl, n, rfl⟩
            · exact absurd hR hne))
          (num_fn38 _) (by
            rintro w' ⟨n, rfl⟩
            exact ⟨blk_far (blk_drewN hg2 n) (by simp; omega) _, blk_far (blk_drewN hb2 n) (by simp) _⟩))
        have HB := Aside0.mk hB
        have HG := Aside0.mk hg2
        have HO := Aside0.mk ho1
        have HL := Aside0.mk hlt
        have HE := Aside0.mk hge
        have HZ := Aside0.mk hsz
        clear hB hg hg1 ho ho1 hg2 hb2 hnum hsA hlt hge hsz
        go_enter Try.func81, Try.ntmps81
        go_wp2_with (go_at_call 98; refine HC.out.mono ?_; rintro e w' ⟨rfl, w1, ⟨n, rfl⟩, hw⟩; have hcell : w'.cell? ⟨w.heap.size, 0, none⟩ = some (.int .u64 (numL s0_0 10 0 0).2.1) := (by have := HL.out; rw [hw]; exact (blk_cell (blk_far (blk_set (blk_drewN HO.out n) 0 _) (by simp; omega) _) 0).trans rfl); have HW := Aside0.mk hw; clear hw)
        go_ret
        have hw := HW.out
        have hlt := HL.out
        refine ⟨rfl, ⟨?_, HE.out⟩, ?_, ?_⟩ <;> rw [hw]
        · exact blk_put (blk_far (blk_drewN HG.out n) (by simp; omega) _) 0 _ rfl
        · exact below_set (below_set (pw_below_drewN (below_alloc (below_alloc HB.out _) _) n) HZ.out) HE.out
        · exact KeepBut.set_ (keep_far (keep_drewN (keep_alloc (keep_alloc (KeepBut.refl _ _ _) _) _) n) (Nat.le_refl _) _) 0 _
      · rw [if_neg hR] at h
        simp only [Option.some.injEq, Prod.mk.injEq] at h
        obtain ⟨rfl, rfl, rfl⟩ := h
        have ho : (w.alloc (.cells #[.int .u64 0] 51)).heap[w.heap.size]? = some (.cells #[.int .u64 0] 51 (0, 0)) := blk_new w _
        have ho1 := blk_alloc ho (.cells #[.pointer (some ⟨g, 0, none⟩)] 85)
        have hg2 := blk_alloc hg1 (.cells #[.pointer (some ⟨g, 0, none⟩)] 85)
        have hb2 := blk_new (w.alloc (.cells #[.int .u64 0] 51)) (.cells #[.pointer (some ⟨g, 0, none⟩)] 85)
        have hsA : (w.alloc (.cells #[.int .u64 0] 51)).heap.size = w.heap.size + 1 := by simp
        have hnum := fun n => num1_any s0_0 ⟨w.heap.size, 0, none⟩ (((w.alloc (.cells #[.int .u64 0] 51)).alloc (.cells #[.pointer (some ⟨g, 0, none⟩)] 85)).drewN n) 0 hs ((blk_cell (blk_drewN ho1 n) 0).trans rfl) (blk_frozen (blk_drewN ho1 n) 0)
        have HC := Aside0.mk (read_panics g s0_0 99 (numL s0_0 10 0 0).1 #[.pointer (some ⟨w.heap.size, 0, none⟩)] (w.alloc (.cells #[.int .u64 0] 51))
          (fun w' => ∃ n, w' = ((w.alloc (.cells #[.int .u64 0] 51)).alloc (.cells #[.pointer (some ⟨g, 0, none⟩)] 85)).drewN n) hg1
          (fun n => (hnum n).mono (by
            rintro e w' (⟨hne, _⟩ | ⟨_, rfl, rfl⟩)
            · exact absurd hne hR
            · exact ⟨rfl, n, rfl⟩))
          (num_fn38 _) (by
            rintro w' ⟨n, rfl⟩
            exact ⟨blk_drewN hg2 n, blk_drewN hb2 n⟩))
        have HB := Aside0.mk hB
        have HG := Aside0.mk hg2
        have HO := Aside0.mk ho1
        have HL := Aside0.mk hlt
        have HE := Aside0.mk hge
        have HZ := Aside0.mk hsz
        clear hB hg hg1 ho ho1 hg2 hb2 hnum hsA hlt hge hsz
        go_enter Try.func81, Try.ntmps81
        go_wp2_with (go_at_call 98; refine HC.out.mono ?_; rintro e w' ⟨rfl, w1, m, ⟨n, rfl⟩, hw⟩; have hcell : w'.cell? ⟨w.heap.size, 0, none⟩ = some (.int .u64 0) := (by have := HL.out; rw [hw]; exact (blk_cell (blk_far (blk_drewN (blk_drewN HO.out n) m) (by simp; omega) _) 0).trans rfl); have HW := Aside0.mk hw; clear hw)
        go_ret
        have hw := HW.out
        have hlt := HL.out
        refine ⟨rfl, ⟨?_, HE.out⟩, ?_, ?_⟩ <;> rw [hw]
        · exact blk_put (blk_drewN (blk_drewN HG.out n) m) 1 _ rfl
        · exact below_set (pw_below_drewN (pw_below_drewN (below_alloc (below_alloc HB.out _) _) n) m) HE.out
        · exact KeepBut.set_ (keep_drewN (keep_drewN (keep_alloc (keep_alloc (KeepBut.refl _ _ _) _) _) n) m) 1 _
    · rw [if_neg hk] at h
      simp only [Option.some.injEq, Prod.mk.injEq] at h
      obtain ⟨rfl, rfl, rfl⟩ := h
      have HB := Aside0.mk hB
      have HG := Aside0.mk hg
      have HG1 := Aside0.mk hg1
      have HC := Aside0.mk (read_skip g s0_0 99 s0_1 #[.pointer (some ⟨w.heap.size, 0, none⟩)] _ hk hg1)
      clear hB hg hg1
      go_enter Try.func81, Try.ntmps81
      go_wp2_with (go_at_call 98; refine HC.out.mono ?_; rintro e w' ⟨rfl, rfl⟩)
      go_ret
      refine ⟨by simp, ⟨?_, hge⟩, ?_, ?_⟩
      · exact blk_alloc HG1.out _
      · exact below_alloc (below_alloc HB.out _) _
      · exact keep_alloc (keep_alloc (KeepBut.refl _ _ _) _) _
  · rw [if_neg hs] at h
    cases h

/-! ### pack_Reader_Err: function 82 -/
theorem pack_Reader_Err_any (g : Nat) (s : ByteArray) (k : Int) (w : World) (hI : w.heap[g]? = some (.cells #[.string s, .int .i64 k] 120 (0, 0))) :
    Calls Try.prog 82 #[.pointer (some ⟨g, 0, none⟩)] w fun e w' => e = .returned (.int .i64 k) ∧ w' = w := by
  have h1 := cellS120_1 hI
  go_enter Try.func82, Try.ntmps82
  go_wp2
  go_ret
  exact ⟨rfl, rfl⟩
def pack_Reader_Err.f (s : ByteArray) (k : Int) : Option (Int × ByteArray × Int) := some (k, s, k)
theorem pack_Reader_Err.calls (g : Nat) (s0_0 : ByteArray) (s0_1 : Int) (r1 : Int) (r2 : ByteArray) (r3 : Int) (w0 w : World) (hI : IsS120 w0 w g s0_0 s0_1) (hB : Below w0.heap.size w0 w) (h : pack_Reader_Err.f s0_0 s0_1 = some (r1, r2, r3)) :
    Calls Try.prog 82 #[.pointer (some ⟨g, 0, none⟩)] w fun e w' => e = .returned (.int .i64 r1) ∧ IsS120 w0 w' g r2 r3 ∧ Below w0.heap.size w0 w' ∧ KeepBut w w' g none := by
  simp only [pack_Reader_Err.f, Option.some.injEq, Prod.mk.injEq] at h
  obtain ⟨rfl, rfl, rfl⟩ := h
  refine (pack_Reader_Err_any g s0_0 s0_1 w hI.1).mono ?_
  rintro e w' ⟨rfl, rfl⟩
  exact ⟨rfl, hI, hB, KeepBut.refl _ _ _⟩

/-! ### pack_Reader_Left: function 83 -/
theorem pack_Reader_Left_any (g : Nat) (s : ByteArray) (k : Int) (w : World) (hI : w.heap[g]? = some (.cells #[.string s, .int .i64 k] 120 (0, 0))) :
    Calls Try.prog 83 #[.pointer (some ⟨g, 0, none⟩)] w fun e w' => e = .returned (.int .i64 s.size) ∧ w' = w := by
  have h1 := cellS120_0 hI
  go_enter Try.func83, Try.ntmps83
  go_wp2
  go_ret
  exact ⟨rfl, rfl⟩
def pack_Reader_Left.f (s : ByteArray) (k : Int) : Option (Int × ByteArray × Int) := some ((s.size : Int), s, k)
theorem pack_Reader_Left.calls (g : Nat) (s0_0 : ByteArray) (s0_1 : Int) (r1 : Int) (r2 : ByteArray) (r3 : Int) (w0 w : World) (hI : IsS120 w0 w g s0_0 s0_1) (hB : Below w0.heap.size w0 w) (h : pack_Reader_Left.f s0_0 s0_1 = some (r1, r2, r3)) :
    Calls Try.prog 83 #[.pointer (some ⟨g, 0, none⟩)] w fun e w' => e = .returned (.int .i64 r1) ∧ IsS120 w0 w' g r2 r3 ∧ Below w0.heap.size w0 w' ∧ KeepBut w w' g none := by
  simp only [pack_Reader_Left.f, Option.some.injEq, Prod.mk.injEq] at h
  obtain ⟨rfl, rfl, rfl⟩ := h
  refine (pack_Reader_Left_any g s0_0 s0_1 w hI.1).mono ?_
  rintro e w' ⟨rfl, rfl⟩
  exact ⟨rfl, hI, hB, KeepBut.refl _ _ _⟩

/-! ### pack_Reader_Take: function 84 -/
def pack_Reader_Take.f (s : ByteArray) (k : Int) (a1 : Int) : Option (ByteArray × ByteArray × Int) :=
  if k = 0 then (if 0 ≤ a1 ∧ a1 ≤ (s.size : Int) then some (s.extract 0 a1.toNat, s.extract a1.toNat s.size, 0) else some ((⟨#[]⟩ : ByteArray), s, 2)) else some ((⟨#[]⟩ : ByteArray), s, k)
theorem take_fn40 (args : Array Value) (W : World) : (callFunc 101 args).run Try.prog W = .ok (.enter 101 args) W := by
  simp [go_sem, Try.func101]
set_option maxHeartbeats 8000000 in
set_option maxRecDepth 100000 in
theorem pack_Reader_Take.calls (g : Nat) (s0_0 : ByteArray) (s0_1 : Int) (a1 : Int) (r1 : ByteArray) (r2 : ByteArray) (r3 : Int) (w0 w : World) (hI : IsS120 w0 w g s0_0 s0_1) (hB : Below w0.heap.size w0 w) (h : pack_Reader_Take.f s0_0 s0_1 a1 = some (r1, r2, r3)) :
    Calls Try.prog 84 #[.pointer (some ⟨g, 0, none⟩), .int .i64 a1] w fun e w' => e = .returned (.string r1) ∧ IsS120 w0 w' g r2 r3 ∧ Below w0.heap.size w0 w' ∧ KeepBut w w' g none := by
  have hmf : ∀ (fn : Fn) (first cap : Array Value) (w : World), (Instr.makeFunc fn first cap).run Try.prog w = .ok (.func fn first cap) w := fun _ _ _ _ => rfl
  obtain ⟨hg, hge⟩ := hI
  have hlt := blk_lt hg
  have hg1 := blk_alloc (blk_alloc hg (.cells #[.int .i64 a1] 3)) (.cells #[.string ⟨#[]⟩] 9)
  have hsz := hB.size
  have hn := blk_alloc (blk_new w (.cells #[.int .i64 a1] 3)) (.cells #[.string ⟨#[]⟩] 9)
  have ho : ((w.alloc (.cells #[.int .i64 a1] 3)).alloc (.cells #[.string ⟨#[]⟩] 9)).heap[w.heap.size + 1]? = some (.cells #[.string ⟨#[]⟩] 9 (0, 0)) := by
    have := blk_new (w.alloc (.cells #[.int .i64 a1] 3)) (.cells #[.string ⟨#[]⟩] 9)
    simpa using this
  have hsA : ((w.alloc (.cells #[.int .i64 a1] 3)).alloc (.cells #[.string ⟨#[]⟩] 9)).heap.size = w.heap.size + 2 := by simp
  have HBA := below_alloc (below_alloc hB (.cells #[.int .i64 a1] 3)) (.cells #[.string ⟨#[]⟩] 9)
  have HKA := keep_alloc (keep_alloc (KeepBut.refl w g none) (.cells #[.int .i64 a1] 3)) (.cells #[.string ⟨#[]⟩] 9)
  obtain ⟨wA, hwA⟩ : ∃ wA, (w.alloc (.cells #[.int .i64 a1] 3)).alloc (.cells #[.string ⟨#[]⟩] 9) = wA := ⟨_, rfl⟩
  rw [hwA] at hg1 hn ho hsA HBA HKA
  have ho1 := blk_alloc ho (.cells #[.pointer (some ⟨g, 0, none⟩)] 85)
  have hn1 := blk_alloc hn (.cells #[.pointer (some ⟨g, 0, none⟩)] 85)
  have hg2 := blk_alloc hg1 (.cells #[.pointer (some ⟨g, 0, none⟩)] 85)
  have hb2 := blk_new wA (.cells #[.pointer (some ⟨g, 0, none⟩)] 85)
  have HWA := Aside0.mk hwA
  have HG := Aside0.mk hg2
  have HO := Aside0.mk ho1
  have HL := Aside0.mk hlt
  have HE := Aside0.mk hge
  have HZ := Aside0.mk hsz
  unfold pack_Reader_Take.f at h
  by_cases hk : s0_1 = 0
  · subst hk
    rw [if_pos rfl] at h
    by_cases hR : 0 ≤ a1 ∧ a1 ≤ (s0_0.size : Int)
    · rw [if_pos hR] at h
      simp only [Option.some.injEq, Prod.mk.injEq] at h
      obtain ⟨rfl, rfl, rfl⟩ := h
      have HC := Aside0.mk (read_ret g s0_0 (s0_0.extract a1.toNat s0_0.size) 101 #[.pointer (some ⟨w.heap.size, 0, none⟩), .pointer (some ⟨w.heap.size + 1, 0, none⟩)] wA
        (fun w' => ∃ n, w' = (((wA.alloc (.cells #[.pointer (some ⟨g, 0, none⟩)] 85)).drewN n).setCell ⟨w.heap.size + 1, 0, none⟩ (.string (s0_0.extract 0 a1.toNat)))) hg1
        (fun n => (take1_ok s0_0 _ a1 ⟨w.heap.size, 0, none⟩ ⟨w.heap.size + 1, 0, none⟩ ((wA.alloc (.cells #[.pointer (some ⟨g, 0, none⟩)] 85)).drewN n) ((blk_cell (blk_drewN hn1 n) 0).trans rfl) ((blk_cell (blk_drewN ho1 n) 0).trans rfl) (blk_frozen (blk_drewN ho1 n) 0) (by simp) hR.1 hR.2).mono (by
          rintro e w' ⟨rfl, rfl⟩
          exact ⟨rfl, n, rfl⟩))
        (take_fn40 _) (by
          rintro w' ⟨n, rfl⟩
          exact ⟨blk_far (blk_drewN hg2 n) (by simp; omega) _, blk_far (blk_drewN hb2 n) (by simp; omega) _⟩))
      clear hB hg hg1 ho ho1 hg2 hb2 hlt hge hsz hn hn1 hsA hR
      subst hwA
      go_enter Try.func84, Try.ntmps84
      go_wp2_with (go_at_call 98; refine HC.out.mono ?_; rintro e w' ⟨rfl, w1, ⟨n, rfl⟩, hw⟩; have hcell : w'.cell? ⟨w.heap.size + 1, 0, none⟩ = some (.string (s0_0.extract 0 a1.toNat)) := (by have := HL.out; rw [hw]; exact (blk_cell (blk_far (blk_set (blk_drewN HO.out n) 0 _) (by simp; omega) _) 0).trans rfl); have HW := Aside0.mk hw; clear hw)
      go_ret
      have hw := HW.out
      have hlt := HL.out
      have hz := HZ.out
      refine ⟨rfl, ⟨?_, HE.out⟩, ?_, ?_⟩ <;> rw [hw]
      · exact blk_put (blk_far (blk_drewN HG.out n) (by simp; omega) _) 0 _ rfl
      · exact below_set (below_set (pw_below_drewN (below_alloc HBA _) n) (by omega)) HE.out
      · exact KeepBut.set_ (keep_far (keep_drewN (keep_alloc HKA _) n) (by simp) _) 0 _
    · rw [if_neg hR] at h
      simp only [Option.some.injEq, Prod.mk.injEq] at h
      obtain ⟨rfl, rfl, rfl⟩ := h
      have HC := Aside0.mk (read_panics g s0_0 101 2 #[.pointer (some ⟨w.heap.size, 0, none⟩), .pointer (some ⟨w.heap.size + 1, 0, none⟩)] wA
        (fun w' => ∃ n, w' = (wA.alloc (.cells #[.pointer (some ⟨g, 0, none⟩)] 85)).drewN n) hg1
        (fun n => (take1_no s0_0 ⟨#[]⟩ a1 ⟨w.heap.size, 0, none⟩ ⟨w.heap.size + 1, 0, none⟩ ((wA.alloc (.cells #[.pointer (some ⟨g, 0, none⟩)] 85)).drewN n) ((blk_cell (blk_drewN hn1 n) 0).trans rfl) (by omega)).mono (by
          rintro e w' ⟨rfl, rfl⟩
          exact ⟨rfl, n, rfl⟩))
        (take_fn40 _) (by
          rintro w' ⟨n, rfl⟩
          exact ⟨blk_drewN hg2 n, blk_drewN hb2 n⟩))
      clear hB hg hg1 ho ho1 hg2 hb2 hlt hge hsz hn hn1 hsA hR
      subst hwA
      go_enter Try.func84, Try.ntmps84
      go_wp2_with (go_at_call 98; refine HC.out.mono ?_; rintro e w' ⟨rfl, w1, m, ⟨n, rfl⟩, hw⟩; have hcell : w'.cell? ⟨w.heap.size + 1, 0, none⟩ = some (.string ⟨#[]⟩) := (by have := HL.out; rw [hw]; exact (blk_cell (blk_far (blk_drewN (blk_drewN HO.out n) m) (by simp; omega) _) 0).trans rfl); have HW := Aside0.mk hw; clear hw)
      go_ret
      have hw := HW.out
      have hlt := HL.out
      refine ⟨rfl, ⟨?_, HE.out⟩, ?_, ?_⟩ <;> rw [hw]
      · exact blk_put (blk_drewN (blk_drewN HG.out n) m) 1 _ rfl
      · exact below_set (pw_below_drewN (pw_below_drewN (below_alloc HBA _) n) m) HE.out
      · exact KeepBut.set_ (keep_drewN (keep_drewN (keep_alloc HKA _) n) m) 1 _
  · rw [if_neg hk] at h
    simp only [Option.some.injEq, Prod.mk.injEq] at h
    obtain ⟨rfl, rfl, rfl⟩ := h
    have HC := Aside0.mk (read_skip g s0_0 101 s0_1 #[.pointer (some ⟨w.heap.size, 0, none⟩), .pointer (some ⟨w.heap.size + 1, 0, none⟩)] wA hk hg1)
    clear hB hg hg1 ho ho1 hg2 hb2 hlt hge hsz hn hn1 hsA
    subst hwA
    go_enter Try.func84, Try.ntmps84
    go_wp2_with (go_at_call 98; refine HC.out.mono ?_; rintro e w' ⟨rfl, hw⟩; have hcell : w'.cell? ⟨w.heap.size + 1, 0, none⟩ = some (.string ⟨#[]⟩) := (by rw [hw]; exact (blk_cell HO.out 0).trans rfl); have HW := Aside0.mk hw; clear hw)
    go_ret
    have hw := HW.out
    refine ⟨rfl, ⟨?_, HE.out⟩, ?_, ?_⟩ <;> rw [hw]
    · exact HG.out
    · exact below_alloc HBA _
    · exact keep_alloc HKA _

/-! ### word_Take: function 35 -/
mutual
def word_Take.j0 : Nat → ByteArray → Int → Int → Bool → Option (ByteArray × Int × Int)
  | 0, _, _, _, _ => none
  | k + 1, x0, x1, x2, x19 => if x19 = true then (some ((⟨#[]⟩ : ByteArray), 0, 1)) else (if 0 ≤ x1 then (if x1 ≤ (x0.size : Int) then ((pack_New.f (x0.extract (x1 : Int).toNat x0.size)).bind fun bt115 => ((pack_Reader_Num.f bt115.1 bt115.2).bind fun bt118 => ((pack_Reader_Err.f bt118.2.1 bt118.2.2).bind fun bt121 => (if bt121.1 = 0 then (if x2 < 0 then (word_Take.j1 k x0 bt118.1 true bt121.2.1 bt121.2.2) else (word_Take.j1 k x0 bt118.1 (decide (bt118.1 > (IntKind.u64.wrap (x2)))) bt121.2.1 bt121.2.2)) else ((pack_Reader_Err.f bt121.2.1 bt121.2.2).bind fun bt127 => (some ((⟨#[]⟩ : ByteArray), 0, bt127.1))))))) else (none)) else (none))
def word_Take.j1 : Nat → ByteArray → Int → Bool → ByteArray → Int → Option (ByteArray × Int × Int)
  | 0, _, _, _, _, _ => none
  | k + 1, x0, x10, x32, x118000, x118001 => if x32 = true then (some ((⟨#[]⟩ : ByteArray), 0, 10)) else ((pack_Reader_Left.f x118000 x118001).bind fun bt124 => (if x10 > (IntKind.u64.wrap (bt124.1)) then (some ((⟨#[]⟩ : ByteArray), 0, 2)) else ((pack_Reader_Take.f bt124.2.1 bt124.2.2 (wrap64 (x10))).bind fun bt130 => ((word_Valid.f bt130.1).bind fun t133 => (if t133 = true then ((pack_Reader_Left.f bt130.2.1 bt130.2.2).bind fun bt134 => (some (bt130.1, wrap64 ((x0.size : Int) - bt134.1), 0))) else (some ((⟨#[]⟩ : ByteArray), 0, 4)))))))
end
def word_Take.f (k : Nat) (a0 : ByteArray) (a1 : Int) (a2 : Int) : Option (ByteArray × Int × Int) := if a1 < 0 then (word_Take.j0 k a0 a1 a2 true) else (word_Take.j0 k a0 a1 a2 (decide (a1 > (a0.size : Int))))
theorem word_Take.mono_l : ∀ k, (∀ y0 y1 y2 y3, LeO (word_Take.j0 k y0 y1 y2 y3) (word_Take.j0 (k + 1) y0 y1 y2 y3)) ∧ (∀ y0 y1 y2 y3 y4, LeO (word_Take.j1 k y0 y1 y2 y3 y4) (word_Take.j1 (k + 1) y0 y1 y2 y3 y4))
  | 0 => ⟨fun _ _ _ _ r h => by simp [word_Take.j0] at h, fun _ _ _ _ _ r h => by simp [word_Take.j1] at h⟩
  | k + 1 => by
    obtain ⟨ih0, ih1⟩ := word_Take.mono_l k
    refine ⟨?_, ?_⟩
    · intro y0 y1 y2 y3
      unfold word_Take.j0
      repeat' first
      | (with_reducible exact ih0 _ _ _ _)
      | (with_reducible exact ih1 _ _ _ _ _)
      | (with_reducible exact LeO.refl _)
      | (with_reducible exact LeO.none _)
      | (with_reducible refine LeO.ite ?_ ?_)
      | (with_reducible refine LeO.bind ?_ (fun _ => ?_))
      | exact ih0 _ _ _ _
      | exact ih1 _ _ _ _ _
      | exact LeO.none _
      | refine LeO.ite ?_ ?_
      | refine LeO.bind ?_ (fun _ => ?_)
    · intro y0 y1 y2 y3 y4
      unfold word_Take.j1
      repeat' first
      | (with_reducible exact ih0 _ _ _ _)
      | (with_reducible exact ih1 _ _ _ _ _)
      | (with_reducible exact LeO.refl _)
      | (with_reducible exact LeO.none _)
      | (with_reducible refine LeO.ite ?_ ?_)
      | (with_reducible refine LeO.bind ?_ (fun _ => ?_))
      | exact ih0 _ _ _ _
      | exact ih1 _ _ _ _ _
      | exact LeO.none _
      | refine LeO.ite ?_ ?_
      | refine LeO.bind ?_ (fun _ => ?_)
theorem word_Take.mono : ∀ a0 a1 a2 k, LeO (word_Take.f k a0 a1 a2) (word_Take.f (k + 1) a0 a1 a2) := by
  intro a0 a1 a2 k
  obtain ⟨ih0, ih1⟩ := word_Take.mono_l k
  unfold word_Take.f
  repeat' first
      | (with_reducible exact ih0 _ _ _ _)
      | (with_reducible exact ih1 _ _ _ _ _)
      | (with_reducible exact LeO.refl _)
      | (with_reducible exact LeO.none _)
      | (with_reducible refine LeO.ite ?_ ?_)
      | (with_reducible refine LeO.bind ?_ (fun _ => ?_))
      | exact ih0 _ _ _ _
      | exact ih1 _ _ _ _ _
      | exact LeO.none _
      | refine LeO.ite ?_ ?_
      | refine LeO.bind ?_ (fun _ => ?_)
set_option maxHeartbeats 8000000 in
set_option maxRecDepth 100000 in
theorem word_Take.calls (k : Nat) (a0 : ByteArray) (a1 : Int) (a2 : Int) (r1 : ByteArray) (r2 : Int) (r3 : Int) (w : World) (h : word_Take.f k a0 a1 a2 = some (r1, r2, r3)) :
    Calls Try.prog 35 #[.string a0, .int .i64 a1, .int .i64 a2] w fun e w' => e = .returned (.tuple #[.string r1, .int .i64 r2, .int .i64 r3]) ∧ Below w.heap.size w w' := by
  have HB := Aside0.mk (Below.refl w.heap.size w)
  have H : (if a1 < 0 then (word_Take.j0 k a0 a1 a2 true) else (word_Take.j0 k a0 a1 a2 (decide (a1 > (a0.size : Int))))) = some (r1, r2, r3) := h
  clear h
  have HC4 := Aside0.mk H
  clear H
  go_enter Try.func35, Try.ntmps35
  go_upto_region 1 with (fail)
  go_cut [19] (fun v19 wc => ∃ (kq : Nat) (x19_3 : Bool), v19 = .bool x19_3 ∧ Aside0 (word_Take.j0 kq a0 a1 a2 x19_3 = some (r1, r2, r3)) ∧ Aside0 (kq ≤ k) ∧ Aside0 (Below w.heap.size w wc))
  case first =>
    have H := HC4.out
    clear HC4
    by_cases c5 : a1 < 0
    · rw [if_pos c5] at H
      have c5b0 : decide (a1 < 0) = true := decide_eq_true c5
      clear c5
      (first | rw [c5b0] | (simp only [i64_w, i32_w]; rw [c5b0]) | skip)
      have H' := Aside0.mk H
      clear H
      go_wp2
      go_meet
      case rel => exact ⟨_, (true), (by first | rfl | (simp; done) | (simp [*]; done)), H', ⟨by first | omega | exact Nat.le_refl _⟩, ⟨by repeat (first | (with_reducible first | exact HB.out | apply below_alloc | apply pw_below_drewN | apply below_drew1) | exact HB.out)⟩⟩
    · rw [if_neg c5] at H
      have c5b0 : decide (a1 < 0) = false := decide_eq_false c5
      clear c5
      (first | rw [c5b0] | (simp only [i64_w, i32_w]; rw [c5b0]) | skip)
      have H' := Aside0.mk H
      clear H
      go_wp2
      go_meet
      case rel => exact ⟨_, (decide (a1 > (a0.size : Int))), (by first | rfl | (simp; done) | (simp [*]; done)), H', ⟨by first | omega | exact Nat.le_refl _⟩, ⟨by repeat (first | (with_reducible first | exact HB.out | apply below_alloc | apply pw_below_drewN | apply below_drew1) | exact HB.out)⟩⟩
  case rest =>
    clear HC4
    try clear p2
    try clear c3
    try clear c5
    try clear c5b0
    obtain ⟨kq, x19_3, rfl, HA, HJ3, HB⟩ := hcut
    cases kq with
    | zero => exact absurd HA.out (by simp [word_Take.j0])
    | succ kj3 =>
      have H := HA.out
      clear HA
      simp only [word_Take.j0] at H
      by_cases c6 : x19_3 = true
      · subst c6
        have H1 : (some ((⟨#[]⟩ : ByteArray), 0, 1)) = some (r1, r2, r3) := by rw [if_pos rfl] at H; exact H
        clear H
        have H := H1
        clear H1
        simp only [Option.some.injEq, Prod.mk.injEq] at H
        obtain ⟨rfl, rfl, rfl⟩ := H
        go_wp2
        go_ret3
        exact ⟨by first | rfl | (simp [errW_none, errW_some] <;> rfl) | (simp [*, errW_none, errW_some] <;> rfl), by repeat (first | (with_reducible first | exact HB.out | apply below_alloc | apply pw_below_drewN | apply below_drew1) | exact HB.out)⟩
      · replace c6 := Bool.eq_false_iff.mpr c6
        subst c6
        have H1 : (if 0 ≤ a1 then (if a1 ≤ (a0.size : Int) then ((pack_New.f (a0.extract (a1 : Int).toNat a0.size)).bind fun bt115 => ((pack_Reader_Num.f bt115.1 bt115.2).bind fun bt118 => ((pack_Reader_Err.f bt118.2.1 bt118.2.2).bind fun bt121 => (if bt121.1 = 0 then (if a2 < 0 then (word_Take.j1 kj3 a0 bt118.1 true bt121.2.1 bt121.2.2) else (word_Take.j1 kj3 a0 bt118.1 (decide (bt118.1 > (IntKind.u64.wrap (a2)))) bt121.2.1 bt121.2.2)) else ((pack_Reader_Err.f bt121.2.1 bt121.2.2).bind fun bt127 => (some ((⟨#[]⟩ : ByteArray), 0, bt127.1))))))) else (none)) else (none)) = some (r1, r2, r3) := by rw [if_neg (show ¬ (false = true) by decide)] at H; exact H
        clear H
        have H := H1
        clear H1
        by_cases c7 : 0 ≤ a1
        · rw [if_pos c7] at H
          have c7b0 := eq_true c7
          have c7b1 : decide (0 ≤ a1) = true := decide_eq_true c7
          clear c7
          by_cases c8 : a1 ≤ (a0.size : Int)
          · rw [if_pos c8] at H
            have c8b0 := eq_true c8
            have c8b1 : decide (a1 ≤ (a0.size : Int)) = true := decide_eq_true c8
            clear c8
            replace H := Option.bind_eq_some_iff.mp H
            obtain ⟨⟨t115, t116⟩, A90, H⟩ := H
            replace H : ((pack_Reader_Num.f t115 t116).bind fun bt118 => ((pack_Reader_Err.f bt118.2.1 bt118.2.2).bind fun bt121 => (if bt121.1 = 0 then (if a2 < 0 then (word_Take.j1 kj3 a0 bt118.1 true bt121.2.1 bt121.2.2) else (word_Take.j1 kj3 a0 bt118.1 (decide (bt118.1 > (IntKind.u64.wrap (a2)))) bt121.2.1 bt121.2.2)) else ((pack_Reader_Err.f bt121.2.1 bt121.2.2).bind fun bt127 => (some ((⟨#[]⟩ : ByteArray), 0, bt127.1)))))) = some (r1, r2, r3) := H
            have A9 := Aside0.mk A90
            clear A90
            replace H := Option.bind_eq_some_iff.mp H
            obtain ⟨⟨t118, t119, t120⟩, A100, H⟩ := H
            replace H : ((pack_Reader_Err.f t119 t120).bind fun bt121 => (if bt121.1 = 0 then (if a2 < 0 then (word_Take.j1 kj3 a0 t118 true bt121.2.1 bt121.2.2) else (word_Take.j1 kj3 a0 t118 (decide (t118 > (IntKind.u64.wrap (a2)))) bt121.2.1 bt121.2.2)) else ((pack_Reader_Err.f bt121.2.1 bt121.2.2).bind fun bt127 => (some ((⟨#[]⟩ : ByteArray), 0, bt127.1))))) = some (r1, r2, r3) := H
            have A10 := Aside0.mk A100
            clear A100
            replace H := Option.bind_eq_some_iff.mp H
            obtain ⟨⟨t121, t122, t123⟩, A110, H⟩ := H
            replace H : (if t121 = 0 then (if a2 < 0 then (word_Take.j1 kj3 a0 t118 true t122 t123) else (word_Take.j1 kj3 a0 t118 (decide (t118 > (IntKind.u64.wrap (a2)))) t122 t123)) else ((pack_Reader_Err.f t122 t123).bind fun bt127 => (some ((⟨#[]⟩ : ByteArray), 0, bt127.1)))) = some (r1, r2, r3) := H
            have A11 := Aside0.mk A110
            clear A110
            by_cases c12 : t121 = 0
            · rw [if_pos c12] at H
              have c12b0 : (t121 == 0) = true := beq_iff_eq.mpr c12
              have c12b1 : (t121 != 0) = false := bne_eq_false_iff_eq.mpr c12
              clear c12
              have HC13 := Aside0.mk H
              clear H
              go_upto_region 7 with (first | ((with_reducible refine gate_callee (f := 80) rfl ?_); refine goesL_ (some 23) rfl rfl Try.func80 (by kernel_rfl) rfl #[.string (a0.extract (a1 : Int).toNat a0.size)] rfl (by (try simp only [List.map_toArray, List.map_cons, List.map_nil]); first | done | rfl | (simp only [List.length_drop, List.length_take]; rfl)) ?_; (with_reducible refine (pack_New.calls (a0.extract (a1 : Int).toNat a0.size) t115 t116 w _ ?side1 A9.out).mono ?_); (case side1 => repeat (first | (with_reducible first | exact HB.out | apply below_alloc | apply pw_below_drewN | apply below_drew1) | exact HB.out)); rintro e w14 ⟨g117, rfl, hi, hb, hb2⟩; refine ⟨_, rfl, ?_⟩; have n0_ := Aside0.mk (hb); have n1_ := Aside0.mk (hi); clear HB; have HB := n0_; have HI117 := n1_; clear n0_ n1_; (try clear hb); (try clear hb2); (try clear hk); (try clear hi)) | ((with_reducible refine gate_callee (f := 81) rfl ?_); refine goesL_ (some 25) rfl rfl Try.func81 (by kernel_rfl) rfl #[.pointer (some ⟨g117, 0, none⟩)] rfl (by (try simp only [List.map_toArray, List.map_cons, List.map_nil]); first | done | rfl | (simp only [List.length_drop, List.length_take]; rfl)) ?_; (with_reducible refine (pack_Reader_Num.calls g117 t115 t116 t118 t119 t120 w _ ?side1 ?side2 A10.out).mono ?_); (case side1 => repeat (first | (with_reducible first | exact HI117.out | apply IsS120.alloc | apply IsS120.drewN | apply IsS120.drew | apply IsS120.set_0 | apply IsS120.set_1) | exact HI117.out)); (case side2 => repeat (first | (with_reducible first | exact HB.out | apply below_alloc | apply pw_below_drewN | apply below_drew1 | refine below_set ?_ (IsS120.ge HI117.out)) | exact HB.out)); rintro e w15 ⟨rfl, hi, hb, hk⟩; refine ⟨_, rfl, ?_⟩; have n0_ := Aside0.mk (hb); have n1_ := Aside0.mk (hi); clear HB; clear HI117; have HB := n0_; have HI117 := n1_; clear n0_ n1_; (try clear hb); (try clear hb2); (try clear hk); (try clear hi)) | ((with_reducible refine gate_callee (f := 82) rfl ?_); refine goesL_ (some 28) rfl rfl Try.func82 (by kernel_rfl) rfl #[.pointer (some ⟨g117, 0, none⟩)] rfl (by (try simp only [List.map_toArray, List.map_cons, List.map_nil]); first | done | rfl | (simp only [List.length_drop, List.length_take]; rfl)) ?_; (with_reducible refine (pack_Reader_Err.calls g117 t119 t120 t121 t122 t123 w _ ?side1 ?side2 A11.out).mono ?_); (case side1 => repeat (first | (with_reducible first | exact HI117.out | apply IsS120.alloc | apply IsS120.drewN | apply IsS120.drew | apply IsS120.set_0 | apply IsS120.set_1) | exact HI117.out)); (case side2 => repeat (first | (with_reducible first | exact HB.out | apply below_alloc | apply pw_below_drewN | apply below_drew1 | refine below_set ?_ (IsS120.ge HI117.out)) | exact HB.out)); rintro e w16 ⟨rfl, hi, hb, hk⟩; refine ⟨_, rfl, ?_⟩; have n0_ := Aside0.mk (hb); have n1_ := Aside0.mk (hi); clear HB; clear HI117; have HB := n0_; have HI117 := n1_; clear n0_ n1_; (try clear hb); (try clear hb2); (try clear hk); (try clear hi)))
              (try simp only [Act.put, List.setIfInBounds_toArray, List.set_cons_zero, List.set_cons_succ])
              go_cut [32] (fun v32 wc => ∃ (kq : Nat) (x32_12 : Bool), v32 = .bool x32_12 ∧ Aside0 (word_Take.j1 kq a0 t118 x32_12 t122 t123 = some (r1, r2, r3)) ∧ Aside0 (kq ≤ kj3) ∧ Aside0 (IsS120 w wc g117 t122 t123) ∧ Aside0 (Below w.heap.size w wc))
              case first =>
                have H := HC13.out
                clear HC13
                by_cases c17 : a2 < 0
                · rw [if_pos c17] at H
                  have c17b0 : decide (a2 < 0) = true := decide_eq_true c17
                  clear c17
                  (first | rw [c17b0] | (simp only [i64_w, i32_w]; rw [c17b0]) | skip)
                  have H' := Aside0.mk H
                  clear H
                  go_wp2
                  go_meet
                  case rel => exact ⟨_, (true), (by first | rfl | (simp; done) | (simp [*]; done)), H', ⟨by have := HJ3.out; first | omega | exact Nat.le_refl _⟩, ⟨by repeat (first | (with_reducible first | exact HI117.out | apply IsS120.alloc | apply IsS120.drewN | apply IsS120.drew | apply IsS120.set_0 | apply IsS120.set_1) | exact HI117.out)⟩, ⟨by repeat (first | (with_reducible first | exact HB.out | apply below_alloc | apply pw_below_drewN | apply below_drew1 | refine below_set ?_ (IsS120.ge HI117.out)) | exact HB.out)⟩⟩
                · rw [if_neg c17] at H
                  have c17b0 : decide (a2 < 0) = false := decide_eq_false c17
                  clear c17
                  (first | rw [c17b0] | (simp only [i64_w, i32_w]; rw [c17b0]) | skip)
                  have H' := Aside0.mk H
                  clear H
                  go_wp2
                  go_meet
                  case rel => exact ⟨_, (decide (t118 > (IntKind.u64.wrap (a2)))), (by first | rfl | (simp; done) | (simp [*]; done)), H', ⟨by have := HJ3.out; first | omega | exact Nat.le_refl _⟩, ⟨by repeat (first | (with_reducible first | exact HI117.out | apply IsS120.alloc | apply IsS120.drewN | apply IsS120.drew | apply IsS120.set_0 | apply IsS120.set_1) | exact HI117.out)⟩, ⟨by repeat (first | (with_reducible first | exact HB.out | apply below_alloc | apply pw_below_drewN | apply below_drew1 | refine below_set ?_ (IsS120.ge HI117.out)) | exact HB.out)⟩⟩
              case rest =>
                clear HC13
                try clear c1
                try clear p2
                try clear c3
                try clear c5
                try clear c5b0
                try clear c6
                try clear c7
                try clear c7b0
                try clear c7b1
                try clear c8
                try clear c8b0
                try clear c8b1
                try clear c12
                try clear c12b0
                try clear c12b1
                try clear c17
                try clear c17b0
                try clear p2
                obtain ⟨kq, x32_12, rfl, HA, HJ12, HI117, HB⟩ := hcut
                cases kq with
                | zero => exact absurd HA.out (by simp [word_Take.j1])
                | succ kj12 =>
                  have H := HA.out
                  clear HA
                  simp only [word_Take.j1] at H
                  by_cases c18 : x32_12 = true
                  · subst c18
                    have H1 : (some ((⟨#[]⟩ : ByteArray), 0, 10)) = some (r1, r2, r3) := by rw [if_pos rfl] at H; exact H
                    clear H
                    have H := H1
                    clear H1
                    simp only [Option.some.injEq, Prod.mk.injEq] at H
                    obtain ⟨rfl, rfl, rfl⟩ := H
                    go_wp2
                    go_ret3
                    exact ⟨by first | rfl | (simp [errW_none, errW_some] <;> rfl) | (simp [*, errW_none, errW_some] <;> rfl), by repeat (first | (with_reducible first | exact HB.out | apply below_alloc | apply pw_below_drewN | apply below_drew1 | refine below_set ?_ (IsS120.ge HI117.out)) | exact HB.out)⟩
                  · replace c18 := Bool.eq_false_iff.mpr c18
                    subst c18
                    have H1 : ((pack_Reader_Left.f t122 t123).bind fun bt124 => (if t118 > (IntKind.u64.wrap (bt124.1)) then (some ((⟨#[]⟩ : ByteArray), 0, 2)) else ((pack_Reader_Take.f bt124.2.1 bt124.2.2 (wrap64 (t118))).bind fun bt130 => ((word_Valid.f bt130.1).bind fun t133 => (if t133 = true then ((pack_Reader_Left.f bt130.2.1 bt130.2.2).bind fun bt134 => (some (bt130.1, wrap64 ((a0.size : Int) - bt134.1), 0))) else (some ((⟨#[]⟩ : ByteArray), 0, 4))))))) = some (r1, r2, r3) := by rw [if_neg (show ¬ (false = true) by decide)] at H; exact H
                    clear H
                    have H := H1
                    clear H1
                    replace H := Option.bind_eq_some_iff.mp H
                    obtain ⟨⟨t124, t125, t126⟩, A190, H⟩ := H
                    replace H : (if t118 > (IntKind.u64.wrap (t124)) then (some ((⟨#[]⟩ : ByteArray), 0, 2)) else ((pack_Reader_Take.f t125 t126 (wrap64 (t118))).bind fun bt130 => ((word_Valid.f bt130.1).bind fun t133 => (if t133 = true then ((pack_Reader_Left.f bt130.2.1 bt130.2.2).bind fun bt134 => (some (bt130.1, wrap64 ((a0.size : Int) - bt134.1), 0))) else (some ((⟨#[]⟩ : ByteArray), 0, 4)))))) = some (r1, r2, r3) := H
                    have A19 := Aside0.mk A190
                    clear A190
                    by_cases c20 : t118 > (IntKind.u64.wrap (t124))
                    · rw [if_pos c20] at H
                      have c20b0 : decide ((IntKind.u64.wrap (t124)) < t118) = true := decide_eq_true c20
                      clear c20
                      simp only [Option.some.injEq, Prod.mk.injEq] at H
                      obtain ⟨rfl, rfl, rfl⟩ := H
                      go_wp2_with (first | ((with_reducible refine gate_callee (f := 83) rfl ?_); refine goesL_ (some 44) rfl rfl Try.func83 (by kernel_rfl) rfl #[.pointer (some ⟨g117, 0, none⟩)] rfl (by (try simp only [List.map_toArray, List.map_cons, List.map_nil]); first | done | rfl | (simp only [List.length_drop, List.length_take]; rfl)) ?_; (with_reducible refine (pack_Reader_Left.calls g117 t122 t123 t124 t125 t126 w _ ?side1 ?side2 A19.out).mono ?_); (case side1 => repeat (first | (with_reducible first | exact HI117.out | apply IsS120.alloc | apply IsS120.drewN | apply IsS120.drew | apply IsS120.set_0 | apply IsS120.set_1) | exact HI117.out)); (case side2 => repeat (first | (with_reducible first | exact HB.out | apply below_alloc | apply pw_below_drewN | apply below_drew1 | refine below_set ?_ (IsS120.ge HI117.out)) | exact HB.out)); rintro e w21 ⟨rfl, hi, hb, hk⟩; refine ⟨_, rfl, ?_⟩; have n0_ := Aside0.mk (hb); have n1_ := Aside0.mk (hi); clear HB; clear HI117; have HB := n0_; have HI117 := n1_; clear n0_ n1_; (try clear hb); (try clear hb2); (try clear hk); (try clear hi)))
                      go_ret3
                      exact ⟨by first | rfl | (simp [errW_none, errW_some] <;> rfl) | (simp [*, errW_none, errW_some] <;> rfl), by repeat (first | (with_reducible first | exact HB.out | apply below_alloc | apply pw_below_drewN | apply below_drew1 | refine below_set ?_ (IsS120.ge HI117.out)) | exact HB.out)⟩
                    · rw [if_neg c20] at H
                      have c20b0 : decide ((IntKind.u64.wrap (t124)) < t118) = false := decide_eq_false c20
                      clear c20
                      replace H := Option.bind_eq_some_iff.mp H
                      obtain ⟨⟨t130, t131, t132⟩, A220, H⟩ := H
                      replace H : ((word_Valid.f t130).bind fun t133 => (if t133 = true then ((pack_Reader_Left.f t131 t132).bind fun bt134 => (some (t130, wrap64 ((a0.size : Int) - bt134.1), 0))) else (some ((⟨#[]⟩ : ByteArray), 0, 4)))) = some (r1, r2, r3) := H
                      have A22 := Aside0.mk A220
                      clear A220
                      replace H := Option.bind_eq_some_iff.mp H
                      obtain ⟨t133, A230, H⟩ := H
                      replace H : (if t133 = true then ((pack_Reader_Left.f t131 t132).bind fun bt134 => (some (t130, wrap64 ((a0.size : Int) - bt134.1), 0))) else (some ((⟨#[]⟩ : ByteArray), 0, 4))) = some (r1, r2, r3) := H
                      have A23 := Aside0.mk A230
                      clear A230
                      by_cases c24 : t133 = true
                      · subst c24
                        have H1 : ((pack_Reader_Left.f t131 t132).bind fun bt134 => (some (t130, wrap64 ((a0.size : Int) - bt134.1), 0))) = some (r1, r2, r3) := by rw [if_pos rfl] at H; exact H
                        clear H
                        have H := H1
                        clear H1
                        replace H := Option.bind_eq_some_iff.mp H
                        obtain ⟨⟨t134, t135, t136⟩, A250, H⟩ := H
                        replace H : (some (t130, wrap64 ((a0.size : Int) - t134), 0)) = some (r1, r2, r3) := H
                        have A25 := Aside0.mk A250
                        clear A250
                        simp only [Option.some.injEq, Prod.mk.injEq] at H
                        obtain ⟨rfl, rfl, rfl⟩ := H
                        go_wp2_with (first | ((with_reducible refine gate_callee (f := 83) rfl ?_); refine goesL_ (some 44) rfl rfl Try.func83 (by kernel_rfl) rfl #[.pointer (some ⟨g117, 0, none⟩)] rfl (by (try simp only [List.map_toArray, List.map_cons, List.map_nil]); first | done | rfl | (simp only [List.length_drop, List.length_take]; rfl)) ?_; (with_reducible refine (pack_Reader_Left.calls g117 t122 t123 t124 t125 t126 w _ ?side1 ?side2 A19.out).mono ?_); (case side1 => repeat (first | (with_reducible first | exact HI117.out | apply IsS120.alloc | apply IsS120.drewN | apply IsS120.drew | apply IsS120.set_0 | apply IsS120.set_1) | exact HI117.out)); (case side2 => repeat (first | (with_reducible first | exact HB.out | apply below_alloc | apply pw_below_drewN | apply below_drew1 | refine below_set ?_ (IsS120.ge HI117.out)) | exact HB.out)); rintro e w26 ⟨rfl, hi, hb, hk⟩; refine ⟨_, rfl, ?_⟩; have n0_ := Aside0.mk (hb); have n1_ := Aside0.mk (hi); clear HB; clear HI117; have HB := n0_; have HI117 := n1_; clear n0_ n1_; (try clear hb); (try clear hb2); (try clear hk); (try clear hi)) | ((with_reducible refine gate_callee (f := 84) rfl ?_); refine goesL_ (some 50) rfl rfl Try.func84 (by kernel_rfl) rfl #[.pointer (some ⟨g117, 0, none⟩), .int .i64 (wrap64 (t118))] rfl (by (try simp only [List.map_toArray, List.map_cons, List.map_nil]); first | done | rfl | (simp only [List.length_drop, List.length_take]; rfl)) ?_; (with_reducible refine (pack_Reader_Take.calls g117 t125 t126 (wrap64 (t118)) t130 t131 t132 w _ ?side1 ?side2 A22.out).mono ?_); (case side1 => repeat (first | (with_reducible first | exact HI117.out | apply IsS120.alloc | apply IsS120.drewN | apply IsS120.drew | apply IsS120.set_0 | apply IsS120.set_1) | exact HI117.out)); (case side2 => repeat (first | (with_reducible first | exact HB.out | apply below_alloc | apply pw_below_drewN | apply below_drew1 | refine below_set ?_ (IsS120.ge HI117.out)) | exact HB.out)); rintro e w27 ⟨rfl, hi, hb, hk⟩; refine ⟨_, rfl, ?_⟩; have n0_ := Aside0.mk (hb); have n1_ := Aside0.mk (hi); clear HB; clear HI117; have HB := n0_; have HI117 := n1_; clear n0_ n1_; (try clear hb); (try clear hb2); (try clear hk); (try clear hi)) | ((with_reducible refine gate_callee (f := 29) rfl ?_); refine goesL_ (some 52) rfl rfl Try.func29 (by kernel_rfl) rfl #[.string t130] rfl (by (try simp only [List.map_toArray, List.map_cons, List.map_nil]); first | done | rfl | (simp only [List.length_drop, List.length_take]; rfl)) ?_; (with_reducible refine (word_Valid.calls t130 true _ A23.out).mono ?_); rintro e w28 ⟨rfl, hb⟩; refine ⟨_, rfl, ?_⟩; have n0_ := Aside0.mk (IsS120.below (by repeat (first | (with_reducible first | exact HI117.out | apply IsS120.alloc | apply IsS120.drewN | apply IsS120.drew | apply IsS120.set_0 | apply IsS120.set_1) | exact HI117.out)) hb); have n1_ := Aside0.mk (below_step (by repeat (first | (with_reducible first | exact HB.out | apply below_alloc | apply pw_below_drewN | apply below_drew1 | refine below_set ?_ (IsS120.ge HI117.out)) | exact HB.out)) hb); clear HI117; clear HB; have HI117 := n0_; have HB := n1_; clear n0_ n1_; (try clear hb); (try clear hb2); (try clear hk); (try clear hi)) | ((with_reducible refine gate_callee (f := 83) rfl ?_); refine goesL_ (some 58) rfl rfl Try.func83 (by kernel_rfl) rfl #[.pointer (some ⟨g117, 0, none⟩)] rfl (by (try simp only [List.map_toArray, List.map_cons, List.map_nil]); first | done | rfl | (simp only [List.length_drop, List.length_take]; rfl)) ?_; (with_reducible refine (pack_Reader_Left.calls g117 t131 t132 t134 t135 t136 w _ ?side1 ?side2 A25.out).mono ?_); (case side1 => repeat (first | (with_reducible first | exact HI117.out | apply IsS120.alloc | apply IsS120.drewN | apply IsS120.drew | apply IsS120.set_0 | apply IsS120.set_1) | exact HI117.out)); (case side2 => repeat (first | (with_reducible first | exact HB.out | apply below_alloc | apply pw_below_drewN | apply below_drew1 | refine below_set ?_ (IsS120.ge HI117.out)) | exact HB.out)); rintro e w29 ⟨rfl, hi, hb, hk⟩; refine ⟨_, rfl, ?_⟩; have n0_ := Aside0.mk (hb); have n1_ := Aside0.mk (hi); clear HB; clear HI117; have HB := n0_; have HI117 := n1_; clear n0_ n1_; (try clear hb); (try clear hb2); (try clear hk); (try clear hi)))
                        go_ret3
                        exact ⟨by first | rfl | (simp [errW_none, errW_some] <;> rfl) | (simp [*, errW_none, errW_some] <;> rfl), by repeat (first | (with_reducible first | exact HB.out | apply below_alloc | apply pw_below_drewN | apply below_drew1 | refine below_set ?_ (IsS120.ge HI117.out)) | exact HB.out)⟩
                      · replace c24 := Bool.eq_false_iff.mpr c24
                        subst c24
                        have H1 : (some ((⟨#[]⟩ : ByteArray), 0, 4)) = some (r1, r2, r3) := by rw [if_neg (show ¬ (false = true) by decide)] at H; exact H
                        clear H
                        have H := H1
                        clear H1
                        simp only [Option.some.injEq, Prod.mk.injEq] at H
                        obtain ⟨rfl, rfl, rfl⟩ := H
                        go_wp2_with (first | ((with_reducible refine gate_callee (f := 83) rfl ?_); refine goesL_ (some 44) rfl rfl Try.func83 (by kernel_rfl) rfl #[.pointer (some ⟨g117, 0, none⟩)] rfl (by (try simp only [List.map_toArray, List.map_cons, List.map_nil]); first | done | rfl | (simp only [List.length_drop, List.length_take]; rfl)) ?_; (with_reducible refine (pack_Reader_Left.calls g117 t122 t123 t124 t125 t126 w _ ?side1 ?side2 A19.out).mono ?_); (case side1 => repeat (first | (with_reducible first | exact HI117.out | apply IsS120.alloc | apply IsS120.drewN | apply IsS120.drew | apply IsS120.set_0 | apply IsS120.set_1) | exact HI117.out)); (case side2 => repeat (first | (with_reducible first | exact HB.out | apply below_alloc | apply pw_below_drewN | apply below_drew1 | refine below_set ?_ (IsS120.ge HI117.out)) | exact HB.out)); rintro e w30 ⟨rfl, hi, hb, hk⟩; refine ⟨_, rfl, ?_⟩; have n0_ := Aside0.mk (hb); have n1_ := Aside0.mk (hi); clear HB; clear HI117; have HB := n0_; have HI117 := n1_; clear n0_ n1_; (try clear hb); (try clear hb2); (try clear hk); (try clear hi)) | ((with_reducible refine gate_callee (f := 84) rfl ?_); refine goesL_ (some 50) rfl rfl Try.func84 (by kernel_rfl) rfl #[.pointer (some ⟨g117, 0, none⟩), .int .i64 (wrap64 (t118))] rfl (by (try simp only [List.map_toArray, List.map_cons, List.map_nil]); first | done | rfl | (simp only [List.length_drop, List.length_take]; rfl)) ?_; (with_reducible refine (pack_Reader_Take.calls g117 t125 t126 (wrap64 (t118)) t130 t131 t132 w _ ?side1 ?side2 A22.out).mono ?_); (case side1 => repeat (first | (with_reducible first | exact HI117.out | apply IsS120.alloc | apply IsS120.drewN | apply IsS120.drew | apply IsS120.set_0 | apply IsS120.set_1) | exact HI117.out)); (case side2 => repeat (first | (with_reducible first | exact HB.out | apply below_alloc | apply pw_below_drewN | apply below_drew1 | refine below_set ?_ (IsS120.ge HI117.out)) | exact HB.out)); rintro e w31 ⟨rfl, hi, hb, hk⟩; refine ⟨_, rfl, ?_⟩; have n0_ := Aside0.mk (hb); have n1_ := Aside0.mk (hi); clear HB; clear HI117; have HB := n0_; have HI117 := n1_; clear n0_ n1_; (try clear hb); (try clear hb2); (try clear hk); (try clear hi)) | ((with_reducible refine gate_callee (f := 29) rfl ?_); refine goesL_ (some 52) rfl rfl Try.func29 (by kernel_rfl) rfl #[.string t130] rfl (by (try simp only [List.map_toArray, List.map_cons, List.map_nil]); first | done | rfl | (simp only [List.length_drop, List.length_take]; rfl)) ?_; (with_reducible refine (word_Valid.calls t130 false _ A23.out).mono ?_); rintro e w32 ⟨rfl, hb⟩; refine ⟨_, rfl, ?_⟩; have n0_ := Aside0.mk (IsS120.below (by repeat (first | (with_reducible first | exact HI117.out | apply IsS120.alloc | apply IsS120.drewN | apply IsS120.drew | apply IsS120.set_0 | apply IsS120.set_1) | exact HI117.out)) hb); have n1_ := Aside0.mk (below_step (by repeat (first | (with_reducible first | exact HB.out | apply below_alloc | apply pw_below_drewN | apply below_drew1 | refine below_set ?_ (IsS120.ge HI117.out)) | exact HB.out)) hb); clear HI117; clear HB; have HI117 := n0_; have HB := n1_; clear n0_ n1_; (try clear hb); (try clear hb2); (try clear hk); (try clear hi)))
                        go_ret3
                        exact ⟨by first | rfl | (simp [errW_none, errW_some] <;> rfl) | (simp [*, errW_none, errW_some] <;> rfl), by repeat (first | (with_reducible first | exact HB.out | apply below_alloc | apply pw_below_drewN | apply below_drew1 | refine below_set ?_ (IsS120.ge HI117.out)) | exact HB.out)⟩
            · rw [if_neg c12] at H
              have c12b0 : (t121 == 0) = false := beq_eq_false_iff_ne.mpr c12
              have c12b1 : (t121 != 0) = true := bne_iff_ne.mpr c12
              replace H := Option.bind_eq_some_iff.mp H
              obtain ⟨⟨t127, t128, t129⟩, A330, H⟩ := H
              replace H : (some ((⟨#[]⟩ : ByteArray), 0, t127)) = some (r1, r2, r3) := H
              have A33 := Aside0.mk A330
              clear A330
              simp only [Option.some.injEq, Prod.mk.injEq] at H
              obtain ⟨rfl, rfl, rfl⟩ := H
              go_wp2_with (first | ((with_reducible refine gate_callee (f := 80) rfl ?_); refine goesL_ (some 23) rfl rfl Try.func80 (by kernel_rfl) rfl #[.string (a0.extract (a1 : Int).toNat a0.size)] rfl (by (try simp only [List.map_toArray, List.map_cons, List.map_nil]); first | done | rfl | (simp only [List.length_drop, List.length_take]; rfl)) ?_; (with_reducible refine (pack_New.calls (a0.extract (a1 : Int).toNat a0.size) t115 t116 w _ ?side1 A9.out).mono ?_); (case side1 => repeat (first | (with_reducible first | exact HB.out | apply below_alloc | apply pw_below_drewN | apply below_drew1) | exact HB.out)); rintro e w34 ⟨g117, rfl, hi, hb, hb2⟩; refine ⟨_, rfl, ?_⟩; have n0_ := Aside0.mk (hb); have n1_ := Aside0.mk (hi); clear HB; have HB := n0_; have HI117 := n1_; clear n0_ n1_; (try clear hb); (try clear hb2); (try clear hk); (try clear hi)) | ((with_reducible refine gate_callee (f := 81) rfl ?_); refine goesL_ (some 25) rfl rfl Try.func81 (by kernel_rfl) rfl #[.pointer (some ⟨g117, 0, none⟩)] rfl (by (try simp only [List.map_toArray, List.map_cons, List.map_nil]); first | done | rfl | (simp only [List.length_drop, List.length_take]; rfl)) ?_; (with_reducible refine (pack_Reader_Num.calls g117 t115 t116 t118 t119 t120 w _ ?side1 ?side2 A10.out).mono ?_); (case side1 => repeat (first | (with_reducible first | exact HI117.out | apply IsS120.alloc | apply IsS120.drewN | apply IsS120.drew | apply IsS120.set_0 | apply IsS120.set_1) | exact HI117.out)); (case side2 => repeat (first | (with_reducible first | exact HB.out | apply below_alloc | apply pw_below_drewN | apply below_drew1 | refine below_set ?_ (IsS120.ge HI117.out)) | exact HB.out)); rintro e w35 ⟨rfl, hi, hb, hk⟩; refine ⟨_, rfl, ?_⟩; have n0_ := Aside0.mk (hb); have n1_ := Aside0.mk (hi); clear HB; clear HI117; have HB := n0_; have HI117 := n1_; clear n0_ n1_; (try clear hb); (try clear hb2); (try clear hk); (try clear hi)) | ((with_reducible refine gate_callee (f := 82) rfl ?_); refine goesL_ (some 28) rfl rfl Try.func82 (by kernel_rfl) rfl #[.pointer (some ⟨g117, 0, none⟩)] rfl (by (try simp only [List.map_toArray, List.map_cons, List.map_nil]); first | done | rfl | (simp only [List.length_drop, List.length_take]; rfl)) ?_; (with_reducible refine (pack_Reader_Err.calls g117 t119 t120 t121 t122 t123 w _ ?side1 ?side2 A11.out).mono ?_); (case side1 => repeat (first | (with_reducible first | exact HI117.out | apply IsS120.alloc | apply IsS120.drewN | apply IsS120.drew | apply IsS120.set_0 | apply IsS120.set_1) | exact HI117.out)); (case side2 => repeat (first | (with_reducible first | exact HB.out | apply below_alloc | apply pw_below_drewN | apply below_drew1 | refine below_set ?_ (IsS120.ge HI117.out)) | exact HB.out)); rintro e w36 ⟨rfl, hi, hb, hk⟩; refine ⟨_, rfl, ?_⟩; have n0_ := Aside0.mk (hb); have n1_ := Aside0.mk (hi); clear HB; clear HI117; have HB := n0_; have HI117 := n1_; clear n0_ n1_; (try clear hb); (try clear hb2); (try clear hk); (try clear hi)) | ((with_reducible refine gate_callee (f := 82) rfl ?_); refine goesL_ (some 31) rfl rfl Try.func82 (by kernel_rfl) rfl #[.pointer (some ⟨g117, 0, none⟩)] rfl (by (try simp only [List.map_toArray, List.map_cons, List.map_nil]); first | done | rfl | (simp only [List.length_drop, List.length_take]; rfl)) ?_; (with_reducible refine (pack_Reader_Err.calls g117 t122 t123 t127 t128 t129 w _ ?side1 ?side2 A33.out).mono ?_); (case side1 => repeat (first | (with_reducible first | exact HI117.out | apply IsS120.alloc | apply IsS120.drewN | apply IsS120.drew | apply IsS120.set_0 | apply IsS120.set_1) | exact HI117.out)); (case side2 => repeat (first | (with_reducible first | exact HB.out | apply below_alloc | apply pw_below_drewN | apply below_drew1 | refine below_set ?_ (IsS120.ge HI117.out)) | exact HB.out)); rintro e w37 ⟨rfl, hi, hb, hk⟩; refine ⟨_, rfl, ?_⟩; have n0_ := Aside0.mk (hb); have n1_ := Aside0.mk (hi); clear HB; clear HI117; have HB := n0_; have HI117 := n1_; clear n0_ n1_; (try clear hb); (try clear hb2); (try clear hk); (try clear hi)))
              go_ret3
              exact ⟨by first | rfl | (simp [errW_none, errW_some] <;> rfl) | (simp [*, errW_none, errW_some] <;> rfl), by repeat (first | (with_reducible first | exact HB.out | apply below_alloc | apply pw_below_drewN | apply below_drew1 | refine below_set ?_ (IsS120.ge HI117.out)) | exact HB.out)⟩
          · rw [if_neg c8] at H
            exact absurd H (by simp)
        · rw [if_neg c7] at H
          exact absurd H (by simp)

end Go.Proofs.Ytbgjoiccehiglaa.Print
