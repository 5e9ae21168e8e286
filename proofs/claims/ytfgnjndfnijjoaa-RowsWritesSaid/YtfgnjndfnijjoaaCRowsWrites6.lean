/- Part 6 of what RowsWrites stands on: merged by a program of this session out of its texts. -/
import Derived.Test.YtfgnjndfnijjoaaCRowsWrites5
section
namespace Go.Proofs.Ytfgnjndfnijjoaa.RowsC
set_option linter.unusedSimpArgs false
set_option linter.unusedVariables false
open Go.RowKit Go.Proofs.Ytfgnjndfnijjoaa.Print Go.Proofs.YtfgnjndfnijjoaaW.PrintWords Go.Proofs.YtfgnjndfnijjoaaW.PrintLast Go.Proofs.YtfgnjndfnijjoaaW.PrintMore Go.Proofs.Ytfgnjndfnijjoaa.LibA Go.Proofs.Ytfgnjndfnijjoaa.LibB Go.Proofs.Ytfgnjndfnijjoaa.LibC Go.Proofs.Ytfgnjndfnijjoaa.LibD Go.Proofs.Ytfgnjndfnijjoaa.LibE Go.Proofs.Ytfgnjndfnijjoaa.LibF Go.Proofs.Ytfgnjndfnijjoaa.LibG Go.Proofs.Ytfgnjndfnijjoaa.RowsA Go.Proofs.Ytfgnjndfnijjoaa.RowsB
theorem u64_range (n : Int) : 0 ≤ IntKind.u64.wrap n ∧ IntKind.u64.wrap n < 18446744073709551616 := by
  have : IntKind.u64.wrap n = n % 18446744073709551616 := by simp [IntKind.wrap, IntKind.bits, IntKind.signed]
  omega
def headB (m : Mv) : ByteArray := ((putB (IntKind.u64.wrap m.f0.f0) ++ putB (IntKind.u64.wrap m.f0.f1)) ++ putB (IntKind.u64.wrap m.f1)) ++ putB (IntKind.u64.wrap m.f2)
def oneB (m : Mv) : ByteArray := (headB m ++ (putB m.f3.size ++ m.f3)) ++ fixB m.f4
theorem headB_size (m : Mv) : 4 ≤ (headB m).size ∧ (headB m).size ≤ 40 := by
  have h0 := putB_size (IntKind.u64.wrap m.f0.f0)
  have h1 := putB_size (IntKind.u64.wrap m.f0.f1)
  have h2 := putB_size (IntKind.u64.wrap m.f1)
  have h3 := putB_size (IntKind.u64.wrap m.f2)
  unfold headB
  simp only [ByteArray.size_append]
  omega
theorem oneB_size (m : Mv) : (oneB m).size = (headB m).size + ((putB m.f3.size).size + m.f3.size) + 8 := by
  unfold oneB
  simp only [ByteArray.size_append, fixB_size]
theorem FB_range {b : Nat} {x : Int} (h : FB b x) : 0 ≤ x ∧ x < 18446744073709551616 := by
  have h1 := h.lt
  have h2 := h.eq
  unfold canonF at h2
  split at h2 <;> omega
theorem wordPut_is (s : ByteArray) (hs : s.size ≤ 140737488351232) : Ev (fun k => word_Put.f k s) (putB s.size ++ s) ∧ Ev (fun k => bonsairef04_Put.f k s) (putB s.size ++ s) :=
  ⟨Ev.all 10 fun k hk => (wordPut s hs k hk).1, Ev.all 10 fun k hk => by rw [(wordPut s hs k hk).2]; exact (wordPut s hs k hk).1⟩
theorem empty_app (a : ByteArray) : ByteArray.empty ++ a = a := by simp
theorem rowsOne_is (m : Mv) (hm : Sane m) (hn : m.f3.size ≤ 1000000) : Ev (fun k => rows_One.f k m.f0.f0 m.f0.f1 m.f1 m.f2 m.f3 m.f4) (oneB m) ∧ Ev (fun k => bonsairef21_One.f k m.f0.f0 m.f0.f1 m.f1 m.f2 m.f3 m.f4) (oneB m) := by
  obtain ⟨hs, _, _, _, _, b, hb⟩ := hm
  have hr := FB_range hb
  have r0 := u64_range m.f0.f0
  have r1 := u64_range m.f0.f1
  have r2 := u64_range m.f1
  have r3 := u64_range m.f2
  have z0 := putB_size (IntKind.u64.wrap m.f0.f0)
  have z1 := putB_size (IntKind.u64.wrap m.f0.f1)
  have z2 := putB_size (IntKind.u64.wrap m.f1)
  have z3 := putB_size (IntKind.u64.wrap m.f2)
  have z4 := putB_size (m.f3.size : Int)
  constructor
  · unfold rows_One.f
    refine Ev.bind (a := headB m) ?_ ?_
    · unfold rows_One.g
      refine Ev.bind (put_is _ r0.1 r0.2) ?_
      simp only [if_pos (show ByteArray.empty.size + (putB (IntKind.u64.wrap m.f0.f0)).size ≤ 140737488355328 by rw [show ByteArray.empty.size = 0 from rfl]; omega), empty_app]
      unfold rows_One.g
      refine Ev.bind (put_is _ r1.1 r1.2) ?_
      simp only [if_pos (show (putB (IntKind.u64.wrap m.f0.f0)).size + (putB (IntKind.u64.wrap m.f0.f1)).size ≤ 140737488355328 by omega)]
      unfold rows_One.g
      refine Ev.bind (put_is _ r2.1 r2.2) ?_
      simp only [if_pos (show (putB (IntKind.u64.wrap m.f0.f0) ++ putB (IntKind.u64.wrap m.f0.f1)).size + (putB (IntKind.u64.wrap m.f1)).size ≤ 140737488355328 by rw [ByteArray.size_append]; omega)]
      unfold rows_One.g
      refine Ev.bind (put_is _ r3.1 r3.2) ?_
      simp only [if_pos (show ((putB (IntKind.u64.wrap m.f0.f0) ++ putB (IntKind.u64.wrap m.f0.f1)) ++ putB (IntKind.u64.wrap m.f1)).size + (putB (IntKind.u64.wrap m.f2)).size ≤ 140737488355328 by simp only [ByteArray.size_append]; omega)]
      unfold rows_One.g
      exact Ev.now _
    · refine Ev.bind (wordPut_is m.f3 hs).1 ?_
      have hh := headB_size m
      simp only [if_pos (show (headB m).size + (putB m.f3.size ++ m.f3).size ≤ 140737488355328 by rw [ByteArray.size_append]; omega)]
      refine Ev.bind (fixed_is m.f4) ?_
      simp only [if_pos (show (headB m ++ (putB m.f3.size ++ m.f3)).size + (fixB m.f4).size ≤ 140737488355328 by simp only [ByteArray.size_append, fixB_size]; omega)]
      exact Ev.now _
  · unfold bonsairef21_One.f
    refine Ev.bind (refPut_is _ r0.1 r0.2) ?_
    refine Ev.bind (refPut_is _ r1.1 r1.2) ?_
    simp only [if_pos (show (putB (IntKind.u64.wrap m.f0.f0)).size + (putB (IntKind.u64.wrap m.f0.f1)).size ≤ 9223372036854775807 by omega)]
    refine Ev.bind (refPut_is _ r2.1 r2.2) ?_
    simp only [if_pos (show (putB (IntKind.u64.wrap m.f0.f0) ++ putB (IntKind.u64.wrap m.f0.f1)).size + (putB (IntKind.u64.wrap m.f1)).size ≤ 9223372036854775807 by rw [ByteArray.size_append]; omega)]
    refine Ev.bind (refPut_is _ r3.1 r3.2) ?_
    simp only [if_pos (show ((putB (IntKind.u64.wrap m.f0.f0) ++ putB (IntKind.u64.wrap m.f0.f1)) ++ putB (IntKind.u64.wrap m.f1)).size + (putB (IntKind.u64.wrap m.f2)).size ≤ 9223372036854775807 by simp only [ByteArray.size_append]; omega)]
    refine Ev.bind (wordPut_is m.f3 hs).2 ?_
    simp only [if_pos (show ((((putB (IntKind.u64.wrap m.f0.f0) ++ putB (IntKind.u64.wrap m.f0.f1)) ++ putB (IntKind.u64.wrap m.f1)) ++ putB (IntKind.u64.wrap m.f2))).size + (putB m.f3.size ++ m.f3).size ≤ 9223372036854775807 by simp only [ByteArray.size_append]; omega), bonsairef01_Bits.f, Option.bind_some]
    refine Ev.bind (refFixed_is m.f4 hr.1 hr.2) ?_
    simp only [if_pos (show ((((((putB (IntKind.u64.wrap m.f0.f0) ++ putB (IntKind.u64.wrap m.f0.f1)) ++ putB (IntKind.u64.wrap m.f1)) ++ putB (IntKind.u64.wrap m.f2))) ++ (putB m.f3.size ++ m.f3))).size + (fixB m.f4).size ≤ 9223372036854775807 by simp only [ByteArray.size_append, fixB_size]; omega)]
    exact Ev.now _
def flat : List Mv → ByteArray
  | [] => ByteArray.empty
  | m :: l => oneB m ++ flat l
def beginB : ByteArray := ⟨#[66, 78, 83, 73, 1]⟩
theorem beginB_size : beginB.size = 5 := rfl
def fileB (l : List Mv) : ByteArray := (beginB ++ putB l.length) ++ flat l
theorem encG (l : List Mv) (hs : ∀ m ∈ l, Sane m) (hn : ∀ m ∈ l, m.f3.size ≤ 100) : ∀ (acc : ByteArray), acc.size + 200 * l.length ≤ 140737488355328 → Ev (fun k => rows_Encode.g k l acc) (some (acc ++ flat l)).get! := by
  induction l with
  | nil =>
    intro acc h
    unfold rows_Encode.g
    simp only [flat]
    rw [show acc ++ ByteArray.empty = acc by simp]
    exact Ev.now _
  | cons m l ih =>
    intro acc h
    have h1 := hn m List.mem_cons_self
    have h3 := headB_size m
    have h4 := putB_size (m.f3.size : Int)
    have h5 := oneB_size m
    simp only [List.length_cons] at h
    unfold rows_Encode.g
    refine Ev.bind (rowsOne_is m (hs m List.mem_cons_self) (by omega)).1 ?_
    simp only [if_pos (show acc.size + (oneB m).size ≤ 140737488355328 by omega)]
    have := ih (fun x hx => hs x (List.mem_cons_of_mem _ hx)) (fun x hx => hn x (List.mem_cons_of_mem _ hx)) (acc ++ oneB m) (by rw [ByteArray.size_append]; omega)
    simp only [flat]
    rw [← ByteArray.append_assoc]
    exact this
theorem may_names {l : List Mv} (h : MayP l) : ∀ m ∈ l, m.f3.size ≤ 100 := fun m hm => by have := (h.one m hm).nm; omega
theorem encode_is (l : List Mv) (hl : l.length ≤ 9223372036854775807) (hs : ∀ m ∈ l, Sane m) : Ev (fun k => rows_Encode.f k l) (if MayP l then (fileB l, 0) else (ByteArray.empty, 1)) := by
  unfold rows_Encode.f
  refine Ev.bind (may_is l hl) ?_
  by_cases h : MayP l
  · simp only [if_pos h, decide_eq_true h, if_true]
    have hf := h.few
    have hp := putB_size (l.length : Int)
    refine Ev.bind (put_is _ (by omega) (by omega)) ?_
    simp only [if_pos (show rows_Encode.b.size + (putB l.length).size ≤ 140737488355328 by rw [show rows_Encode.b.size = 5 from rfl]; omega)]
    exact Ev.bind (encG l hs (may_names h) (beginB ++ putB l.length) (by rw [ByteArray.size_append, beginB_size]; omega)) (Ev.now _)
  · simp only [if_neg h, decide_eq_false h, Bool.false_eq_true, if_false]
    exact Ev.now _
theorem refEncL (l : List Mv) (hs : ∀ m ∈ l, Sane m) (hn : ∀ m ∈ l, m.f3.size ≤ 100) (hl : l.length ≤ 2000) (d : Nat) : ∀ (i : Nat) (acc : ByteArray), i + d = l.length → acc.size ≤ 1000 + 200 * i → Ev (fun k => bonsairef21_Encode.l0 k l acc i) (acc ++ flat (l.drop i), 0) := by
  induction d with
  | zero =>
    intro i acc h ha
    refine Ev.succ ?_
    rw [List.drop_of_length_le (by omega)]
    simp only [bonsairef21_Encode.l0, if_neg (show ¬ (i : Int) < (l.length : Int) by omega), flat]
    rw [show acc ++ ByteArray.empty = acc by simp]
    exact Ev.now _
  | succ d ih =>
    intro i acc h ha
    have hlt : i < l.length := by omega
    have hm : rdM l i ∈ l := by rw [rd_mem hlt]; exact List.getElem_mem hlt
    have h1 := hn _ hm
    have h3 := headB_size (rdM l i)
    have h4 := putB_size ((rdM l i).f3.size : Int)
    have h5 := oneB_size (rdM l i)
    refine Ev.succ ?_
    simp only [bonsairef21_Encode.l0, if_pos (show (i : Int) < (l.length : Int) by omega), if_pos (show (0 : Int) ≤ (i : Int) by omega)]
    refine Ev.bind (rowsOne_is (rdM l i) (hs _ hm) (by omega)).2 ?_
    simp only [if_pos (show acc.size + (oneB (rdM l i)).size ≤ 9223372036854775807 by omega), w64 (show -9223372036854775808 ≤ (i : Int) + 1 by omega) (by omega)]
    have := ih (i + 1) (acc ++ oneB (rdM l i)) (by omega) (by rw [ByteArray.size_append]; omega)
    rw [List.drop_eq_getElem_cons hlt, ← rd_mem hlt]
    simp only [flat]
    rw [← ByteArray.append_assoc]
    exact this
theorem refEncode_is (l : List Mv) (hs : ∀ m ∈ l, Sane m) : Ev (fun k => bonsairef21_Encode.f k l) (if MayP l then (fileB l, 0) else (ByteArray.empty, 1)) := by
  unfold bonsairef21_Encode.f
  refine Ev.bind (refMay_is l) ?_
  by_cases h : MayP l
  · simp only [if_pos h, decide_eq_true h, if_true]
    have hf := h.few
    have hp := putB_size (l.length : Int)
    rw [pack_wraps_u64 _ (by omega) (by omega)]
    refine Ev.bind (refPut_is _ (by omega) (by omega)) ?_
    simp only [if_pos (show 5 + (putB l.length).size ≤ 9223372036854775807 by omega)]
    have := refEncL l hs (may_names h) hf l.length 0 (beginB ++ putB l.length) (by omega) (by rw [ByteArray.size_append, beginB_size]; omega)
    rw [List.drop_zero] at this
    exact this
  · simp only [if_neg h, decide_eq_false h, Bool.false_eq_true, if_false]
    exact Ev.now _
end Go.Proofs.Ytfgnjndfnijjoaa.RowsC
end
section
namespace Go.Proofs.Ytfgnjndfnijjoaa.RowsL
set_option linter.unusedSimpArgs false
set_option linter.unusedVariables false
open Go.RowKit Go.Proofs.Ytfgnjndfnijjoaa.Print Go.Proofs.YtfgnjndfnijjoaaW.PrintWords Go.Proofs.YtfgnjndfnijjoaaW.PrintLast Go.Proofs.YtfgnjndfnijjoaaW.PrintMore Go.Proofs.Ytfgnjndfnijjoaa.LibA Go.Proofs.Ytfgnjndfnijjoaa.LibB Go.Proofs.Ytfgnjndfnijjoaa.LibC Go.Proofs.Ytfgnjndfnijjoaa.LibD Go.Proofs.Ytfgnjndfnijjoaa.LibE Go.Proofs.Ytfgnjndfnijjoaa.LibF Go.Proofs.Ytfgnjndfnijjoaa.LibG Go.Proofs.Ytfgnjndfnijjoaa.RowsA Go.Proofs.Ytfgnjndfnijjoaa.RowsB Go.Proofs.Ytfgnjndfnijjoaa.RowsC
theorem live21 : bonsailaw21_live.f 60 = some true := by decide +kernel
theorem live_ev : Ev (fun k => bonsailaw21_live.f k) true := Ev.of bonsailaw21_live.mono live21
def QM (x : Mv) : Prop := ((((Lit.int .i64 x.f0.f0).wf = true) ∧ ((Lit.int .i64 x.f0.f1).wf = true)) ∧ ((Lit.int .i64 x.f1).wf = true) ∧ ((Lit.int .i64 x.f2).wf = true) ∧ (x.f3.size ≤ maxLen) ∧ (∃ b, FB b x.f4))
theorem wf_i64 {n : Int} (h : (Lit.int .i64 n).wf = true) : -9223372036854775808 ≤ n ∧ n ≤ 9223372036854775807 := by
  simp [Lit.wf, IntKind.min, IntKind.max, IntKind.bits, IntKind.signed] at h
  omega
theorem sane_of {x : Mv} (h : QM x) (hn : x.f3.size ≤ 100) : Sane x := ⟨by omega, wf_i64 h.1.1, wf_i64 h.1.2, wf_i64 h.2.1, wf_i64 h.2.2.1, h.2.2.2.2⟩
theorem writesL (l : List Mv) (hs : ∀ m ∈ l, Sane m) (hn : ∀ m ∈ l, m.f3.size ≤ 100) (hl : l.length ≤ 9223372036854775807) (d : Nat) : ∀ i : Nat, l.length ≤ i + d → Ev (fun k => bonsailaw21_RowsWrites.l0 k l i) true := by
  induction d with
  | zero =>
    intro i h
    refine Ev.succ ?_
    simp only [bonsailaw21_RowsWrites.l0, if_neg (show ¬ (i : Int) < (l.length : Int) by omega)]
    refine Ev.bind (encode_is l hl hs) ?_
    refine Ev.bind (refEncode_is l hs) ?_
    simp only [if_true]
    exact Ev.bind live_ev (Ev.now _)
  | succ d ih =>
    intro i h
    by_cases hlt : i < l.length
    rotate_left
    · exact ih i (by omega)
    have hm : rdM l i ∈ l := by rw [rd_mem hlt]; exact List.getElem_mem hlt
    have h1 := hn _ hm
    refine Ev.succ ?_
    simp only [bonsailaw21_RowsWrites.l0, if_pos (show (i : Int) < (l.length : Int) by omega), if_pos (show (0 : Int) ≤ (i : Int) by omega)]
    refine Ev.bind (rowsOne_is (rdM l i) (hs _ hm) (by omega)).1 ?_
    refine Ev.bind (rowsOne_is (rdM l i) (hs _ hm) (by omega)).2 ?_
    simp only [if_true, w64 (show -9223372036854775808 ≤ (i : Int) + 1 by omega) (by omega)]
    exact ih (i + 1) (by omega)
theorem rowsWrites (l : List Mv) (hl : l.length ≤ 9223372036854775807) (hq : ∀ m ∈ l, QM m) : ∃ k, bonsailaw21_RowsWrites.f k l = some true := by
  refine Ev.rounds (g := fun k => bonsailaw21_RowsWrites.f k l) ?_
  unfold bonsailaw21_RowsWrites.f
  obtain ⟨b, hb, hb2⟩ := few_is l 60 hl
  refine Ev.bind hb ?_
  cases b with
  | false => simp only [Bool.false_eq_true, if_false]; exact Ev.bind live_ev (Ev.now _)
  | true =>
    obtain ⟨h1, h2⟩ := hb2 rfl
    simp only [if_true]
    exact writesL l (fun m hm => sane_of (hq m hm) (h2 m hm)) h2 hl l.length 0 (by omega)
end Go.Proofs.Ytfgnjndfnijjoaa.RowsL
end
section
namespace Go.Proofs.Ytfgnjndfnijjoaa.Pure
open Go.RowKit Go.Proofs.Ytfgnjndfnijjoaa.Print Go.Proofs.YtfgnjndfnijjoaaW.PrintWords Go.Proofs.YtfgnjndfnijjoaaW.PrintLast Go.Proofs.YtfgnjndfnijjoaaW.PrintMore Go.Proofs.Ytfgnjndfnijjoaa.RowsA Go.Proofs.Ytfgnjndfnijjoaa.RowsL
theorem RowsWrites : ∀ (l0 : List Print.S30), l0.length ≤ maxLen → (∀ x ∈ l0, (((Lit.int .i64 x.f0.f0).wf = true ∧ (Lit.int .i64 x.f0.f1).wf = true) ∧ (Lit.int .i64 x.f1).wf = true ∧ (Lit.int .i64 x.f2).wf = true ∧ x.f3.size ≤ maxLen ∧ (∃ b, FB b x.f4))) → ∃ k, bonsailaw21_RowsWrites.f k l0 = some true :=
  fun l0 hl hq => rowsWrites l0 hl (fun m hm => hq m hm)
end Go.Proofs.Ytfgnjndfnijjoaa.Pure
end
