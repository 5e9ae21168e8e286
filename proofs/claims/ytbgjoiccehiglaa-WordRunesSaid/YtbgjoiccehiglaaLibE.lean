/- word.Take, the program's and the reference's. -/
import Derived.Test.YtbgjoiccehiglaaLibD
import Derived.Test.YtbgjoiccehiglaaPrint8
namespace Go.Proofs.Ytbgjoiccehiglaa.LibE
open Go.RowKit Go.Proofs.Ytbgjoiccehiglaa.Print Go.Proofs.YtbgjoiccehiglaaW.PrintWords Go.Proofs.YtbgjoiccehiglaaW.PrintLast Go.Proofs.YtbgjoiccehiglaaW.PrintMore Go.Proofs.Ytbgjoiccehiglaa.LibA Go.Proofs.Ytbgjoiccehiglaa.LibB Go.Proofs.Ytbgjoiccehiglaa.LibC Go.Proofs.Ytbgjoiccehiglaa.LibD

def noText : ByteArray := ⟨#[]⟩
theorem refValid (s : ByteArray) (hs : s.size ≤ 140737488351232) (k : Nat) (hk : s.size + 1 ≤ k) : bonsairef04_Valid.f k s = some (decide (Vld s)) := by
  obtain ⟨c, j, t⟩ := tells s hs
  have hc : c ≤ s.size := by have := t.few; have := t.hi; omega
  have := t.refValid hs (k - (c + 1))
  rw [show c + 1 + (k - (c + 1)) = k by omega, t.wordValid] at this
  exact this
/-- What is taken: the text, the place behind it, the error. -/
theorem take_both (s : ByteArray) (hs : s.size ≤ 140737488351232) (a most : Int) (hm0 : -9223372036854775808 ≤ most) (hm1 : most ≤ 9223372036854775807) :
    ∃ (t : ByteArray) (b e : Int), (∀ k, s.size + 60 ≤ k → word_Take.f k s a most = some (t, b, e) ∧ bonsairef04_Take.f k s a most = some (t, b, e)) ∧
      (e ≠ 0 → t = noText ∧ b = 0) ∧
      (e = 0 → 0 ≤ a ∧ ∃ v n : Int, Vld t ∧ 0 ≤ n ∧ n ≤ most ∧ (t.size : Int) = n ∧ a < b - n ∧ b ≤ s.size ∧ t = s.extract (b - n).toNat b.toNat ∧ pack_Reader_Num.f (s.extract a.toNat s.size) 0 = some (n, s.extract v.toNat s.size, 0) ∧ v = b - n) := by
  by_cases ha : a < 0 ∨ (s.size : Int) < a
  · refine ⟨noText, 0, 1, fun k hk => ?_, fun _ => ⟨rfl, rfl⟩, fun h => absurd h (by decide)⟩
    obtain ⟨k, rfl⟩ : ∃ m, k = m + 1 := ⟨k - 1, by omega⟩
    unfold word_Take.f bonsairef04_Take.f
    by_cases h : a < 0
    · rw [if_pos h, if_pos h]
      simp only [word_Take.j0, bonsairef04_Take.j0, if_true]
      exact ⟨rfl, rfl⟩
    · rw [if_neg h, if_neg h, decide_eq_true (show a > (s.size : Int) by omega)]
      simp only [word_Take.j0, bonsairef04_Take.j0, if_true]
      exact ⟨rfl, rfl⟩
  have hS := Sim.begin s hs a (by omega) (by omega)
  obtain ⟨v, r', e', a', hp, hr, hS', hv0, hv1, _, he2, he3, he4⟩ := hS.num 0
  have hfin : ∀ k, 2 ≤ k → ∃ m, k = m + 2 := fun k hk => ⟨k - 2, by omega⟩
  have start : ∀ k, word_Take.f (k + 2) s a most = word_Take.j0 (k + 2) s a most false ∧ bonsairef04_Take.f (k + 2) s a most = bonsairef04_Take.j0 (k + 2) s a most false := fun k => by
    unfold word_Take.f bonsairef04_Take.f
    rw [if_neg (by omega), if_neg (by omega), decide_eq_false (show ¬ a > (s.size : Int) by omega)]
    exact ⟨rfl, rfl⟩
  by_cases he : e' = 0
  · subst he
    have hsz' := hS'.size
    have hlo' := hS'.lo
    have hr's : r'.size ≤ s.size := by omega
    by_cases hbig : most < 0 ∨ v > IntKind.u64.wrap most
    · refine ⟨noText, 0, 10, fun k hk => ?_, fun _ => ⟨rfl, rfl⟩, fun h => absurd h (by decide)⟩
      obtain ⟨k, rfl⟩ := hfin k (by omega)
      rw [(start k).1, (start k).2]
      simp only [word_Take.j0, bonsairef04_Take.j0, word_Take.j1, bonsairef04_Take.j1, Bool.false_eq_true, if_false, pack_New.f, Option.bind_some]
      rw [if_pos (by omega), if_pos (by omega), hp, hr (k + 1) (by omega)]
      simp only [Option.bind_some, pack_Reader_Err.f, if_true]
      by_cases hm : most < 0
      · rw [if_pos hm, if_pos hm]; exact ⟨rfl, rfl⟩
      · rw [if_neg hm, if_neg hm, decide_eq_true (show v > IntKind.u64.wrap most by omega)]; simp only [if_true]; exact ⟨rfl, rfl⟩
    · have hw : IntKind.u64.wrap most = most := pack_wraps_u64 most (by omega) (by omega)
      have hl := hS'.left 0
      have hwl : IntKind.u64.wrap (r'.size : Int) = r'.size := pack_wraps_u64 _ (by omega) (by omega)
      have go : ∀ k, word_Take.f (k + 2) s a most = word_Take.j1 (k + 1) s v false r' 0 ∧ (30 ≤ k → bonsairef04_Take.f (k + 2) s a most = bonsairef04_Take.j1 (k + 1) v false s a' 0) := fun k => by
        rw [(start k).1, (start k).2]
        simp only [word_Take.j0, bonsairef04_Take.j0, Bool.false_eq_true, if_false, pack_New.f, Option.bind_some]
        rw [if_pos (by omega), if_pos (by omega), hp]
        simp only [Option.bind_some, pack_Reader_Err.f, if_true]
        rw [if_neg (show ¬ most < 0 by omega), decide_eq_false (show ¬ v > IntKind.u64.wrap most by omega)]
        refine ⟨rfl, fun h => ?_⟩
        rw [hr (k + 1) (by omega)]
        simp only [Option.bind_some, if_true]
        rw [if_neg (show ¬ most < 0 by omega), decide_eq_false (show ¬ v > IntKind.u64.wrap most by omega)]
      by_cases hcut : v > (r'.size : Int)
      · refine ⟨noText, 0, 2, fun k hk => ?_, fun _ => ⟨rfl, rfl⟩, fun h => absurd h (by decide)⟩
        obtain ⟨k, rfl⟩ := hfin k (by omega)
        rw [(go k).1, (go k).2 (by omega)]
        simp only [word_Take.j1, bonsairef04_Take.j1, Bool.false_eq_true, if_false]
        rw [hl.1, hl.2]
        simp only [Option.bind_some]
        rw [hwl, if_pos hcut, if_pos hcut]
        exact ⟨rfl, rfl⟩
      · obtain ⟨t1, t2⟩ := hS'.take v hv0 (by omega)
        have hS2 := hS'.go v hv0 (by omega)
        have hl2 := hS2.left 0
        have hts : (r'.extract 0 v.toNat).size = v.toNat := size_take (by omega)
        have hvs : v.toNat ≤ s.size := by omega
        have hwv : word_Valid.f (r'.extract 0 v.toNat) = some (decide (Vld (r'.extract 0 v.toNat))) := wordValid _ (by omega)
        have hrv : ∀ k, s.size + 1 ≤ k → bonsairef04_Valid.f k (r'.extract 0 v.toNat) = some (decide (Vld (r'.extract 0 v.toNat))) := fun k hk => refValid _ (by omega) k (by omega)
        have go2 : ∀ k, s.size + 30 ≤ k → word_Take.f (k + 2) s a most = (if Vld (r'.extract 0 v.toNat) then some (r'.extract 0 v.toNat, a' + v, 0) else some (noText, 0, 4)) ∧ bonsairef04_Take.f (k + 2) s a most = (if Vld (r'.extract 0 v.toNat) then some (r'.extract 0 v.toNat, a' + v, 0) else some (noText, 0, 4)) := fun k hk => by
          rw [(go k).1, (go k).2 (by omega)]
          simp only [word_Take.j1, bonsairef04_Take.j1, Bool.false_eq_true, if_false]
          rw [hl.1, hl.2]
          simp only [Option.bind_some]
          rw [hwl, if_neg hcut, if_neg hcut, w64 (n := v) (by omega) (by omega), t1, t2 k (by omega)]
          simp only [Option.bind_some]
          rw [hwv, hrv k (by omega)]
          simp only [Option.bind_some, decide_eq_true_eq]
          rw [hl2.1]
          simp only [Option.bind_some]
          have := hS2.size
          rw [w64 (n := (s.size : Int) - _) (by omega) (by omega), show (s.size : Int) - ((r'.extract v.toNat r'.size).size : Int) = a' + v by omega]
          exact ⟨rfl, rfl⟩
        by_cases hV : Vld (r'.extract 0 v.toNat)
        · refine ⟨r'.extract 0 v.toNat, a' + v, 0, fun k hk => ?_, fun h => absurd rfl h, fun _ => ⟨by omega, a', v, hV, hv0, by omega, by rw [hts]; omega, by have := he3 rfl; omega, by omega, ?_, ?_, by omega⟩⟩
          · obtain ⟨k, rfl⟩ := hfin k (by omega)
            have := go2 k (by omega)
            rw [if_pos hV] at this
            exact this
          · conv => lhs; rw [hS'.rest]
            rw [ByteArray.extract_extract]
            congr 1
            · omega
            · omega
          · rw [hp, hS'.rest]
        · refine ⟨noText, 0, 4, fun k hk => ?_, fun _ => ⟨rfl, rfl⟩, fun h => absurd h (by decide)⟩
          obtain ⟨k, rfl⟩ := hfin k (by omega)
          have := go2 k (by omega)
          rw [if_neg hV] at this
          exact this
  · refine ⟨noText, 0, e', fun k hk => ?_, fun _ => ⟨rfl, rfl⟩, fun h => absurd h he⟩
    obtain ⟨k, rfl⟩ := hfin k (by omega)
    rw [(start k).1, (start k).2]
    simp only [word_Take.j0, bonsairef04_Take.j0, Bool.false_eq_true, if_false, pack_New.f, Option.bind_some]
    rw [if_pos (by omega), if_pos (by omega), hp, hr (k + 1) (by omega)]
    simp only [Option.bind_some, pack_Reader_Err.f]
    rw [if_neg he, if_neg he]
    exact ⟨rfl, rfl⟩
end Go.Proofs.Ytbgjoiccehiglaa.LibE
