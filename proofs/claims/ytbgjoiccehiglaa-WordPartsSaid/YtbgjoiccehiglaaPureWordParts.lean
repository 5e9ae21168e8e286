/- Of any two texts of at most 300 bytes and any most: ahead of where the one is wrong it is valid; if it is valid, the two are just if the other one is; and it is cut as far as a valid begin goes. -/
import Derived.Test.YtbgjoiccehiglaaLibC
import Derived.Test.YtbgjoiccehiglaaLibF
import Derived.Test.YtbgjoiccehiglaaPrint9
namespace Go.Proofs.Ytbgjoiccehiglaa.Pure
open Go.RowKit Go.Proofs.Ytbgjoiccehiglaa.Print Go.Proofs.YtbgjoiccehiglaaW.PrintWords Go.Proofs.YtbgjoiccehiglaaW.PrintLast Go.Proofs.YtbgjoiccehiglaaW.PrintMore Go.Proofs.Ytbgjoiccehiglaa.LibA Go.Proofs.Ytbgjoiccehiglaa.LibB Go.Proofs.Ytbgjoiccehiglaa.LibC Go.Proofs.Ytbgjoiccehiglaa.LibF

theorem live04_at {k : Nat} (hk : 40 ≤ k) : bonsailaw04_live.f k = some true := at_rounds (g := bonsailaw04_live.f) (fun k => bonsailaw04_live.mono k) hk live04
/-- No longer begin, from n on, is valid. -/
theorem parts_l {s : ByteArray} (hs : s.size ≤ 300) (most : Int) : ∀ (d n k : Nat), n + d = s.size + 1 → 1 ≤ n → (∀ e : Nat, n ≤ e → e ≤ s.size → (e : Int) ≤ most → ¬ Vld (s.extract 0 e)) → 2 * d + 45 ≤ k → bonsailaw04_WordParts.l0 k s most (n : Int) = some true
  | d, n, k, hd, h1, hv, hk => by
    obtain ⟨k, rfl⟩ : ∃ m, k = m + 2 := ⟨k - 2, by omega⟩
    simp only [bonsailaw04_WordParts.l0, bonsailaw04_WordParts.j5]
    by_cases hn : (n : Int) ≤ s.size
    · rw [if_pos hn]
      by_cases hm : (n : Int) ≤ most
      · rw [decide_eq_true hm]
        simp only [if_true]
        rw [if_pos (by omega), if_pos hn, Int.toNat_natCast, wordValid _ (by rw [size_take (by omega)]; omega)]
        simp only [Option.bind_some, decide_eq_true_eq]
        rw [if_neg (hv n (by omega) (by omega) hm), w64 (by omega) (by omega)]
        cases d with
        | zero => omega
        | succ d => exact parts_l hs most d (n + 1) k (by omega) (by omega) (fun e h => hv e (by omega)) (by omega)
      · rw [decide_eq_false hm]
        simp only [Bool.false_eq_true, if_false, live04_at (show 40 ≤ k by omega), Option.bind_some]
    · rw [if_neg hn]
      simp only [Bool.false_eq_true, if_false, live04_at (show 40 ≤ k by omega), Option.bind_some]
theorem parts_j2 {s : ByteArray} (hs : s.size ≤ 300) (most : Int) (k : Nat) (hk : 700 ≤ k) : bonsailaw04_WordParts.j2 k s most false = some true := by
  obtain ⟨k, rfl⟩ : ∃ m, k = m + 2 := ⟨k - 2, by omega⟩
  obtain ⟨n, e, hn, hns, hen, hf, hv, hmax⟩ := wordCut (s := s) (by omega) most
  have hes : (s.extract 0 e).size = e := size_take (by omega)
  have hem : (e : Int) ≤ mx most 0 := by
    have : (n : Int) = mn (mx most 0) s.size := by rw [hn]; unfold mn mx; (repeat' split) <;> omega
    have h2 : mn (mx most 0) (s.size : Int) ≤ mx most 0 := by unfold mn; split <;> omega
    omega
  simp only [bonsailaw04_WordParts.j2, bonsailaw04_WordParts.j3, Bool.false_eq_true, if_false]
  rw [hf]
  simp only [Option.bind_some]
  rw [hes, if_neg (by omega), if_neg (by omega), if_pos (by omega), if_pos (by omega), if_pos rfl, wordValid _ (by rw [hes]; omega)]
  simp only [Option.bind_some, hv, decide_true, Bool.not_true, Bool.false_eq_true, if_false]
  rw [w64 (by omega) (by omega), show (e : Int) + 1 = ((e + 1 : Nat) : Int) by omega]
  refine parts_l hs most (s.size - e) (e + 1) k (by omega) (by omega) (fun e' h1 h2 h3 => hmax e' (by omega) ?_) (by omega)
  rw [hn]
  unfold mn mx
  (repeat' split) <;> omega
theorem WordParts : bonsailaw04_WordParts.Pure := by
  intro a0 a1 a2 _ _ _
  refine ⟨1000, ?_⟩
  by_cases hbig : a0.size > 300 ∨ a1.size > 300
  · have : bonsailaw04_WordParts.f 1000 a0 a1 a2 = bonsailaw04_WordParts.j0 1000 a0 a1 a2 true := by
      unfold bonsailaw04_WordParts.f
      by_cases h : (a0.size : Int) > 300
      · rw [if_pos h]
      · rw [if_neg h, decide_eq_true (by omega)]
    rw [this, show (1000 : Nat) = 999 + 1 from rfl]
    simp only [bonsailaw04_WordParts.j0, if_true, live04_at (show 40 ≤ 999 by omega), Option.bind_some]
  · have : bonsailaw04_WordParts.f 1000 a0 a1 a2 = bonsailaw04_WordParts.j0 1000 a0 a1 a2 false := by
      unfold bonsailaw04_WordParts.f
      rw [if_neg (by omega), decide_eq_false (by omega)]
    rw [this, show (1000 : Nat) = 998 + 1 + 1 from rfl]
    have hj1 : bonsailaw04_WordParts.j1 (998 + 1) a0 a1 a2 false = some true := by
      simp only [bonsailaw04_WordParts.j1, Bool.false_eq_true, if_false]
      rw [wordValid a0 (by omega)]
      simp only [Option.bind_some, decide_eq_true_eq]
      by_cases hv : Vld a0
      · rw [if_pos hv, if_pos (by omega), wordValid (a0 ++ a1) (by rw [ByteArray.size_append]; omega), wordValid a1 (by omega)]
        simp only [Option.bind_some, vld_app hv, bne_self_eq_false]
        exact parts_j2 (by omega) a2 998 (by omega)
      · rw [if_neg hv]
        exact parts_j2 (by omega) a2 998 (by omega)
    obtain ⟨c, j, t⟩ := tells a0 (by omega)
    have h0 := t.lo
    have h1 := t.hi
    simp only [bonsailaw04_WordParts.j0, Bool.false_eq_true, if_false]
    rw [t.wordFirst]
    simp only [Option.bind_some]
    by_cases hj : j < (a0.size : Int)
    · rw [if_pos hj]
      simp only [if_true]
      have hv : Vld (a0.extract 0 j.toNat) := by
        rw [vld_take (by omega)]
        exact ⟨c, by have := t.ch; rwa [show ((j.toNat : Nat) : Int) = j by omega]⟩
      rw [if_neg (by omega), if_neg (by omega), if_pos (by omega), if_pos (by omega), wordValid _ (by rw [size_take (by omega)]; omega), t.wordValid]
      simp only [Option.bind_some, hv, decide_true, if_true]
      rw [if_neg (by simp [t.vld]; omega)]
      exact hj1
    · rw [if_neg hj]
      simp only [Bool.false_eq_true, if_false]
      exact hj1

end Go.Proofs.Ytbgjoiccehiglaa.Pure
