/- Of any text of at most 300 bytes, any most and any more of at most 2 to the 40th, not below 0: what was cut is itself, cut again as far or farther; with more room it is no shorter; of a valid text less than four bytes are missing. -/
import Derived.Test.YtbgjoiccehiglaaLibC
import Derived.Test.YtbgjoiccehiglaaLibF
import Derived.Test.YtbgjoiccehiglaaPrint12
namespace Go.Proofs.Ytbgjoiccehiglaa.Pure
open Go.RowKit Go.Proofs.Ytbgjoiccehiglaa.Print Go.Proofs.YtbgjoiccehiglaaW.PrintWords Go.Proofs.YtbgjoiccehiglaaW.PrintLast Go.Proofs.YtbgjoiccehiglaaW.PrintMore Go.Proofs.Ytbgjoiccehiglaa.LibA Go.Proofs.Ytbgjoiccehiglaa.LibB Go.Proofs.Ytbgjoiccehiglaa.LibC Go.Proofs.Ytbgjoiccehiglaa.LibF

theorem cuts_live {k : Nat} (hk : 40 ≤ k) : bonsailaw04_live.f k = some true := at_rounds (g := bonsailaw04_live.f) (fun k => bonsailaw04_live.mono k) hk live04
theorem mn_toNat (m : Int) (n : Nat) : (mn (mx m 0) (n : Int)).toNat = min (mx m 0).toNat n := by unfold mn mx; (repeat' split) <;> omega
theorem WordCuts : bonsailaw04_WordCuts.Pure := by
  intro s most more _ _ _
  refine ⟨1000, ?_⟩
  by_cases hbig : (s.size : Int) > 300 ∨ more < 0 ∨ most > 1099511627776 ∨ more > 1099511627776
  · have : bonsailaw04_WordCuts.f 1000 s most more = bonsailaw04_WordCuts.j0 1000 s most more true := by
      unfold bonsailaw04_WordCuts.f
      by_cases h : (s.size : Int) > 300
      · rw [if_pos h]
      · rw [if_neg h]
        by_cases h : more < 0
        · rw [if_pos h]
        · rw [if_neg h]
          by_cases h : most > 1099511627776
          · rw [if_pos h]
          · rw [if_neg h, decide_eq_true (by omega)]
    rw [this, show (1000 : Nat) = 999 + 1 from rfl]
    simp only [bonsailaw04_WordCuts.j0, if_true, cuts_live (show 40 ≤ 999 by omega), Option.bind_some]
  · have : bonsailaw04_WordCuts.f 1000 s most more = bonsailaw04_WordCuts.j0 1000 s most more false := by
      unfold bonsailaw04_WordCuts.f
      rw [if_neg (by omega), if_neg (by omega), if_neg (by omega), decide_eq_false (by omega)]
    rw [this, show (1000 : Nat) = 998 + 1 + 1 from rfl]
    have hM : mx most 0 = most ∧ 0 ≤ most ∨ mx most 0 = 0 ∧ most < 0 := by unfold mx; split <;> omega
    have hMM : mx (mx most 0 + more) 0 = mx most 0 + more := by generalize mx most 0 = M at *; unfold mx; split <;> omega
    have hs : s.size ≤ 140737488351232 := by omega
    obtain ⟨n, e, hn, hns, hen, hf, hv, hmax⟩ := wordCut hs most
    obtain ⟨n2, e2, hn2, hns2, hen2, hf2, hv2, hmax2⟩ := wordCut hs (mx most 0 + more)
    rw [mn_toNat] at hn hn2
    rw [hMM] at hn2
    have hnn : n ≤ n2 := by omega
    have hee : e ≤ e2 := by
      rcases Nat.lt_or_ge e2 e with h | h
      · exact absurd hv (hmax2 e h (by omega))
      · exact h
    have hes : (s.extract 0 e).size = e := size_take (by omega)
    have hes2 : (s.extract 0 e2).size = e2 := size_take (by omega)
    have c1 : word_Cut.f (s.extract 0 e) (mx most 0 + more) = some (s.extract 0 e) := by
      have := cut_is (s := s.extract 0 e) (by omega) (mx most 0 + more) e (by rw [mn_toNat, hMM, hes]; omega) (by rw [take_take (Nat.le_refl _)]; exact hv) (fun e' h1 h2 => by rw [mn_toNat, hes] at h2; omega)
      rw [this, take_take (Nat.le_refl _)]
    have c2 : word_Cut.f (s.extract 0 e2) most = some (s.extract 0 e) := by
      have := cut_is (s := s.extract 0 e2) (by omega) most e (by rw [mn_toNat, hes2]; omega) (by rw [take_take hee]; exact hv) (fun e' h1 h2 => by rw [mn_toNat, hes2] at h2; rw [take_take (by omega)]; exact hmax e' h1 (by omega))
      rw [this, take_take hee]
    simp only [bonsailaw04_WordCuts.j0, bonsailaw04_WordCuts.j1, Bool.false_eq_true, if_false]
    rw [hf, w64 (n := mx most 0 + more) (by omega) (by omega), hf2]
    simp only [Option.bind_some]
    rw [c1]
    simp only [Option.bind_some, if_true]
    rw [hes, hes2, if_neg (by omega), if_pos (by omega), if_pos (by omega), take_take hee, if_pos rfl, c2]
    simp only [Option.bind_some, bne_self_eq_false, Bool.false_eq_true, if_false]
    rw [wordValid s hs]
    simp only [Option.bind_some, decide_eq_true_eq]
    by_cases hV : Vld s
    · rw [if_pos hV]
      have hlong : (e : Int) > mn (mx most 0) (s.size : Int) - 4 := by
        obtain ⟨c, hc⟩ := hV
        obtain ⟨c', hc'⟩ := (vld_take (by omega)).mp hv
        have hmn : mn (mx most 0) (s.size : Int) = n := by rw [hn]; unfold mn; split <;> omega
        rw [hmn]
        by_cases h4 : (e : Int) > n - 4
        · exact h4
        · exfalso
          rcases hc'.split hc with ⟨c2, _, h2⟩ | ⟨c2, m, hm, h2⟩
          · cases h2 with
            | nil => omega
            | @cons _ _ m _ hm _ =>
              have hp := hm.pos
              refine hmax (e + m.toNat) (by omega) (by omega) ((vld_take (by omega)).mpr ⟨c' + 1, ?_⟩)
              have := hc'.snoc hm
              rwa [show ((e + m.toNat : Nat) : Int) = e + m by omega]
          · have := h2.le
            have := hm.pos
            omega
      have hmb : -4 ≤ mn (mx most 0) (s.size : Int) - 4 ∧ mn (mx most 0) (s.size : Int) - 4 ≤ 300 := by unfold mn; split <;> omega
      rw [w64 (by omega) (by omega), if_pos hlong]
      have c3 : word_Cut.f s (s.size : Int) = some s := by
        have h0 : mx (s.size : Int) 0 = s.size := by unfold mx; split <;> omega
        have := cut_is hs (s.size : Int) s.size (by rw [mn_toNat, h0]; omega) (by rw [take_all]; exact hV) (fun e' h1 h2 => by rw [mn_toNat] at h2; omega)
        rw [this, take_all]
      rw [c3]
      simp only [Option.bind_some, if_true, cuts_live (show 40 ≤ 998 by omega)]
    · rw [if_neg hV]
      simp only [cuts_live (show 40 ≤ 998 by omega), Option.bind_some]

end Go.Proofs.Ytbgjoiccehiglaa.Pure
