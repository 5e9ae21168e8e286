/- Valid texts one behind the other; and what is cut, cut again. -/
import Derived.Test.YtbgjoiccehiglaaLibB
namespace Go.Proofs.Ytbgjoiccehiglaa.LibF
open Go.RowKit Go.Proofs.Ytbgjoiccehiglaa.Print Go.Proofs.YtbgjoiccehiglaaW.PrintWords Go.Proofs.YtbgjoiccehiglaaW.PrintLast Go.Proofs.YtbgjoiccehiglaaW.PrintMore Go.Proofs.Ytbgjoiccehiglaa.LibA Go.Proofs.Ytbgjoiccehiglaa.LibB

theorem bt_app_left {s t : ByteArray} {d : Int} (h0 : 0 ≤ d) (h1 : d < s.size) : bt (s ++ t) d = bt s d := by
  unfold bt
  rw [dif_pos (by rw [ByteArray.size_append]; omega), dif_pos (by omega)]
  rw [ByteArray.getElem_append_left (by omega)]
theorem bt_app_right {s t : ByteArray} {d : Int} (h0 : 0 ≤ d) (h1 : d < t.size) : bt (s ++ t) (s.size + d) = bt t d := by
  unfold bt
  rw [dif_pos (by rw [ByteArray.size_append]; omega), dif_pos (by omega)]
  rw [ByteArray.getElem_append_right (by omega)]
  have e : ((s.size : Int) + d).toNat - s.size = d.toNat := by omega
  simp only [e]
/-- Behind a valid text, a text is valid just if the two, one behind the other, are. -/
theorem vld_app {s t : ByteArray} (hs : Vld s) : Vld (s ++ t) ↔ Vld t := by
  obtain ⟨c, hc⟩ := hs
  have hl : Ch (s ++ t) c 0 s.size := by
    have := hc.shift (t := s ++ t) (o := 0) (fun d h0 h1 => by rw [Int.zero_add]; exact (bt_app_left h0 h1).symm) (by rw [ByteArray.size_append]; omega)
    simpa using this
  have hz : ((s ++ t).size : Int) = s.size + t.size := by rw [ByteArray.size_append]; omega
  constructor
  · rintro ⟨c', h'⟩
    rcases hl.split h' with ⟨c2, _, h2⟩ | ⟨c2, m, hm, h2⟩
    · refine ⟨c2, ?_⟩
      have := h2.shift (t := t) (o := -s.size) (fun d h0 h1 => by
        obtain ⟨e, rfl⟩ : ∃ e, d = s.size + e := ⟨d - s.size, by omega⟩
        rw [bt_app_right (by omega) (by omega)]
        congr 1
        omega) (by omega)
      rwa [show -(s.size : Int) + s.size = 0 by omega, show -(s.size : Int) + ((s ++ t).size : Int) = t.size by omega] at this
    · have := h2.le
      have := hm.pos
      omega
  · rintro ⟨c', h'⟩
    have := h'.shift (t := s ++ t) (o := s.size) (fun d h0 h1 => (bt_app_right h0 h1).symm) (by omega)
    rw [Int.add_zero, ← hz] at this
    exact ⟨_, hl.trans this⟩
theorem take_take {s : ByteArray} {a b : Nat} (h : a ≤ b) : (s.extract 0 b).extract 0 a = s.extract 0 a := by
  rw [ByteArray.extract_extract]
  congr 1
  omega
theorem take_all (s : ByteArray) : s.extract 0 s.size = s := by simp
theorem take_inj {s : ByteArray} {a b : Nat} (ha : a ≤ s.size) (hb : b ≤ s.size) (h : s.extract 0 a = s.extract 0 b) : a = b := by
  have := congrArg ByteArray.size h
  rwa [size_take ha, size_take hb] at this
/-- The cut, told by its length alone. -/
theorem cut_is {s : ByteArray} (hs : s.size ≤ 140737488351232) (most : Int) (e : Nat) (he : e ≤ (mn (mx most 0) s.size).toNat) (hv : Vld (s.extract 0 e)) (hn : ∀ e' : Nat, e < e' → e' ≤ (mn (mx most 0) s.size).toNat → ¬ Vld (s.extract 0 e')) : word_Cut.f s most = some (s.extract 0 e) := by
  obtain ⟨n, e2, hn2, hns, hen, hf, hv2, hmax⟩ := wordCut hs most
  rw [hf]
  congr 2
  rcases Nat.lt_trichotomy e e2 with h | h | h
  · exact absurd hv2 (hn e2 h (by omega))
  · exact h.symm
  · exact absurd hv (hmax e h (by omega))
theorem mnmx (most : Int) (n : Nat) : (mn (mx most 0) (n : Int)).toNat ≤ n := by unfold mn mx; (repeat' split) <;> omega
end Go.Proofs.Ytbgjoiccehiglaa.LibF
