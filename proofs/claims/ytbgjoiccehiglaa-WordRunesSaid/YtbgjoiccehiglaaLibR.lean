/- Runes: what Go's decoding of a text tells, and what comes of the runes put together again. -/
import Derived.Test.YtbgjoiccehiglaaLibG
import Derived.Laws.Cover4
import Derived.Laws.IdiomStrings
namespace Go.Proofs.Ytbgjoiccehiglaa.LibR
open Go.RowKit Go.Proofs.Ytbgjoiccehiglaa.Print Go.Proofs.YtbgjoiccehiglaaW.PrintWords Go.Proofs.YtbgjoiccehiglaaW.PrintLast Go.Proofs.YtbgjoiccehiglaaW.PrintMore Go.Proofs.Ytbgjoiccehiglaa.LibA Go.Proofs.Ytbgjoiccehiglaa.LibB Go.Proofs.Ytbgjoiccehiglaa.LibC Go.Proofs.Ytbgjoiccehiglaa.LibF Go.Proofs.Ytbgjoiccehiglaa.LibG

theorem get_bt (s : ByteArray) (i : Nat) (h : i < s.size) : (((s.get! i).toNat : Nat) : Int) = bt s i := by
  unfold bt
  rw [dif_pos (by omega)]
  simp only [ByteArray.get!, ByteArray.getElem_eq_getElem_data, Int.toNat_natCast]
  rw [getElem!_pos s.data i h]
theorem extract_nums (s : ByteArray) (i : Nat) (xs : List Int) (h : i + xs.length ≤ s.size) (hx : ∀ x ∈ xs, 0 ≤ x ∧ x < 256) (hb : ∀ j (hj : j < xs.length), bt s ((i + j : Nat) : Int) = xs[j]) : s.extract i (i + xs.length) = strOfNums xs := by
  refine ba_ext (by rw [ByteArray.size_extract, strOfNums_size]; omega) (fun d h0 hd => ?_)
  rw [ByteArray.size_extract] at hd
  obtain ⟨j, rfl⟩ := Int.eq_ofNat_of_zero_le h0
  rw [bt_drop (by omega) h0 (by omega), bt_nums hx (by omega), ← hb j (by omega)]
  rfl
theorem enc1 (c : Nat) (h : c < 128) : Utf8.encode c = strOfNums [(c : Int)] := by
  unfold Utf8.encode
  have hv : Utf8.valid (c : Int) = true := by unfold Utf8.valid; simp; omega
  simp only [hv, if_true, Int.toNat_natCast]
  rw [if_pos h]
  rfl
theorem enc2 (c : Nat) (h : 128 ≤ c) (h2 : c < 2048) : Utf8.encode c = strOfNums [((192 + c / 64 : Nat) : Int), ((128 + c % 64 : Nat) : Int)] := by
  unfold Utf8.encode
  have hv : Utf8.valid (c : Int) = true := by unfold Utf8.valid; simp; omega
  simp only [hv, if_true, Int.toNat_natCast]
  rw [if_neg (by omega), if_pos h2]
  rfl
theorem enc3 (c : Nat) (h : 2048 ≤ c) (h2 : c < 65536) (hv : Utf8.valid (c : Int) = true) : Utf8.encode c = strOfNums [((224 + c / 4096 : Nat) : Int), ((128 + c / 64 % 64 : Nat) : Int), ((128 + c % 64 : Nat) : Int)] := by
  unfold Utf8.encode
  simp only [hv, if_true, Int.toNat_natCast]
  rw [if_neg (by omega), if_neg (by omega), if_pos h2]
  rfl
theorem enc4 (c : Nat) (h : 65536 ≤ c) (hv : Utf8.valid (c : Int) = true) : Utf8.encode c = strOfNums [((240 + c / 262144 : Nat) : Int), ((128 + c / 4096 % 64 : Nat) : Int), ((128 + c / 64 % 64 : Nat) : Int), ((128 + c % 64 : Nat) : Int)] := by
  unfold Utf8.encode
  simp only [hv, if_true, Int.toNat_natCast]
  rw [if_neg (by omega), if_neg (by omega), if_neg (by omega)]
  rfl
/-- A sign, by its bytes as numbers. -/
def SgNat (n i : Nat) (b0 b1 b2 b3 : Nat) (m : Nat) : Prop :=
  (b0 < 128 ∧ m = 1 ∧ i + 1 ≤ n) ∨ (194 ≤ b0 ∧ b0 < 224 ∧ m = 2 ∧ i + 2 ≤ n ∧ 128 ≤ b1 ∧ b1 ≤ 191) ∨
  (((b0 = 224 ∧ 160 ≤ b1 ∧ b1 ≤ 191) ∨ (b0 = 237 ∧ 128 ≤ b1 ∧ b1 ≤ 159) ∨ (225 ≤ b0 ∧ b0 < 240 ∧ b0 ≠ 237 ∧ 128 ≤ b1 ∧ b1 ≤ 191)) ∧ m = 3 ∧ i + 3 ≤ n ∧ 128 ≤ b2 ∧ b2 ≤ 191) ∨
  (((b0 = 240 ∧ 144 ≤ b1 ∧ b1 ≤ 191) ∨ (241 ≤ b0 ∧ b0 < 244 ∧ 128 ≤ b1 ∧ b1 ≤ 191) ∨ (b0 = 244 ∧ 128 ≤ b1 ∧ b1 ≤ 143)) ∧ m = 4 ∧ i + 4 ≤ n ∧ 128 ≤ b2 ∧ b2 ≤ 191 ∧ 128 ≤ b3 ∧ b3 ≤ 191)
set_option linter.unusedSimpArgs false
set_option maxHeartbeats 16000000 in
theorem sgAt_nat (s : ByteArray) (i : Nat) (m : Int) : SgAt s i m ↔ SgNat s.size i (bt s i).toNat (bt s ((i : Int) + 1)).toNat (bt s ((i : Int) + 2)).toNat (bt s ((i : Int) + 3)).toNat m.toNat ∧ 0 ≤ m := by
  have h0 := bt_range s i
  have h1 := bt_range s ((i : Int) + 1)
  have h2 := bt_range s ((i : Int) + 2)
  have h3 := bt_range s ((i : Int) + 3)
  unfold SgAt SgNat
  have e1 : (i : Int) + 1 + 1 = i + 2 := by omega
  have e2 : (i : Int) + 2 + 1 = i + 3 := by omega
  have hH := sgH_is (bt s i)
  have cls : bt s i < 128 ∨ (128 ≤ bt s i ∧ bt s i < 194) ∨ (194 ≤ bt s i ∧ bt s i < 224) ∨ bt s i = 224 ∨ (225 ≤ bt s i ∧ bt s i < 237) ∨ bt s i = 237 ∨ (238 ≤ bt s i ∧ bt s i < 240) ∨ bt s i = 240 ∨ (241 ≤ bt s i ∧ bt s i < 244) ∨ bt s i = 244 ∨ 245 ≤ bt s i := by omega
  rcases cls with c | c | c | c | c | c | c | c | c | c | c
  all_goals
    repeat (first | rw [if_pos (by omega)] at hH | rw [if_neg (by omega)] at hH)
    rw [hH]
    simp only [sgR_0, sgR_1, sgR_2, sgR_3, e1, e2, reduceCtorEq, false_and, true_and, and_true, false_iff]
    omega
end Go.Proofs.Ytbgjoiccehiglaa.LibR
