/- What a text's decoding tells at a sign, and where none begins. -/
import Derived.Test.YtbgjoiccehiglaaLibR
namespace Go.Proofs.Ytbgjoiccehiglaa.LibS
open Go.RowKit Go.Proofs.Ytbgjoiccehiglaa.Print Go.Proofs.YtbgjoiccehiglaaW.PrintWords Go.Proofs.YtbgjoiccehiglaaW.PrintLast Go.Proofs.YtbgjoiccehiglaaW.PrintMore Go.Proofs.Ytbgjoiccehiglaa.LibA Go.Proofs.Ytbgjoiccehiglaa.LibB Go.Proofs.Ytbgjoiccehiglaa.LibC Go.Proofs.Ytbgjoiccehiglaa.LibF Go.Proofs.Ytbgjoiccehiglaa.LibG Go.Proofs.Ytbgjoiccehiglaa.LibR

/-- The decoding over plain numbers: n bytes, from i on, of which the first four are these. -/
def dec (n i b0 b1 b2 b3 : Nat) : Nat × Nat :=
  if b0 < 128 then (b0, 1)
  else if (b0 / 32 == 6 && (decide (i + 1 < n) && b1 / 64 == 2)) = true then (if (b0 % 32) * 64 + b1 % 64 ≥ 128 then ((b0 % 32) * 64 + b1 % 64, 2) else (65533, 1))
  else if (b0 / 16 == 14 && (decide (i + 1 < n) && b1 / 64 == 2) && (decide (i + 2 < n) && b2 / 64 == 2)) = true then
    (if (decide ((b0 % 16) * 4096 + (b1 % 64) * 64 + b2 % 64 ≥ 2048) && Utf8.valid (((b0 % 16) * 4096 + (b1 % 64) * 64 + b2 % 64 : Nat) : Int)) = true then ((b0 % 16) * 4096 + (b1 % 64) * 64 + b2 % 64, 3) else (65533, 1))
  else if (b0 / 8 == 30 && (decide (i + 1 < n) && b1 / 64 == 2) && (decide (i + 2 < n) && b2 / 64 == 2) && (decide (i + 3 < n) && b3 / 64 == 2)) = true then
    (if (decide ((b0 % 8) * 262144 + (b1 % 64) * 4096 + (b2 % 64) * 64 + b3 % 64 ≥ 65536) && Utf8.valid (((b0 % 8) * 262144 + (b1 % 64) * 4096 + (b2 % 64) * 64 + b3 % 64 : Nat) : Int)) = true then ((b0 % 8) * 262144 + (b1 % 64) * 4096 + (b2 % 64) * 64 + b3 % 64, 4) else (65533, 1))
  else (65533, 1)
theorem decode_dec (s : ByteArray) (i : Nat) : Utf8.decode s i = dec s.size i (s.get! (i + 0)).toNat (s.get! (i + 1)).toNat (s.get! (i + 2)).toNat (s.get! (i + 3)).toNat := rfl
theorem valid_iff (c : Nat) : Utf8.valid (c : Int) = true ↔ (c < 55296 ∨ (57344 ≤ c ∧ c ≤ 1114111)) := by
  unfold Utf8.valid
  rw [Bool.or_eq_true, Bool.and_eq_true, Bool.and_eq_true, decide_eq_true_eq, decide_eq_true_eq, decide_eq_true_eq, decide_eq_true_eq]
  omega
theorem c2 (n i b0 b1 : Nat) : ((b0 / 32 == 6 && (decide (i + 1 < n) && b1 / 64 == 2)) = true) ↔ (b0 / 32 = 6 ∧ i + 1 < n ∧ b1 / 64 = 2) := by
  rw [Bool.and_eq_true, Bool.and_eq_true, decide_eq_true_eq, beq_iff_eq, beq_iff_eq]
theorem c3 (n i b0 b1 b2 : Nat) : ((b0 / 16 == 14 && (decide (i + 1 < n) && b1 / 64 == 2) && (decide (i + 2 < n) && b2 / 64 == 2)) = true) ↔ ((b0 / 16 = 14 ∧ i + 1 < n ∧ b1 / 64 = 2) ∧ i + 2 < n ∧ b2 / 64 = 2) := by
  rw [Bool.and_eq_true, Bool.and_eq_true, Bool.and_eq_true, Bool.and_eq_true, decide_eq_true_eq, decide_eq_true_eq, beq_iff_eq, beq_iff_eq, beq_iff_eq]
theorem c4 (n i b0 b1 b2 b3 : Nat) : ((b0 / 8 == 30 && (decide (i + 1 < n) && b1 / 64 == 2) && (decide (i + 2 < n) && b2 / 64 == 2) && (decide (i + 3 < n) && b3 / 64 == 2)) = true) ↔ (((b0 / 8 = 30 ∧ i + 1 < n ∧ b1 / 64 = 2) ∧ i + 2 < n ∧ b2 / 64 = 2) ∧ i + 3 < n ∧ b3 / 64 = 2) := by
  rw [Bool.and_eq_true, Bool.and_eq_true, Bool.and_eq_true, Bool.and_eq_true, Bool.and_eq_true, Bool.and_eq_true, decide_eq_true_eq, decide_eq_true_eq, decide_eq_true_eq, beq_iff_eq, beq_iff_eq, beq_iff_eq, beq_iff_eq]
theorem cv (c m : Nat) : ((decide (c ≥ m) && Utf8.valid (c : Int)) = true) ↔ (c ≥ m ∧ (c < 55296 ∨ (57344 ≤ c ∧ c ≤ 1114111))) := by
  rw [Bool.and_eq_true, decide_eq_true_eq, valid_iff]
/-- At a sign: its rune, whose bytes are the sign's. -/
theorem dec_yes {n i b0 b1 b2 b3 m : Nat} (k0 : b0 < 256) (k1 : b1 < 256) (k2 : b2 < 256) (k3 : b3 < 256) (h : SgNat n i b0 b1 b2 b3 m) :
    ∃ c : Nat, dec n i b0 b1 b2 b3 = (c, m) ∧ Utf8.encode c = strOfNums (([(b0 : Int), b1, b2, b3]).take m) := by
  unfold dec
  rcases h with ⟨h1, rfl, h2⟩ | ⟨h1, h2, rfl, h3, h4, h5⟩ | ⟨h1, rfl, h2, h3, h4⟩ | ⟨h1, rfl, h2, h3, h4, h5, h6⟩
  · rw [if_pos h1]
    exact ⟨b0, rfl, enc1 b0 h1⟩
  · rw [if_neg (by omega), if_pos ((c2 n i b0 b1).mpr (by omega)), if_pos (by omega)]
    refine ⟨_, rfl, ?_⟩
    rw [enc2 _ (by omega) (by omega), show 192 + (b0 % 32 * 64 + b1 % 64) / 64 = b0 by omega, show 128 + (b0 % 32 * 64 + b1 % 64) % 64 = b1 by omega]
    rfl
  · rw [if_neg (by omega), if_neg (fun hh => absurd ((c2 n i b0 b1).mp hh) (by omega)), if_pos ((c3 n i b0 b1 b2).mpr (by omega)), if_pos ((cv _ _).mpr (by omega))]
    refine ⟨_, rfl, ?_⟩
    rw [enc3 _ (by omega) (by omega) ((valid_iff _).mpr (by omega)), show 224 + (b0 % 16 * 4096 + b1 % 64 * 64 + b2 % 64) / 4096 = b0 by omega, show 128 + (b0 % 16 * 4096 + b1 % 64 * 64 + b2 % 64) / 64 % 64 = b1 by omega, show 128 + (b0 % 16 * 4096 + b1 % 64 * 64 + b2 % 64) % 64 = b2 by omega]
    rfl
  · rw [if_neg (by omega), if_neg (fun hh => absurd ((c2 n i b0 b1).mp hh) (by omega)), if_neg (fun hh => absurd ((c3 n i b0 b1 b2).mp hh) (by omega)), if_pos ((c4 n i b0 b1 b2 b3).mpr (by omega)), if_pos ((cv _ _).mpr (by omega))]
    refine ⟨_, rfl, ?_⟩
    rw [enc4 _ (by omega) ((valid_iff _).mpr (by omega)), show 240 + (b0 % 8 * 262144 + b1 % 64 * 4096 + b2 % 64 * 64 + b3 % 64) / 262144 = b0 by omega, show 128 + (b0 % 8 * 262144 + b1 % 64 * 4096 + b2 % 64 * 64 + b3 % 64) / 4096 % 64 = b1 by omega, show 128 + (b0 % 8 * 262144 + b1 % 64 * 4096 + b2 % 64 * 64 + b3 % 64) / 64 % 64 = b2 by omega, show 128 + (b0 % 8 * 262144 + b1 % 64 * 4096 + b2 % 64 * 64 + b3 % 64) % 64 = b3 by omega]
    rfl
/-- Where no sign is: what stands for what is none, and one byte. -/
theorem dec_no {n i b0 b1 b2 b3 : Nat} (k0 : b0 < 256) (k1 : b1 < 256) (k2 : b2 < 256) (k3 : b3 < 256) (hi : i < n) (h : ∀ m, ¬ SgNat n i b0 b1 b2 b3 m) : dec n i b0 b1 b2 b3 = (65533, 1) := by
  have h1 : ¬ b0 < 128 := fun hb => h 1 (.inl ⟨hb, rfl, by omega⟩)
  have h2 : ¬ (194 ≤ b0 ∧ b0 < 224 ∧ i + 2 ≤ n ∧ 128 ≤ b1 ∧ b1 ≤ 191) := fun ⟨p, q, r, s, t⟩ => h 2 (.inr (.inl ⟨p, q, rfl, r, s, t⟩))
  have h3 : ¬ (((b0 = 224 ∧ 160 ≤ b1 ∧ b1 ≤ 191) ∨ (b0 = 237 ∧ 128 ≤ b1 ∧ b1 ≤ 159) ∨ (225 ≤ b0 ∧ b0 < 240 ∧ b0 ≠ 237 ∧ 128 ≤ b1 ∧ b1 ≤ 191)) ∧ i + 3 ≤ n ∧ 128 ≤ b2 ∧ b2 ≤ 191) := fun ⟨p, q⟩ => h 3 (.inr (.inr (.inl ⟨p, rfl, q⟩)))
  have h4 : ¬ (((b0 = 240 ∧ 144 ≤ b1 ∧ b1 ≤ 191) ∨ (241 ≤ b0 ∧ b0 < 244 ∧ 128 ≤ b1 ∧ b1 ≤ 191) ∨ (b0 = 244 ∧ 128 ≤ b1 ∧ b1 ≤ 143)) ∧ i + 4 ≤ n ∧ 128 ≤ b2 ∧ b2 ≤ 191 ∧ 128 ≤ b3 ∧ b3 ≤ 191) := fun ⟨p, q⟩ => h 4 (.inr (.inr (.inr ⟨p, rfl, q⟩)))
  unfold dec
  rw [if_neg h1]
  clear h
  by_cases a2 : b0 / 32 = 6 ∧ i + 1 < n ∧ b1 / 64 = 2
  · rw [if_pos ((c2 n i b0 b1).mpr a2), if_neg (by omega)]
  · rw [if_neg (fun hh => a2 ((c2 n i b0 b1).mp hh))]
    by_cases a3 : (b0 / 16 = 14 ∧ i + 1 < n ∧ b1 / 64 = 2) ∧ i + 2 < n ∧ b2 / 64 = 2
    · rw [if_pos ((c3 n i b0 b1 b2).mpr a3), if_neg (fun hh => absurd ((cv _ _).mp hh) (by omega))]
    · rw [if_neg (fun hh => a3 ((c3 n i b0 b1 b2).mp hh))]
      by_cases a4 : ((b0 / 8 = 30 ∧ i + 1 < n ∧ b1 / 64 = 2) ∧ i + 2 < n ∧ b2 / 64 = 2) ∧ i + 3 < n ∧ b3 / 64 = 2
      · rw [if_pos ((c4 n i b0 b1 b2 b3).mpr a4), if_neg (fun hh => absurd ((cv _ _).mp hh) (by omega))]
      · rw [if_neg (fun hh => a4 ((c4 n i b0 b1 b2 b3).mp hh))]
end Go.Proofs.Ytbgjoiccehiglaa.LibS
