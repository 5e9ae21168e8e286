/- The runes of a text, and what they make: the text itself just if it is valid; then there are as many as signs. -/
import Derived.Test.YtbgjoiccehiglaaLibS
import Derived.Laws.Cover4
namespace Go.Proofs.Ytbgjoiccehiglaa.LibT
open Go.RowKit Go.Proofs.Ytbgjoiccehiglaa.Print Go.Proofs.YtbgjoiccehiglaaW.PrintWords Go.Proofs.YtbgjoiccehiglaaW.PrintLast Go.Proofs.YtbgjoiccehiglaaW.PrintMore Go.Proofs.Ytbgjoiccehiglaa.LibA Go.Proofs.Ytbgjoiccehiglaa.LibB Go.Proofs.Ytbgjoiccehiglaa.LibC Go.Proofs.Ytbgjoiccehiglaa.LibF Go.Proofs.Ytbgjoiccehiglaa.LibG Go.Proofs.Ytbgjoiccehiglaa.LibR Go.Proofs.Ytbgjoiccehiglaa.LibS

theorem get_bt' (s : ByteArray) (i : Nat) : (s.get! i).toNat = (bt s (i : Int)).toNat := by
  by_cases h : i < s.size
  · rw [← get_bt s i h]; rfl
  · have h1 : s.get! i = 0 := by
      show s.data[i]! = 0
      rw [getElem!_neg s.data i (fun hh => h hh)]
      rfl
    have h2 : bt s (i : Int) = 0 := by
      unfold bt
      simp [h]
    rw [h1, h2]
    rfl
theorem get_lt (s : ByteArray) (i : Nat) : (s.get! i).toNat < 256 := (s.get! i).toNat_lt
theorem nat4 (s : ByteArray) (i : Nat) (m : Int) : SgAt s i m ↔ SgNat s.size i (s.get! (i + 0)).toNat (s.get! (i + 1)).toNat (s.get! (i + 2)).toNat (s.get! (i + 3)).toNat m.toNat ∧ 0 ≤ m := by
  rw [sgAt_nat, get_bt' s (i + 0), get_bt' s (i + 1), get_bt' s (i + 2), get_bt' s (i + 3)]
  rfl
theorem bt_get (s : ByteArray) (i : Nat) (h : i < s.size) : bt s (i : Int) = (((s.get! i).toNat : Nat) : Int) := (get_bt s i h).symm
theorem sg_len {n i b0 b1 b2 b3 m : Nat} (h : SgNat n i b0 b1 b2 b3 m) : 1 ≤ m ∧ m ≤ 4 ∧ i + m ≤ n := by
  rcases h with ⟨h1, rfl, h2⟩ | ⟨h1, h2, rfl, h3, h4, h5⟩ | ⟨h1, rfl, h2, h3, h4⟩ | ⟨h1, rfl, h2, h3, h4, h5, h6⟩ <;> omega
/-- At a sign the decoding tells its length and a rune with its bytes. -/
theorem decode_yes {s : ByteArray} {i : Nat} {m : Int} (h : SgAt s i m) : ∃ c : Nat, Utf8.decode s i = (c, m.toNat) ∧ Utf8.encode c = s.extract i (i + m.toNat) := by
  obtain ⟨hn, h0⟩ := (nat4 s i m).mp h
  obtain ⟨c, h1, h2⟩ := dec_yes (get_lt s _) (get_lt s _) (get_lt s _) (get_lt s _) hn
  obtain ⟨l1, l4, l5⟩ := sg_len hn
  refine ⟨c, by rw [decode_dec, h1], ?_⟩
  rw [h2]
  have hl : (([(((s.get! (i + 0)).toNat : Nat) : Int), ((s.get! (i + 1)).toNat : Nat), ((s.get! (i + 2)).toNat : Nat), ((s.get! (i + 3)).toNat : Nat)]).take m.toNat).length = m.toNat := by
    rw [List.length_take]; simp; omega
  have := extract_nums s i (([(((s.get! (i + 0)).toNat : Nat) : Int), ((s.get! (i + 1)).toNat : Nat), ((s.get! (i + 2)).toNat : Nat), ((s.get! (i + 3)).toNat : Nat)]).take m.toNat) (by rw [hl]; exact l5)
    (fun x hx => by
      have hx := List.mem_of_mem_take hx
      have b0 := get_lt s (i + 0); have b1 := get_lt s (i + 1); have b2 := get_lt s (i + 2); have b3 := get_lt s (i + 3)
      simp only [List.mem_cons, List.not_mem_nil, or_false] at hx
      rcases hx with rfl | rfl | rfl | rfl <;> omega)
    (fun j hj => by
      rw [hl] at hj
      rw [List.getElem_take, bt_get s (i + j) (by omega)]
      have : j = 0 ∨ j = 1 ∨ j = 2 ∨ j = 3 := by omega
      rcases this with rfl | rfl | rfl | rfl <;> rfl)
  rw [hl] at this
  exact this.symm
theorem decode_no {s : ByteArray} {i : Nat} (hi : i < s.size) (h : ∀ m, ¬ SgAt s i m) : Utf8.decode s i = (65533, 1) := by
  rw [decode_dec]
  refine dec_no (get_lt s _) (get_lt s _) (get_lt s _) (get_lt s _) hi fun m hm => h m ((nat4 s i m).mpr ⟨by rwa [Int.toNat_natCast], by omega⟩)
theorem encode_no : (Utf8.encode ((65533 : Nat) : Int)).size = 3 := by decide +kernel
/-- The runes from i on. -/
def rl (s : ByteArray) : Nat → Nat → List Int
  | 0, _ => []
  | b + 1, i => if i < s.size then (((Utf8.decode s i).1 : Nat) : Int) :: rl s b (i + (Utf8.decode s i).2) else []
theorem from_rl (s : ByteArray) : ∀ (b i : Nat) (acc : Array Value), Conv.runesFrom s b i acc = acc ++ ((rl s b i).map (Value.int .i32)).toArray
  | 0, _, acc => by simp [Conv.runesFrom, rl]
  | b + 1, i, acc => by
    unfold Conv.runesFrom rl
    split
    · have key := from_rl s b (i + (Utf8.decode s i).2) (acc.push (.int .i32 (Int.ofNat (Utf8.decode s i).1)))
      refine Eq.trans (b := Conv.runesFrom s b (i + (Utf8.decode s i).2) (acc.push (.int .i32 (Int.ofNat (Utf8.decode s i).1)))) rfl (key.trans ?_)
      clear key
      generalize Utf8.decode s i = q
      simp
    · simp
theorem fold_app (ns : List Int) : ∀ a : ByteArray, ns.foldl (fun r n => r ++ Utf8.encode n) a = a ++ runesBytes ns := by
  induction ns with
  | nil => intro a; simp [runesBytes]
  | cons n ns ih => intro a; unfold runesBytes; simp only [List.foldl_cons]; rw [ih, ih (ByteArray.empty ++ Utf8.encode n), ByteArray.empty_append, ByteArray.append_assoc]
theorem bytes_cons (n : Int) (ns : List Int) : runesBytes (n :: ns) = Utf8.encode n ++ runesBytes ns := by
  conv => lhs; unfold runesBytes
  rw [List.foldl_cons, fold_app, ByteArray.empty_append]
theorem dec_sg (s : ByteArray) (i : Nat) : (∃ m : Int, SgAt s i m) ∨ (∀ m, ¬ SgAt s i m) := by
  by_cases h : ∃ m : Int, SgAt s i m
  · exact .inl h
  · exact .inr fun m hm => h ⟨m, hm⟩
theorem rl_size (s : ByteArray) : ∀ (b i : Nat), s.size ≤ b + i → i ≤ s.size → s.size ≤ i + (runesBytes (rl s b i)).size ∧ (¬ (∃ c, Ch s c i s.size) → s.size < i + (runesBytes (rl s b i)).size)
  | 0, i, hb, hi => by
    have : i = s.size := by omega
    subst this
    exact ⟨by omega, fun h => absurd ⟨0, .nil _⟩ h⟩
  | b + 1, i, hb, hi => by
    unfold rl
    by_cases h : i < s.size
    · rw [if_pos h, bytes_cons, ByteArray.size_append]
      rcases dec_sg s i with ⟨m, hm⟩ | hn
      · obtain ⟨c, h1, h2⟩ := decode_yes hm
        have hp := hm.pos
        have ih := rl_size s b (i + m.toNat) (by omega) (by omega)
        rw [h1]
        simp only
        rw [h2, ByteArray.size_extract]
        refine ⟨by omega, fun hc => ?_⟩
        have := ih.2 fun ⟨c, hc'⟩ => hc ⟨c + 1, .cons hm (by rw [show ((i : Int) + m) = ((i + m.toNat : Nat) : Int) by omega]; exact hc')⟩
        omega
      · have ih := rl_size s b (i + 1) (by omega) (by omega)
        rw [decode_no h hn]
        simp only
        rw [encode_no]
        omega
    · have : i = s.size := by omega
      subst this
      rw [if_neg h]
      exact ⟨by omega, fun h => absurd ⟨0, .nil _⟩ h⟩
theorem rl_valid (s : ByteArray) : ∀ (b c i : Nat), s.size ≤ b + i → Ch s c i s.size → runesBytes (rl s b i) = s.extract i s.size ∧ (rl s b i).length = c
  | b, 0, i, hb, h => by
    have hi : i = s.size := by generalize hj : ((s.size : Nat) : Int) = j at h; cases h; omega
    subst hi
    have : rl s b s.size = [] := by cases b <;> simp [rl]
    rw [this]
    exact ⟨by simp [runesBytes], rfl⟩
  | b, c + 1, i, hb, h => by
    generalize hj : ((s.size : Nat) : Int) = j at h
    cases h with
    | @cons _ _ m _ hm t =>
      subst hj
      have hp := hm.pos
      obtain ⟨c', h1, h2⟩ := decode_yes hm
      obtain ⟨b, rfl⟩ : ∃ b', b = b' + 1 := ⟨b - 1, by omega⟩
      rw [show ((i : Int) + m) = ((i + m.toNat : Nat) : Int) by omega] at t
      obtain ⟨e1, e2⟩ := rl_valid s b c (i + m.toNat) (by omega) t
      unfold rl
      rw [if_pos (by omega), bytes_cons, h1]
      simp only
      rw [h2, e1, List.length_cons, e2]
      refine ⟨?_, rfl⟩
      rw [ByteArray.extract_append_extract, Nat.min_eq_left (by omega), Nat.max_eq_right (by omega)]
theorem runes_vld (s : ByteArray) : runesBytes (rl s s.size 0) = s ↔ Vld s := by
  constructor
  · intro h
    by_cases hv : Vld s
    · exact hv
    · have := (rl_size s s.size 0 (by omega) (by omega)).2 hv
      rw [h] at this
      omega
  · rintro ⟨c, hc⟩
    rw [(rl_valid s s.size c 0 (by omega) hc).1]
    exact take_all s
theorem runes_len {s : ByteArray} {c : Nat} (h : Ch s c 0 s.size) : (rl s s.size 0).length = c := (rl_valid s s.size c 0 (by omega) h).2
end Go.Proofs.Ytbgjoiccehiglaa.LibT
