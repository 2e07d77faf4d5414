/- The model's decoding of a sign is 'decodeL'; a range over a string's signs, byte by byte. -/
import Derived.Test.YtehflgllfkkfoaaDoorMem
import Derived.Laws.RangeAny
set_option linter.unusedVariables false
namespace Go.Proofs.YtehflgllfkkfoaaDoor
open Go.RowKit Go.Proofs.Dm

theorem get_byte (s : ByteArray) (i k : Nat) : (s.get! (i + k)).toNat = byteAt (s.data.toList.drop i) k := by
  unfold byteAt
  rw [List.getD_eq_getElem?_getD, List.getElem?_drop]
  cases s with | mk d =>
  show (d[i + k]!).toNat = _
  rw [getElem!_def]
  simp only [Array.getElem?_toList]
  cases d[i + k]? <;> rfl
theorem cont_byte (s : ByteArray) (i k : Nat) : (decide (i + k < s.size) && (s.get! (i + k)).toNat / 64 == 2) = cont (s.data.toList.drop i) k := by
  unfold cont
  rw [get_byte, List.length_drop, ← size_data]
  congr 1
  rw [Bool.eq_iff_iff]
  simp only [decide_eq_true_eq]
  omega
theorem valid_nat (c : Nat) : Utf8.valid (c : Int) = validR c := by
  unfold Utf8.valid validR
  rw [Bool.eq_iff_iff]
  simp only [Bool.or_eq_true, Bool.and_eq_true, decide_eq_true_eq]
  omega
theorem decode_eq (s : ByteArray) (i : Nat) : Utf8.decode s i = decodeL (s.data.toList.drop i) := by
  have c1 := cont_byte s i 1
  rw [get_byte] at c1
  have c2 := cont_byte s i 2
  rw [get_byte] at c2
  have c3 := cont_byte s i 3
  rw [get_byte] at c3
  have g0 := get_byte s i 0
  have g1 := get_byte s i 1
  have g2 := get_byte s i 2
  have g3 := get_byte s i 3
  unfold Utf8.decode decodeL
  simp only [g0, g1, g2, g3, c1, c2, c3, Utf8.runeError]
  simp only [← valid_nat]

def alnI (c : Int) : Bool := (decide (c = 95) || (decide (97 ≤ c) && decide (c ≤ 122)) || (decide (65 ≤ c) && decide (c ≤ 90))) || (decide (48 ≤ c) && decide (c ≤ 57))
theorem alnI_low : ∀ c : Fin 128, alnI ((c.val : Nat) : Int) = alnum (UInt8.ofNat c.val) := by decide +kernel
theorem alnum_high (c : UInt8) (h : 128 ≤ c.toNat) : alnum c = false := by
  cases ha : alnum c with
  | false => rfl
  | true => have := (alnum_low ha).2; omega
theorem alnI_high (c : Int) (h : 128 ≤ c) : alnI c = false := by
  unfold alnI
  rw [Bool.eq_false_iff]
  simp only [ne_eq, Bool.or_eq_true, Bool.and_eq_true, decide_eq_true_eq, not_or, not_and]
  omega
theorem byteAt_zero (b : Bs) (c : UInt8) (r : Bs) (h : b = c :: r) : byteAt b 0 = c.toNat := by subst h; rfl
/-- What a sign is as a letter or a figure its first byte is; and then it takes one byte. -/
theorem aln_sign (b : Bs) (c : UInt8) (r : Bs) (h : b = c :: r) : alnI ((decodeL b).1 : Int) = alnum c ∧ (alnum c = true → (decodeL b).2 = 1) := by
  have hb := byteAt_zero b c r h
  rcases Nat.lt_or_ge c.toNat 128 with hl | hl
  · have e := decodeL_low b (by omega)
    rw [e, hb]
    refine ⟨?_, fun _ => rfl⟩
    have := alnI_low ⟨c.toNat, hl⟩
    simp only at this
    rw [this]
    congr 1
    exact UInt8.ofNat_toNat
  · have hn : alnum c = false := alnum_high c hl
    rw [hn]
    refine ⟨alnI_high _ ?_, fun h => by cases h⟩
    have hne : b ≠ [] := by rw [h]; simp
    rcases decodeL_rune b hne with h' | h'
    · omega
    · omega

/-- A sign is a given one below 128 just if its first byte is. -/
theorem rune_is (b : Bs) (d : UInt8) (r : Bs) (h : b = d :: r) (x : Nat) (hx : x < 128) : (((decodeL b).1 : Int) == (x : Int)) = (d.toNat == x) := by
  have hb := byteAt_zero b d r h
  rcases Nat.lt_or_ge d.toNat 128 with hl | hl
  · rw [decodeL_low b (by omega), hb]
    rw [Bool.eq_iff_iff]; simp; omega
  · have hne : b ≠ [] := by rw [h]; simp
    have : 128 ≤ (decodeL b).1 := by rcases decodeL_rune b hne with h' | h' <;> omega
    rw [Bool.eq_iff_iff]; simp; omega
theorem sign_low (b : Bs) (d : UInt8) (r : Bs) (h : b = d :: r) (hd : d.toNat < 128) : (decodeL b).2 = 1 := by
  rw [decodeL_low b (by rw [byteAt_zero b d r h]; exact hd)]
/-- The bytes of a sign that begins with a byte from 128 on. -/
theorem sign_high (b : Bs) (d : UInt8) (r : Bs) (h : b = d :: r) (hd : 128 ≤ d.toNat) : ∀ c ∈ b.take (decodeL b).2, 128 ≤ c.toNat := by
  have hne : b ≠ [] := by rw [h]; simp
  have hl := decodeL_len b hne
  intro c hc
  obtain ⟨k, hk, hck⟩ := List.mem_iff_getElem.1 hc
  rw [List.length_take] at hk
  have e : byteAt b k = c.toNat := by
    unfold byteAt
    rw [List.getD_eq_getElem?_getD, List.getElem?_eq_getElem (by omega)]
    rw [← hck, List.getElem_take]; rfl
  rcases Nat.lt_or_ge 1 (decodeL b).2 with h2 | h2
  · rw [← e]; exact decodeL_high b k (by omega) h2
  · have : k = 0 := by omega
    subst this
    rw [← e, byteAt_zero b d r h]; exact hd

theorem quoted_skip (q : UInt8) (hq : q = 34 ∨ q = 96) (x rest : Bs) (hx : ∀ c ∈ x, 128 ≤ c.toNat) : quotedLen q false (x ++ rest) = (quotedLen q false rest).map (· + x.length) := by
  induction x with
  | nil => simp
  | cons d x ih =>
    have hd := hx d (by simp)
    have n1 : ¬ (d == 92 && q == 34) = true := by intro h; simp only [Bool.and_eq_true, beq_iff_eq] at h; rw [h.1] at hd; revert hd; decide
    have n2 : ¬ (d == q) = true := by intro h; simp only [beq_iff_eq] at h; rw [h] at hd; rcases hq with rfl | rfl <;> (revert hd; decide)
    have n3 : ¬ (d == 10 && q != 96) = true := by intro h; simp only [Bool.and_eq_true, beq_iff_eq] at h; rw [h.1] at hd; revert hd; decide
    rw [List.cons_append, quotedLen, if_neg n1, if_neg n2, if_neg n3, ih (fun c hc => hx c (by simp [hc])), Option.map_map]
    congr 1
theorem quoted_skip_true (q : UInt8) (hq : q = 34 ∨ q = 96) (x rest : Bs) (hne : x ≠ []) (hx : ∀ c ∈ x, 128 ≤ c.toNat) : quotedLen q true (x ++ rest) = (quotedLen q false rest).map (· + x.length) := by
  cases x with
  | nil => exact absurd rfl hne
  | cons d x =>
    have hd := hx d (by simp)
    have n3 : ¬ (d == 10) = true := by intro h; simp only [beq_iff_eq] at h; rw [h] at hd; revert hd; decide
    rw [List.cons_append, quotedLen, if_neg n3, quoted_skip q hq x rest (fun c hc => hx c (by simp [hc])), Option.map_map]
    congr 1
/-- A sign that ends nothing is passed over, however many bytes it has. -/
theorem quoted_pass (q : UInt8) (hq : q = 34 ∨ q = 96) (sl : Bool) (b : Bs) (d : UInt8) (r : Bs) (h : b = d :: r) (h10 : d = 10 → sl = false ∧ q = 96) (h92 : sl = false → ¬ (d = 92 ∧ q = 34)) (hdq : sl = false → d ≠ q) :
    quotedLen q sl b = (quotedLen q false (b.drop (decodeL b).2)).map (· + (decodeL b).2) := by
  rcases Nat.lt_or_ge d.toNat 128 with hl | hl
  · rw [sign_low b d r h hl]
    subst h
    rw [List.drop_succ_cons, List.drop_zero]
    cases sl with
    | true =>
      have n : ¬ (d == 10) = true := by intro h; simp only [beq_iff_eq] at h; have := (h10 h).1; cases this
      rw [quotedLen, if_neg n]
    | false =>
      have n1 : ¬ (d == 92 && q == 34) = true := by intro h; simp only [Bool.and_eq_true, beq_iff_eq] at h; exact h92 rfl h
      have n2 : ¬ (d == q) = true := by intro h; simp only [beq_iff_eq] at h; exact hdq rfl h
      have n3 : ¬ (d == 10 && q != 96) = true := by intro h; simp only [Bool.and_eq_true, beq_iff_eq, bne_iff_ne] at h; exact h.2 (h10 h.1).2
      rw [quotedLen, if_neg n1, if_neg n2, if_neg n3]
  · have hne : b ≠ [] := by rw [h]; simp
    have hlen := decodeL_len b hne
    have hx := sign_high b d r h hl
    have e := List.take_append_drop (decodeL b).2 b
    have hxl : (b.take (decodeL b).2).length = (decodeL b).2 := by rw [List.length_take]; omega
    cases sl with
    | false =>
      have := quoted_skip q hq _ (b.drop (decodeL b).2) hx
      rw [e, hxl] at this; exact this
    | true =>
      have := quoted_skip_true q hq _ (b.drop (decodeL b).2) (by intro h0; rw [h0] at hxl; simp at hxl; omega) hx
      rw [e, hxl] at this; exact this
end Go.Proofs.YtehflgllfkkfoaaDoor
