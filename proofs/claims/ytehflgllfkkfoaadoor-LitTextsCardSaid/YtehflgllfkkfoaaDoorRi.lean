/- The reference's 'Sign' and 'Wrong' of chapter 01. -/
import Derived.Test.YtehflgllfkkfoaaDoorRg
set_option linter.unusedVariables false
set_option linter.unusedSimpArgs false
namespace Go.Proofs.YtehflgllfkkfoaaDoor
open Go.RowKit Go.Proofs.Dm

/-- A sign's number as the reference tells it. -/
def signV (L : Bs) : Int := if decodeL L = (65533, 1) then -1 else ((decodeL L).1 : Int)
/-- What the rounds gather. -/
def gath (off : Nat) (L : Bs) : Nat → Int
  | 0 => 0
  | 1 => (byteAt L 0 : Int) - off
  | k + 2 => 64 * gath off L (k + 1) + (byteAt L (k + 1) : Int) - 128
def midB (L : Bs) (k : Nat) : Bool := decide (128 ≤ byteAt L k) && decide (byteAt L k ≤ 191)
theorem cont_mid (L : Bs) (k : Nat) (h : k < L.length) : cont L k = midB L k := by
  unfold cont midB
  rw [Bool.eq_iff_iff]
  simp [h]; omega
theorem decX {L : Bs} (h : (128 ≤ byteAt L 0 ∧ byteAt L 0 ≤ 193) ∨ 245 ≤ byteAt L 0) (h2 : byteAt L 0 ≤ 255) : decodeL L = (65533, 1) := by
  unfold decodeL
  rw [if_neg (by omega)]
  by_cases h1 : (byteAt L 0 / 32 == 6 && cont L 1) = true
  · rw [if_pos h1]
    simp only [Bool.and_eq_true, beq_iff_eq] at h1
    rw [if_neg (by omega)]
  rw [if_neg h1]
  by_cases h2 : (byteAt L 0 / 16 == 14 && cont L 1 && cont L 2) = true
  · simp only [Bool.and_eq_true, beq_iff_eq] at h2; omega
  rw [if_neg h2]
  by_cases h3 : (byteAt L 0 / 8 == 30 && cont L 1 && cont L 2 && cont L 3) = true
  · rw [if_pos h3]
    simp only [Bool.and_eq_true, beq_iff_eq] at h3
    rw [if_neg]
    simp only [validR, Bool.and_eq_true, Bool.or_eq_true, decide_eq_true_eq]
    omega
  rw [if_neg h3]
theorem dec2 {L : Bs} (h : 194 ≤ byteAt L 0) (h' : byteAt L 0 ≤ 223) : decodeL L = if cont L 1 = true then ((byteAt L 0 - 192) * 64 + byteAt L 1 % 64, 2) else (65533, 1) := by
  unfold decodeL
  rw [if_neg (by omega)]
  by_cases h1 : cont L 1 = true
  · have e : (byteAt L 0 / 32 == 6 && cont L 1) = true := by rw [h1, Bool.and_true, beq_iff_eq]; omega
    rw [if_pos e, if_pos (by omega), if_pos h1, show byteAt L 0 % 32 = byteAt L 0 - 192 from by omega]
  · have e : ¬ (byteAt L 0 / 32 == 6 && cont L 1) = true := by simp [h1]
    have e2 : ¬ (byteAt L 0 / 16 == 14 && cont L 1 && cont L 2) = true := by simp [h1]
    have e3 : ¬ (byteAt L 0 / 8 == 30 && cont L 1 && cont L 2 && cont L 3) = true := by simp [h1]
    rw [if_neg e, if_neg e2, if_neg e3, if_neg h1]
theorem dec3 {L : Bs} (h : 224 ≤ byteAt L 0) (h' : byteAt L 0 ≤ 239) : decodeL L = if cont L 1 = true ∧ cont L 2 = true ∧ 2048 ≤ (byteAt L 0 - 224) * 4096 + (byteAt L 1 % 64) * 64 + byteAt L 2 % 64 ∧ validR ((byteAt L 0 - 224) * 4096 + (byteAt L 1 % 64) * 64 + byteAt L 2 % 64) = true
    then ((byteAt L 0 - 224) * 4096 + (byteAt L 1 % 64) * 64 + byteAt L 2 % 64, 3) else (65533, 1) := by
  unfold decodeL
  rw [if_neg (by omega)]
  have e : ¬ (byteAt L 0 / 32 == 6 && cont L 1) = true := by simp only [Bool.and_eq_true, beq_iff_eq]; omega
  rw [if_neg e, show byteAt L 0 % 16 = byteAt L 0 - 224 from by omega]
  by_cases h1 : cont L 1 = true ∧ cont L 2 = true
  · have e2 : (byteAt L 0 / 16 == 14 && cont L 1 && cont L 2) = true := by rw [h1.1, h1.2]; simp; omega
    rw [if_pos e2]
    by_cases h2 : 2048 ≤ (byteAt L 0 - 224) * 4096 + (byteAt L 1 % 64) * 64 + byteAt L 2 % 64 ∧ validR ((byteAt L 0 - 224) * 4096 + (byteAt L 1 % 64) * 64 + byteAt L 2 % 64) = true
    · rw [if_pos (by simp [h2.2]; exact h2.1), if_pos ⟨h1.1, h1.2, h2.1, h2.2⟩]
    · rw [if_neg (by simpa using h2), if_neg (fun hh => h2 ⟨hh.2.2.1, hh.2.2.2⟩)]
  · have e2 : ¬ (byteAt L 0 / 16 == 14 && cont L 1 && cont L 2) = true := by
      simp only [Bool.and_eq_true]; exact fun hh => h1 ⟨hh.1.2, hh.2⟩
    have e3 : ¬ (byteAt L 0 / 8 == 30 && cont L 1 && cont L 2 && cont L 3) = true := by
      simp only [Bool.and_eq_true]; exact fun hh => h1 ⟨hh.1.1.2, hh.1.2⟩
    rw [if_neg e2, if_neg e3, if_neg (fun hh => h1 ⟨hh.1, hh.2.1⟩)]
theorem dec4 {L : Bs} (h : 240 ≤ byteAt L 0) (h' : byteAt L 0 ≤ 244) : decodeL L = if cont L 1 = true ∧ cont L 2 = true ∧ cont L 3 = true ∧ 65536 ≤ (byteAt L 0 - 240) * 262144 + (byteAt L 1 % 64) * 4096 + (byteAt L 2 % 64) * 64 + byteAt L 3 % 64 ∧ validR ((byteAt L 0 - 240) * 262144 + (byteAt L 1 % 64) * 4096 + (byteAt L 2 % 64) * 64 + byteAt L 3 % 64) = true
    then ((byteAt L 0 - 240) * 262144 + (byteAt L 1 % 64) * 4096 + (byteAt L 2 % 64) * 64 + byteAt L 3 % 64, 4) else (65533, 1) := by
  unfold decodeL
  rw [if_neg (by omega)]
  have e : ¬ (byteAt L 0 / 32 == 6 && cont L 1) = true := by simp only [Bool.and_eq_true, beq_iff_eq]; omega
  have e2 : ¬ (byteAt L 0 / 16 == 14 && cont L 1 && cont L 2) = true := by simp only [Bool.and_eq_true, beq_iff_eq]; omega
  rw [if_neg e, if_neg e2, show byteAt L 0 % 8 = byteAt L 0 - 240 from by omega]
  by_cases h1 : cont L 1 = true ∧ cont L 2 = true ∧ cont L 3 = true
  · have e3 : (byteAt L 0 / 8 == 30 && cont L 1 && cont L 2 && cont L 3) = true := by rw [h1.1, h1.2.1, h1.2.2]; simp; omega
    rw [if_pos e3]
    by_cases h2 : 65536 ≤ (byteAt L 0 - 240) * 262144 + (byteAt L 1 % 64) * 4096 + (byteAt L 2 % 64) * 64 + byteAt L 3 % 64 ∧ validR ((byteAt L 0 - 240) * 262144 + (byteAt L 1 % 64) * 4096 + (byteAt L 2 % 64) * 64 + byteAt L 3 % 64) = true
    · rw [if_pos (by simp [h2.2]; exact h2.1), if_pos ⟨h1.1, h1.2.1, h1.2.2, h2.1, h2.2⟩]
    · rw [if_neg (by simpa using h2), if_neg (fun hh => h2 ⟨hh.2.2.2.1, hh.2.2.2.2⟩)]
  · have e3 : ¬ (byteAt L 0 / 8 == 30 && cont L 1 && cont L 2 && cont L 3) = true := by
      simp only [Bool.and_eq_true]; exact fun hh => h1 ⟨hh.1.1.2, hh.1.2, hh.2⟩
    rw [if_neg e3, if_neg (fun hh => h1 ⟨hh.1, hh.2.1, hh.2.2.1⟩)]
/-- Of n bytes, from 'off' on, at least 'least': what is gathered decides. -/
structure Cls (L : Bs) (n off least : Nat) : Prop where
  n2 : 2 ≤ n
  n4 : n ≤ 4
  off_le : off ≤ byteAt L 0
  lt : byteAt L 0 < off + 32
  least_le : least ≤ 65536
  least_pos : 0 < least
  bad : ∀ k, 0 < k → k < n → (L.length ≤ k ∨ midB L k = false) → decodeL L = (65533, 1)
  good : n ≤ L.length → (∀ k, 0 < k → k < n → midB L k = true) → decodeL L = if (least : Int) ≤ gath off L n ∧ gath off L n ≤ 1114111 ∧ ¬ (55296 ≤ gath off L n ∧ gath off L n ≤ 57343) then ((gath off L n).toNat, n) else (65533, 1)
theorem mid_of_cont {L : Bs} {k : Nat} (h : cont L k = true) : ¬ (L.length ≤ k ∨ midB L k = false) := by
  have := cont_lt h
  intro hh
  rcases hh with hh | hh
  · omega
  · rw [← cont_mid L k this.1, h] at hh; cases hh
theorem validR_int (v : Nat) : validR v = true ↔ (v : Int) ≤ 1114111 ∧ ¬ (55296 ≤ (v : Int) ∧ (v : Int) ≤ 57343) := by
  simp only [validR, Bool.or_eq_true, Bool.and_eq_true, decide_eq_true_eq]; omega
theorem cls2 {L : Bs} (h : 194 ≤ byteAt L 0) (h' : byteAt L 0 ≤ 223) : Cls L 2 192 128 where
  n2 := by omega
  n4 := by omega
  off_le := by omega
  lt := by omega
  least_le := by omega
  least_pos := by omega
  bad := by
    intro k h0 h1 h2
    obtain rfl : k = 1 := by omega
    rw [dec2 h h', if_neg]
    exact fun hc => mid_of_cont hc h2
  good := by
    intro hl hm
    have m1 := hm 1 (by omega) (by omega)
    have c1 : cont L 1 = true := by rw [cont_mid L 1 (by omega)]; exact m1
    simp only [midB, Bool.and_eq_true, decide_eq_true_eq] at m1
    rw [dec2 h h', if_pos c1]
    have e : gath 192 L 2 = (((byteAt L 0 - 192) * 64 + byteAt L 1 % 64 : Nat) : Int) := by simp only [gath, Nat.reduceAdd]; omega
    rw [e, if_pos (by omega), Int.toNat_natCast]
theorem cls3 {L : Bs} (h : 224 ≤ byteAt L 0) (h' : byteAt L 0 ≤ 239) : Cls L 3 224 2048 where
  n2 := by omega
  n4 := by omega
  off_le := by omega
  lt := by omega
  least_le := by omega
  least_pos := by omega
  bad := by
    intro k h0 h1 h2
    rw [dec3 h h', if_neg]
    intro hc
    have : k = 1 ∨ k = 2 := by omega
    rcases this with rfl | rfl
    · exact mid_of_cont hc.1 h2
    · exact mid_of_cont hc.2.1 h2
  good := by
    intro hl hm
    have m1 := hm 1 (by omega) (by omega)
    have m2 := hm 2 (by omega) (by omega)
    have c1 : cont L 1 = true := by rw [cont_mid L 1 (by omega)]; exact m1
    have c2 : cont L 2 = true := by rw [cont_mid L 2 (by omega)]; exact m2
    simp only [midB, Bool.and_eq_true, decide_eq_true_eq] at m1 m2
    rw [dec3 h h']
    have e : gath 224 L 3 = (((byteAt L 0 - 224) * 4096 + (byteAt L 1 % 64) * 64 + byteAt L 2 % 64 : Nat) : Int) := by simp only [gath, Nat.reduceAdd]; omega
    rw [e]
    generalize hv : (byteAt L 0 - 224) * 4096 + (byteAt L 1 % 64) * 64 + byteAt L 2 % 64 = v
    by_cases hh : 2048 ≤ v ∧ validR v = true
    · have := (validR_int v).1 hh.2
      rw [if_pos ⟨c1, c2, hh.1, hh.2⟩, if_pos ⟨by omega, this.1, this.2⟩, Int.toNat_natCast]
    · rw [if_neg (fun x => hh ⟨x.2.2.1, x.2.2.2⟩), if_neg]
      intro x
      exact hh ⟨by omega, (validR_int v).2 ⟨x.2.1, x.2.2⟩⟩
theorem cls4 {L : Bs} (h : 240 ≤ byteAt L 0) (h' : byteAt L 0 ≤ 244) : Cls L 4 240 65536 where
  n2 := by omega
  n4 := by omega
  off_le := by omega
  lt := by omega
  least_le := by omega
  least_pos := by omega
  bad := by
    intro k h0 h1 h2
    rw [dec4 h h', if_neg]
    intro hc
    have : k = 1 ∨ k = 2 ∨ k = 3 := by omega
    rcases this with rfl | rfl | rfl
    · exact mid_of_cont hc.1 h2
    · exact mid_of_cont hc.2.1 h2
    · exact mid_of_cont hc.2.2.1 h2
  good := by
    intro hl hm
    have m1 := hm 1 (by omega) (by omega)
    have m2 := hm 2 (by omega) (by omega)
    have m3 := hm 3 (by omega) (by omega)
    have c1 : cont L 1 = true := by rw [cont_mid L 1 (by omega)]; exact m1
    have c2 : cont L 2 = true := by rw [cont_mid L 2 (by omega)]; exact m2
    have c3 : cont L 3 = true := by rw [cont_mid L 3 (by omega)]; exact m3
    simp only [midB, Bool.and_eq_true, decide_eq_true_eq] at m1 m2 m3
    rw [dec4 h h']
    have e : gath 240 L 4 = (((byteAt L 0 - 240) * 262144 + (byteAt L 1 % 64) * 4096 + (byteAt L 2 % 64) * 64 + byteAt L 3 % 64 : Nat) : Int) := by simp only [gath, Nat.reduceAdd]; omega
    rw [e]
    generalize hv : (byteAt L 0 - 240) * 262144 + (byteAt L 1 % 64) * 4096 + (byteAt L 2 % 64) * 64 + byteAt L 3 % 64 = v
    by_cases hh : 65536 ≤ v ∧ validR v = true
    · have := (validR_int v).1 hh.2
      rw [if_pos ⟨c1, c2, c3, hh.1, hh.2⟩, if_pos ⟨by omega, this.1, this.2⟩, Int.toNat_natCast]
    · rw [if_neg (fun x => hh ⟨x.2.2.2.1, x.2.2.2.2⟩), if_neg]
      intro x
      exact hh ⟨by omega, (validR_int v).2 ⟨x.2.1, x.2.2⟩⟩
theorem gath_bd {L : Bs} {n off least : Nat} (h : Cls L n off least) (hm : ∀ k, 0 < k → k < n → midB L k = true) : ∀ k, 1 ≤ k → k ≤ n → 0 ≤ gath off L k ∧ gath off L k < 32 * 64 ^ (k - 1) := by
  intro k
  induction k with
  | zero => intro h; omega
  | succ k ih =>
    intro _ hk
    cases k with
    | zero =>
      have := h.off_le
      have := h.lt
      simp only [gath]; omega
    | succ k =>
      have := ih (by omega) (by omega)
      have hmk := hm (k + 1) (by omega) (by omega)
      simp only [midB, Bool.and_eq_true, decide_eq_true_eq] at hmk
      simp only [gath]
      have e : (64 : Int) ^ (k + 1 + 1 - 1) = 64 ^ (k + 1 - 1) * 64 := by rw [show k + 1 + 1 - 1 = (k + 1 - 1) + 1 from by omega, Int.pow_succ]
      rw [e]
      omega
theorem signV_low {L : Bs} (h : byteAt L 0 < 128) : signV L = (byteAt L 0 : Int) ∧ (decodeL L).2 = 1 := by
  unfold signV
  rw [decodeL_low L h, if_neg]
  · exact ⟨rfl, rfl⟩
  · intro e; injection e with e _; omega
theorem signV_bad {L : Bs} (h : decodeL L = (65533, 1)) : signV L = -1 ∧ (decodeL L).2 = 1 := by
  unfold signV
  rw [if_pos h, h]; exact ⟨rfl, rfl⟩
end Go.Proofs.YtehflgllfkkfoaaDoor
