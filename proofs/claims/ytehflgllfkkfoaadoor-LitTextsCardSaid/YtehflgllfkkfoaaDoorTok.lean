/- The tokens of a text, as the chapter has them: over lists of bytes, no program in sight. -/
import Init
set_option linter.unusedVariables false
namespace Go.Proofs.Dm
abbrev Bs := List UInt8

def letter (c : UInt8) : Bool := c == 95 || (97 ≤ c && c ≤ 122) || (65 ≤ c && c ≤ 90)
def figure (c : UInt8) : Bool := 48 ≤ c && c ≤ 57
def alnum (c : UInt8) : Bool := letter c || figure c

def words1 : List Bs := [[98, 114, 101, 97, 107], [99, 111, 110, 116, 105, 110, 117, 101], [101, 108, 115, 101], [102, 111, 114], [102, 117, 110, 99], [105, 102], [105, 109, 112, 111, 114, 116], [105, 110, 116, 101, 114, 102, 97, 99, 101], [112, 97, 99, 107, 97, 103, 101], [114, 97, 110, 103, 101], [114, 101, 116, 117, 114, 110], [115, 116, 114, 117, 99, 116], [116, 121, 112, 101], [118, 97, 114]]
def words2 : List Bs := [[99, 97, 115, 101], [99, 104, 97, 110], [99, 111, 110, 115, 116], [100, 101, 102, 97, 117, 108, 116], [100, 101, 102, 101, 114], [102, 97, 108, 108, 116, 104, 114, 111, 117, 103, 104], [103, 111], [103, 111, 116, 111], [109, 97, 112], [115, 101, 108, 101, 99, 116], [115, 119, 105, 116, 99, 104]]
def signs3 : List Bs := [[60, 60, 61], [62, 62, 61], [38, 94, 61], [46, 46, 46]]
def signs2 : List Bs := [[38, 38], [124, 124], [61, 61], [33, 61], [60, 61], [62, 61], [58, 61], [43, 43], [45, 45], [43, 61], [45, 61], [42, 61], [47, 61], [37, 61], [38, 61], [124, 61], [94, 61], [60, 60], [62, 62], [38, 94], [60, 45]]
def signs1 : List Bs := [[43], [45], [42], [47], [37], [38], [124], [94], [60], [62], [61], [33], [40], [41], [91], [93], [123], [125], [44], [59], [46], [58], [126]]
def endWords : List Bs := [[98, 114, 101, 97, 107], [99, 111, 110, 116, 105, 110, 117, 101], [114, 101, 116, 117, 114, 110], [102, 97, 108, 108, 116, 104, 114, 111, 117, 103, 104]]
def endSigns : List Bs := [[43, 43], [45, 45], [41], [93], [125]]

/-- 0: no word; 1: a word of the fragment; 2: another one. -/
def word (s : Bs) : Nat := if s ∈ words1 then 1 else if s ∈ words2 then 2 else 0

/-- How many bytes a text takes behind its first sign; 'sl': a backslash stands ahead. -/
def quotedLen (q : UInt8) : Bool → Bs → Option Nat
  | _, [] => none
  | true, c :: r => if c == 10 then none else (quotedLen q false r).map (· + 1)
  | false, c :: r => if c == 92 && q == 34 then (quotedLen q true r).map (· + 1) else if c == q then some 1 else if c == 10 && q != 96 then none else (quotedLen q false r).map (· + 1)

/-- Where the first '*/' begins. -/
def closeAt : Bs → Option Nat
  | [] => none
  | c :: r => if c == 42 && r.take 1 == [47] then some 0 else (closeAt r).map (· + 1)

def lineLen (r : Bs) : Nat := (r.takeWhile (· != 10)).length

/-- None: no note begins there; some none: one that doesn't end; else how long it is. -/
def noteLen : Bs → Option (Option Nat)
  | 47 :: 47 :: r => some (some (lineLen r + 2))
  | 47 :: 42 :: r => some ((closeAt r).map (· + 4))
  | _ => none

def signLen (r : Bs) : Option Nat :=
  if r.take 3 ∈ signs3 then some 3 else if r.take 2 ∈ signs2 then some 2 else if r.take 1 ∈ signs1 then some 1 else none

/-- What begins a text. -/
inductive Pc where
  | bad
  | nl
  | blank (n : Nat)
  | note (n : Nat)
  | tok (k n : Nat)
  deriving DecidableEq

def span (r : Bs) : Nat := (r.takeWhile alnum).length

def piece (first : Bool) : Bs → Pc
  | [] => .bad
  | c :: r =>
    if first && (c :: r).take 3 == [239, 187, 191] then .blank 3
    else if c == 10 then .nl
    else if c == 32 || c == 9 || c == 13 then .blank 1
    else match noteLen (c :: r) with
      | some (some n) => .note n
      | some none => .bad
      | none =>
        if letter c then .tok (1 + word (c :: r.takeWhile alnum)) (span r + 1)
        else if figure c then .tok 4 (span r + 1)
        else if c == 34 || c == 96 then (match quotedLen c false r with | none => .bad | some n => .tok 5 (n + 1))
        else match signLen (c :: r) with | none => .bad | some n => .tok 6 n

structure Tk where
  kind : Nat
  text : Bs
  pos : Nat
  deriving DecidableEq

def endsT (k : Nat) (t : Bs) : Bool := k == 1 || k == 4 || k == 5 || ((k == 2 || k == 3) && decide (t ∈ endWords)) || (k == 6 && decide (t ∈ endSigns))
def ends (l : List Tk) : Bool := match l.getLast? with | none => false | some t => endsT t.kind t.text
def line (l : List Tk) (at_ : Nat) : List Tk := if ends l then l ++ [⟨6, [10], at_⟩] else l

def scanL : Nat → Bs → Nat → List Tk → List Tk → Except Nat (List Tk × List Tk)
  | _, [], p, l, ns => .ok (line l p, ns)
  | 0, _ :: _, p, _, _ => .error p
  | f + 1, c :: r, p, l, ns =>
    match piece (p == 0) (c :: r) with
    | .bad => .error p
    | .nl => scanL f r (p + 1) (line l p) ns
    | .blank n => scanL f ((c :: r).drop n) (p + n) l ns
    | .note n => scanL f ((c :: r).drop n) (p + n) (if 10 ∈ (c :: r).take n then line l p else l) (ns ++ [⟨0, (c :: r).take n, p⟩])
    | .tok k n => scanL f ((c :: r).drop n) (p + n) (l ++ [⟨k, (c :: r).take n, p⟩]) ns

/-! ### what begins a text takes at least a byte, and no more than there are -/
theorem quotedLen_le (q : UInt8) (r : Bs) : ∀ (sl : Bool) (n : Nat), quotedLen q sl r = some n → 1 ≤ n ∧ n ≤ r.length := by
  induction r with
  | nil => intro sl n h; cases sl <;> simp [quotedLen] at h
  | cons c r ih =>
    intro sl n h
    cases sl with
    | true =>
      simp only [quotedLen] at h
      split at h
      · cases h
      · obtain ⟨m, hm, rfl⟩ := Option.map_eq_some_iff.1 h
        have := ih _ _ hm
        simp only [List.length_cons]; omega
    | false =>
      simp only [quotedLen] at h
      split at h
      · obtain ⟨m, hm, rfl⟩ := Option.map_eq_some_iff.1 h
        have := ih _ _ hm
        simp only [List.length_cons]; omega
      · split at h
        · cases h; simp
        · split at h
          · cases h
          · obtain ⟨m, hm, rfl⟩ := Option.map_eq_some_iff.1 h
            have := ih _ _ hm
            simp only [List.length_cons]; omega

theorem closeAt_le (r : Bs) : ∀ n, closeAt r = some n → n + 2 ≤ r.length := by
  induction r with
  | nil => intro n h; simp [closeAt] at h
  | cons c r ih =>
    intro n h
    simp only [closeAt] at h
    split at h
    · rename_i hc
      cases h
      cases r with
      | nil => simp at hc
      | cons d r => simp
    · obtain ⟨m, hm, rfl⟩ := Option.map_eq_some_iff.1 h
      have := ih _ hm
      simp only [List.length_cons]; omega

theorem takeWhile_le {α : Type} (p : α → Bool) (l : List α) : (l.takeWhile p).length ≤ l.length := (List.takeWhile_sublist p).length_le
theorem lineLen_le (r : Bs) : lineLen r ≤ r.length := takeWhile_le ..
theorem span_le (r : Bs) : span r ≤ r.length := takeWhile_le ..

theorem noteLen_le (r : Bs) (n : Nat) (h : noteLen r = some (some n)) : 2 ≤ n ∧ n ≤ r.length := by
  unfold noteLen at h
  split at h
  · rename_i r
    injection h with h
    injection h with h
    subst h
    have := lineLen_le r
    simp; omega
  · rename_i r
    injection h with h
    obtain ⟨m, hm, rfl⟩ := Option.map_eq_some_iff.1 h
    have := closeAt_le r _ hm
    simp; omega
  · cases h

theorem len3 : ∀ s ∈ signs3, s.length = 3 := by decide
theorem len2 : ∀ s ∈ signs2, s.length = 2 := by decide
theorem len1 : ∀ s ∈ signs1, s.length = 1 := by decide
theorem signLen_le (r : Bs) (n : Nat) (h : signLen r = some n) : 1 ≤ n ∧ n ≤ r.length := by
  unfold signLen at h
  split at h
  · rename_i hm; have := len3 _ hm; cases h; rw [List.length_take] at this; omega
  · split at h
    · rename_i hm; have := len2 _ hm; cases h; rw [List.length_take] at this; omega
    · split at h
      · rename_i hm; have := len1 _ hm; cases h; rw [List.length_take] at this; omega
      · cases h

/-- What a piece takes. -/
def Pc.len : Pc → Nat
  | .bad => 0
  | .nl => 1
  | .blank n | .note n | .tok _ n => n

theorem piece_len (f : Bool) (b : Bs) (h : piece f b ≠ .bad) : 1 ≤ (piece f b).len ∧ (piece f b).len ≤ b.length := by
  cases b with
  | nil => simp [piece] at h
  | cons c r =>
    simp only [piece] at h ⊢
    split
    · rename_i hm
      simp only [Bool.and_eq_true, beq_iff_eq] at hm
      have := congrArg List.length hm.2
      simp only [List.length_take, List.length_cons, List.length_nil] at this
      simp only [Pc.len, List.length_cons]; omega
    · rename_i h0
      rw [if_neg h0] at h
      split
      · simp [Pc.len]
      · rename_i h1
        rw [if_neg h1] at h
        split
        · simp [Pc.len]
        · rename_i h2
          rw [if_neg h2] at h
          split
          · rename_i n hn
            have := noteLen_le _ _ hn
            simp only [Pc.len]; omega
          · rename_i hn; rw [hn] at h; simp at h
          · rename_i hn
            rw [hn] at h
            have hs := span_le r
            simp only at h
            split
            · simp [Pc.len]; omega
            · rename_i h3
              rw [if_neg h3] at h
              split
              · simp [Pc.len]; omega
              · rename_i h4
                rw [if_neg h4] at h
                split
                · rename_i h5
                  rw [if_pos h5] at h
                  split
                  · rename_i hq; rw [hq] at h; simp at h
                  · rename_i n hq
                    have := quotedLen_le _ _ _ _ hq
                    simp [Pc.len]; omega
                · rename_i h5
                  rw [if_neg h5] at h
                  split
                  · rename_i hq; rw [hq] at h; simp at h
                  · rename_i n hq
                    have := signLen_le _ _ hq
                    simp only [Pc.len]; omega

/-- A piece may take no more rounds than there are bytes. -/
theorem scanL_fuel (n : Nat) : ∀ (m f : Nat) (b : Bs) (p : Nat) (l ns : List Tk), b.length ≤ n → n ≤ f → n ≤ m → scanL f b p l ns = scanL m b p l ns := by
  induction n with
  | zero =>
    intro m f b p l ns hb _ _
    obtain rfl : b = [] := List.eq_nil_of_length_eq_zero (by omega)
    cases m <;> cases f <;> rfl
  | succ n ih =>
    intro m f b p l ns hb hf hm
    cases b with
    | nil => cases m <;> cases f <;> rfl
    | cons c r =>
      obtain ⟨f, rfl⟩ : ∃ k, f = k + 1 := ⟨f - 1, by omega⟩
      obtain ⟨m, rfl⟩ : ∃ k, m = k + 1 := ⟨m - 1, by omega⟩
      have hp := piece_len (p == 0) (c :: r)
      simp only [scanL]
      simp only [List.length_cons] at hb hp
      split
      · rfl
      · exact ih _ _ _ _ _ _ (by omega) (by omega) (by omega)
      · rename_i k hk
        rw [hk] at hp
        have := hp (by simp)
        simp only [Pc.len] at this
        exact ih _ _ _ _ _ _ (by simp only [List.length_drop, List.length_cons]; omega) (by omega) (by omega)
      · rename_i k hk
        rw [hk] at hp
        have := hp (by simp)
        simp only [Pc.len] at this
        exact ih _ _ _ _ _ _ (by simp only [List.length_drop, List.length_cons]; omega) (by omega) (by omega)
      · rename_i k n' hk
        rw [hk] at hp
        have := hp (by simp)
        simp only [Pc.len] at this
        exact ih _ _ _ _ _ _ (by simp only [List.length_drop, List.length_cons]; omega) (by omega) (by omega)

/-! ### signs of UTF-8 -/
def byteAt (b : Bs) (k : Nat) : Nat := (b.getD k 0).toNat
def cont (b : Bs) (k : Nat) : Bool := decide (k < b.length) && byteAt b k / 64 == 2
def validR (c : Nat) : Bool := decide (c < 55296) || (decide (57344 ≤ c) && decide (c ≤ 1114111))
def decodeL (b : Bs) : Nat × Nat :=
  if byteAt b 0 < 128 then (byteAt b 0, 1)
  else if byteAt b 0 / 32 == 6 && cont b 1 then
    if (byteAt b 0 % 32) * 64 + byteAt b 1 % 64 ≥ 128 then ((byteAt b 0 % 32) * 64 + byteAt b 1 % 64, 2) else (65533, 1)
  else if byteAt b 0 / 16 == 14 && cont b 1 && cont b 2 then
    if (byteAt b 0 % 16) * 4096 + (byteAt b 1 % 64) * 64 + byteAt b 2 % 64 ≥ 2048 && validR ((byteAt b 0 % 16) * 4096 + (byteAt b 1 % 64) * 64 + byteAt b 2 % 64)
    then ((byteAt b 0 % 16) * 4096 + (byteAt b 1 % 64) * 64 + byteAt b 2 % 64, 3) else (65533, 1)
  else if byteAt b 0 / 8 == 30 && cont b 1 && cont b 2 && cont b 3 then
    if (byteAt b 0 % 8) * 262144 + (byteAt b 1 % 64) * 4096 + (byteAt b 2 % 64) * 64 + byteAt b 3 % 64 ≥ 65536 &&
      validR ((byteAt b 0 % 8) * 262144 + (byteAt b 1 % 64) * 4096 + (byteAt b 2 % 64) * 64 + byteAt b 3 % 64)
    then ((byteAt b 0 % 8) * 262144 + (byteAt b 1 % 64) * 4096 + (byteAt b 2 % 64) * 64 + byteAt b 3 % 64, 4) else (65533, 1)
  else (65533, 1)

/-- What a sign's bytes are like: the outcomes of decodeL. -/
theorem decodeL_cases (b : Bs) : decodeL b = (65533, 1) ∨ (byteAt b 0 < 128 ∧ decodeL b = (byteAt b 0, 1)) ∨
    (128 ≤ byteAt b 0 ∧ byteAt b 0 / 32 = 6 ∧ cont b 1 = true ∧ decodeL b = ((byteAt b 0 % 32) * 64 + byteAt b 1 % 64, 2)) ∨
    (128 ≤ byteAt b 0 ∧ byteAt b 0 / 16 = 14 ∧ cont b 1 = true ∧ cont b 2 = true ∧ decodeL b = ((byteAt b 0 % 16) * 4096 + (byteAt b 1 % 64) * 64 + byteAt b 2 % 64, 3)) ∨
    (128 ≤ byteAt b 0 ∧ byteAt b 0 / 8 = 30 ∧ cont b 1 = true ∧ cont b 2 = true ∧ cont b 3 = true ∧ decodeL b = ((byteAt b 0 % 8) * 262144 + (byteAt b 1 % 64) * 4096 + (byteAt b 2 % 64) * 64 + byteAt b 3 % 64, 4)) := by
  unfold decodeL
  by_cases h0 : byteAt b 0 < 128
  · rw [if_pos h0]; exact .inr (.inl ⟨h0, rfl⟩)
  rw [if_neg h0]
  by_cases h1 : (byteAt b 0 / 32 == 6 && cont b 1) = true
  · rw [if_pos h1]
    simp only [Bool.and_eq_true, beq_iff_eq] at h1
    split
    · exact .inr (.inr (.inl ⟨by omega, h1.1, h1.2, rfl⟩))
    · exact .inl rfl
  rw [if_neg h1]
  by_cases h2 : (byteAt b 0 / 16 == 14 && cont b 1 && cont b 2) = true
  · rw [if_pos h2]
    simp only [Bool.and_eq_true, beq_iff_eq] at h2
    split
    · exact .inr (.inr (.inr (.inl ⟨by omega, h2.1.1, h2.1.2, h2.2, rfl⟩)))
    · exact .inl rfl
  rw [if_neg h2]
  by_cases h3 : (byteAt b 0 / 8 == 30 && cont b 1 && cont b 2 && cont b 3) = true
  · rw [if_pos h3]
    simp only [Bool.and_eq_true, beq_iff_eq] at h3
    split
    · exact .inr (.inr (.inr (.inr ⟨by omega, h3.1.1.1, h3.1.1.2, h3.1.2, h3.2, rfl⟩)))
    · exact .inl rfl
  rw [if_neg h3]
  exact .inl rfl

theorem cont_lt {b : Bs} {k : Nat} (h : cont b k = true) : k < b.length ∧ 128 ≤ byteAt b k := by
  simp only [cont, Bool.and_eq_true, decide_eq_true_eq, beq_iff_eq] at h
  omega
theorem byte_ne (b : Bs) (h : 128 ≤ byteAt b 0) : 0 < b.length := by
  rcases Nat.eq_zero_or_pos b.length with h0 | h0
  · have := List.eq_nil_of_length_eq_zero h0
    subst this
    simp [byteAt] at h
  · exact h0
theorem decodeL_len (b : Bs) (hb : b ≠ []) : 1 ≤ (decodeL b).2 ∧ (decodeL b).2 ≤ b.length ∧ (decodeL b).2 ≤ 4 := by
  have h0 := List.length_pos_iff.2 hb
  rcases decodeL_cases b with h | ⟨_, h⟩ | ⟨_, _, h1, h⟩ | ⟨_, _, _, h2, h⟩ | ⟨_, _, _, _, h3, h⟩
  · rw [h]; simp only; omega
  · rw [h]; simp only; omega
  · rw [h]; have := cont_lt h1; simp only; omega
  · rw [h]; have := cont_lt h2; simp only; omega
  · rw [h]; have := cont_lt h3; simp only; omega
/-- All bytes of a sign of several bytes are 128 or more. -/
theorem decodeL_high (b : Bs) (k : Nat) (hk : k < (decodeL b).2) (h2 : 2 ≤ (decodeL b).2) : 128 ≤ byteAt b k := by
  rcases decodeL_cases b with h | ⟨_, h⟩ | ⟨h0, _, h1, h⟩ | ⟨h0, _, h1, h2, h⟩ | ⟨h0, _, h1, h2, h3, h⟩
  · rw [h] at h2; simp at h2
  · rw [h] at h2; simp at h2
  · rw [h] at hk; simp only at hk
    have := cont_lt h1
    rcases (by omega : k = 0 ∨ k = 1) with rfl | rfl <;> omega
  · rw [h] at hk; simp only at hk
    have := cont_lt h1; have := cont_lt h2
    rcases (by omega : k = 0 ∨ k = 1 ∨ k = 2) with rfl | rfl | rfl <;> omega
  · rw [h] at hk; simp only at hk
    have := cont_lt h1; have := cont_lt h2; have := cont_lt h3
    rcases (by omega : k = 0 ∨ k = 1 ∨ k = 2 ∨ k = 3) with rfl | rfl | rfl | rfl <;> omega
/-- A sign's rune is below 128 just where its first byte is, and then it is that byte alone. -/
theorem decodeL_low (b : Bs) (h : byteAt b 0 < 128) : decodeL b = (byteAt b 0, 1) := by unfold decodeL; rw [if_pos h]

theorem byteAt_of_take {a b : Bs} {n k : Nat} (h : a.take n = b.take n) (hk : k < n) : byteAt a k = byteAt b k := by
  have := congrArg (fun l : Bs => l[k]?) h
  simp only [List.getElem?_take, hk, if_true] at this
  simp [byteAt, List.getD_eq_getElem?_getD, this]
theorem cont_of_take {a b : Bs} {n k : Nat} (h : a.take n = b.take n) (hk : k < n) (ha : n ≤ a.length) (hb : n ≤ b.length) : cont a k = cont b k := by
  unfold cont
  rw [byteAt_of_take h hk]
  have e1 : decide (k < a.length) = true := by simp; omega
  have e2 : decide (k < b.length) = true := by simp; omega
  rw [e1, e2]
/-- A sign that is one hangs on its own bytes alone. -/
theorem decodeL_local {a b : Bs} (hok : decodeL b ≠ (65533, 1)) (hb : b ≠ []) (h : a.take (decodeL b).2 = b.take (decodeL b).2) (ha : (decodeL b).2 ≤ a.length) : decodeL a = decodeL b := by
  have hl := (decodeL_len b hb).2.1
  rcases decodeL_cases b with e | ⟨h0, e⟩ | ⟨h0, h1, c1, e⟩ | ⟨h0, h1, c1, c2, e⟩ | ⟨h0, h1, c1, c2, c3, e⟩
  · exact absurd e hok
  · rw [e] at h
    have e0 := byteAt_of_take (k := 0) h (by simp)
    rw [decodeL_low a (by omega), e, e0]
  · have hn : (decodeL b).2 = 2 := by rw [e]
    rw [hn] at h ha hl
    have e0 := byteAt_of_take (k := 0) h (by omega)
    have e1 := byteAt_of_take (k := 1) h (by omega)
    have f1 := cont_of_take (k := 1) h (by omega) ha hl
    have hu : decodeL b = if (byteAt b 0 % 32) * 64 + byteAt b 1 % 64 ≥ 128 then ((byteAt b 0 % 32) * 64 + byteAt b 1 % 64, 2) else (65533, 1) := by
      unfold decodeL; rw [if_neg (by omega), if_pos (by simp [h1, c1])]
    have hv : decodeL a = if (byteAt b 0 % 32) * 64 + byteAt b 1 % 64 ≥ 128 then ((byteAt b 0 % 32) * 64 + byteAt b 1 % 64, 2) else (65533, 1) := by
      unfold decodeL; rw [e0, e1, f1, if_neg (by omega), if_pos (by simp [h1, c1])]
    rw [hu, hv]
  · have hn : (decodeL b).2 = 3 := by rw [e]
    rw [hn] at h ha hl
    have e0 := byteAt_of_take (k := 0) h (by omega)
    have e1 := byteAt_of_take (k := 1) h (by omega)
    have e2 := byteAt_of_take (k := 2) h (by omega)
    have f1 := cont_of_take (k := 1) h (by omega) ha hl
    have f2 := cont_of_take (k := 2) h (by omega) ha hl
    unfold decodeL
    rw [e0, e1, e2, f1, f2]
    have hne : ¬ (byteAt b 0 / 32 == 6 && cont b 1) = true := by simp only [Bool.and_eq_true, beq_iff_eq]; omega
    rw [if_neg hne, if_neg hne]
    have hp : (byteAt b 0 / 16 == 14 && cont b 1 && cont b 2) = true := by simp [h1, c1, c2]
    rw [if_pos hp, if_pos hp]
  · have hn : (decodeL b).2 = 4 := by rw [e]
    rw [hn] at h ha hl
    have e0 := byteAt_of_take (k := 0) h (by omega)
    have e1 := byteAt_of_take (k := 1) h (by omega)
    have e2 := byteAt_of_take (k := 2) h (by omega)
    have e3 := byteAt_of_take (k := 3) h (by omega)
    have f1 := cont_of_take (k := 1) h (by omega) ha hl
    have f2 := cont_of_take (k := 2) h (by omega) ha hl
    have f3 := cont_of_take (k := 3) h (by omega) ha hl
    unfold decodeL
    rw [e0, e1, e2, e3, f1, f2, f3]

/-- The rune of a sign that begins with a byte from 128 on is 128 or more. -/
theorem decodeL_rune (b : Bs) (hb : b ≠ []) : byteAt b 0 < 128 ∨ 128 ≤ (decodeL b).1 := by
  unfold decodeL
  by_cases h0 : byteAt b 0 < 128
  · exact .inl h0
  right
  rw [if_neg h0]
  split
  · split
    · rename_i h; simp only; omega
    · decide
  · split
    · split
      · rename_i h; simp only [Bool.and_eq_true, decide_eq_true_eq] at h; simp only; omega
      · decide
    · split
      · split
        · rename_i h; simp only [Bool.and_eq_true, decide_eq_true_eq] at h; simp only; omega
        · decide
      · decide

/-! ### texts: signs, none of them 0, or wrong, or FEFF -/
def badSign (x : Nat × Nat) : Bool := x.1 == 0 || (x.1 == 65533 && x.2 == 1)
theorem badSign_ne {x : Nat × Nat} (h : badSign x = false) : x ≠ (65533, 1) := by rintro rfl; simp [badSign] at h
inductive Good : Bs → Prop where
  | nil : Good []
  | step (b : Bs) : b ≠ [] → badSign (decodeL b) = false → (decodeL b).1 ≠ 65279 → Good (b.drop (decodeL b).2) → Good b
def wrongL : Nat → Bs → Nat → Option Nat
  | _, [], _ => none
  | 0, _ :: _, p => some p
  | f + 1, c :: r, p => if badSign (decodeL (c :: r)) || ((decodeL (c :: r)).1 == 65279 && decide (0 < p)) then some p else wrongL f ((c :: r).drop (decodeL (c :: r)).2) (p + (decodeL (c :: r)).2)

theorem good_of_wrong (f : Nat) : ∀ (b : Bs) (p : Nat), 0 < p → wrongL f b p = none → Good b := by
  induction f with
  | zero =>
    intro b p hp h
    cases b with
    | nil => exact .nil
    | cons c r => simp [wrongL] at h
  | succ f ih =>
    intro b p hp h
    cases b with
    | nil => exact .nil
    | cons c r =>
      simp only [wrongL] at h
      split at h
      · cases h
      · rename_i hc
        simp only [Bool.or_eq_true, Bool.and_eq_true, beq_iff_eq, decide_eq_true_eq, not_or, not_and] at hc
        exact .step _ (by simp) (by simpa using hc.1) (fun e => hc.2 e hp) (ih _ _ (by omega) h)
theorem wrong_of_good {b : Bs} (h : Good b) : ∀ (f p : Nat), b.length ≤ f → wrongL f b p = none := by
  induction h with
  | nil => intro f p _; cases f <;> rfl
  | step b hb h1 h2 _ ih =>
    intro f p hf
    cases b with
    | nil => cases f <;> rfl
    | cons c r =>
      obtain ⟨f, rfl⟩ : ∃ k, f = k + 1 := ⟨f - 1, by simp only [List.length_cons] at hf; omega⟩
      have hl := decodeL_len (c :: r) hb
      simp only [wrongL]
      rw [if_neg (by simp [h1, h2])]
      exact ih _ _ (by simp only [List.length_drop]; omega)
theorem Good.append {a b : Bs} (ha : Good a) (hb : Good b) : Good (a ++ b) := by
  induction ha with
  | nil => exact hb
  | step a h0 h1 h2 _ ih =>
    have hl := decodeL_len a h0
    have e : decodeL (a ++ b) = decodeL a := decodeL_local (badSign_ne h1) h0 (by rw [List.take_append_of_le_length hl.2.1]) (by rw [List.length_append]; omega)
    exact .step _ (by simp [h0]) (by rw [e]; exact h1) (by rw [e]; exact h2) (by rw [e, List.drop_append_of_le_length hl.2.1]; exact ih)
theorem Good.low {c : UInt8} {b : Bs} (h0 : c.toNat ≠ 0) (h1 : c.toNat < 128) (hb : Good b) : Good (c :: b) := by
  have e : decodeL (c :: b) = (c.toNat, 1) := decodeL_low _ h1
  exact .step _ (by simp) (by rw [e]; simp [badSign, h0]; omega) (by rw [e]; simp; omega) (by rw [e]; exact hb)
theorem good_low (b : Bs) (h : ∀ c ∈ b, c.toNat ≠ 0 ∧ c.toNat < 128) : Good b := by
  induction b with
  | nil => exact .nil
  | cons c r ih => exact .low (h c (by simp)).1 (h c (by simp)).2 (ih fun d hd => h d (by simp [hd]))
/-- A text may be cut behind a byte below 128. -/
theorem Good.cut {a : Bs} {c : UInt8} {b : Bs} (hc : c.toNat < 128) (h : Good (a ++ c :: b)) : Good (a ++ [c]) ∧ Good b := by
  generalize hx : a ++ c :: b = x at h
  induction h generalizing a with
  | nil => simp at hx
  | step x h0 h1 h2 h3 ih =>
    subst hx
    have hl := decodeL_len _ h0
    cases a with
    | nil =>
      have e : decodeL (c :: b) = (c.toNat, 1) := decodeL_low _ hc
      simp only [List.nil_append] at h1 h2 h3 ⊢
      rw [e] at h1 h2 h3
      exact ⟨.low (by intro h; simp [badSign, h] at h1) hc .nil, h3⟩
    | cons d a =>
      have hn : (decodeL (d :: a ++ c :: b)).2 ≤ (d :: a).length := by
        rcases Nat.lt_or_ge (d :: a).length (decodeL (d :: a ++ c :: b)).2 with h | h
        · have := decodeL_high (d :: a ++ c :: b) (d :: a).length h (by simp only [List.length_cons] at h; omega)
          have e : byteAt (d :: a ++ c :: b) (d :: a).length = c.toNat := by simp [byteAt, List.getD_eq_getElem?_getD]
          omega
        · exact h
      have e : decodeL (d :: a ++ [c]) = decodeL (d :: a ++ c :: b) :=
        decodeL_local (badSign_ne h1) h0 (by rw [List.take_append_of_le_length hn, List.take_append_of_le_length hn]) (by rw [List.length_append]; omega)
      obtain ⟨i1, i2⟩ := ih (a := (d :: a).drop (decodeL (d :: a ++ c :: b)).2) (by rw [List.drop_append_of_le_length hn])
      exact ⟨.step _ (by simp) (by rw [e]; exact h1) (by rw [e]; exact h2) (by rw [e, List.drop_append_of_le_length hn]; exact i1), i2⟩
theorem Good.tail {c : UInt8} {b : Bs} (hc : c.toNat < 128) (h : Good (c :: b)) : Good b := (Good.cut (a := []) hc h).2

/-! ### tokens that are written with blanks between -/
theorem quotedLen_more (q : UInt8) (r x : Bs) : ∀ (sl : Bool) (n : Nat), quotedLen q sl r = some n → quotedLen q sl (r.take n ++ x) = some n := by
  induction r with
  | nil => intro sl n h; cases sl <;> simp [quotedLen] at h
  | cons c r ih =>
    intro sl n h
    cases sl with
    | true =>
      simp only [quotedLen] at h
      by_cases h1 : (c == 10) = true
      · rw [if_pos h1] at h; cases h
      · rw [if_neg h1] at h
        obtain ⟨m, hm, rfl⟩ := Option.map_eq_some_iff.1 h
        rw [List.take_succ_cons, List.cons_append, quotedLen, if_neg h1, ih _ _ hm]; rfl
    | false =>
      simp only [quotedLen] at h
      by_cases h1 : (c == 92 && q == 34) = true
      · rw [if_pos h1] at h
        obtain ⟨m, hm, rfl⟩ := Option.map_eq_some_iff.1 h
        rw [List.take_succ_cons, List.cons_append, quotedLen, if_pos h1, ih _ _ hm]; rfl
      · rw [if_neg h1] at h
        by_cases h2 : (c == q) = true
        · rw [if_pos h2] at h; cases h
          rw [List.take_succ_cons, List.cons_append, quotedLen, if_neg h1, if_pos h2]
        · rw [if_neg h2] at h
          by_cases h3 : (c == 10 && q != 96) = true
          · rw [if_pos h3] at h; cases h
          · rw [if_neg h3] at h
            obtain ⟨m, hm, rfl⟩ := Option.map_eq_some_iff.1 h
            rw [List.take_succ_cons, List.cons_append, quotedLen, if_neg h1, if_neg h2, if_neg h3, ih _ _ hm]; rfl
/-- A text ends with the sign that it begins with. -/
theorem quotedLen_last (q : UInt8) (r : Bs) : ∀ (sl : Bool) (n : Nat), quotedLen q sl r = some n → ∃ a, r.take n = a ++ [q] := by
  induction r with
  | nil => intro sl n h; cases sl <;> simp [quotedLen] at h
  | cons c r ih =>
    intro sl n h
    cases sl with
    | true =>
      simp only [quotedLen] at h
      by_cases h1 : (c == 10) = true
      · rw [if_pos h1] at h; cases h
      · rw [if_neg h1] at h
        obtain ⟨m, hm, rfl⟩ := Option.map_eq_some_iff.1 h
        obtain ⟨a, ha⟩ := ih _ _ hm
        exact ⟨c :: a, by rw [List.take_succ_cons, ha]; rfl⟩
    | false =>
      simp only [quotedLen] at h
      by_cases h1 : (c == 92 && q == 34) = true
      · rw [if_pos h1] at h
        obtain ⟨m, hm, rfl⟩ := Option.map_eq_some_iff.1 h
        obtain ⟨a, ha⟩ := ih _ _ hm
        exact ⟨c :: a, by rw [List.take_succ_cons, ha]; rfl⟩
      · rw [if_neg h1] at h
        by_cases h2 : (c == q) = true
        · rw [if_pos h2] at h; cases h
          exact ⟨[], by simp at h2; simp [h2]⟩
        · rw [if_neg h2] at h
          by_cases h3 : (c == 10 && q != 96) = true
          · rw [if_pos h3] at h; cases h
          · rw [if_neg h3] at h
            obtain ⟨m, hm, rfl⟩ := Option.map_eq_some_iff.1 h
            obtain ⟨a, ha⟩ := ih _ _ hm
            exact ⟨c :: a, by rw [List.take_succ_cons, ha]; rfl⟩

theorem takeWhile_stop {α : Type} (p : α → Bool) (l x : List α) (c : α) (hc : p c = false) : (l.takeWhile p ++ c :: x).takeWhile p = l.takeWhile p := by
  induction l with
  | nil => simp [hc]
  | cons d l ih =>
    by_cases hd : p d = true
    · simp [hd, ih]
    · simp [hd, hc]
theorem take_span {α : Type} (p : α → Bool) (l : List α) : l.take (l.takeWhile p).length = l.takeWhile p := by
  induction l with
  | nil => rfl
  | cons d l ih =>
    by_cases hd : p d = true
    · simp [hd, ih]
    · simp [hd]

theorem no32_3 : ∀ s ∈ signs3, (32 : UInt8) ∉ s := by decide
theorem no32_2 : ∀ s ∈ signs2, (32 : UInt8) ∉ s := by decide
theorem signLen_more (r x : Bs) (n : Nat) (h : signLen r = some n) : signLen (r.take n ++ 32 :: x) = some n := by
  have hl := signLen_le r n h
  unfold signLen at h
  by_cases h3 : r.take 3 ∈ signs3
  · rw [if_pos h3] at h; cases h
    unfold signLen
    rw [List.take_append_of_le_length (by rw [List.length_take]; omega), List.take_take, if_pos (by simpa using h3)]
  rw [if_neg h3] at h
  by_cases h2 : r.take 2 ∈ signs2
  · rw [if_pos h2] at h; cases h
    unfold signLen
    have e2 : List.take 2 (r.take 2 ++ 32 :: x) = r.take 2 := by rw [List.take_append_of_le_length (by rw [List.length_take]; omega), List.take_take]; rfl
    have e3 : List.take 3 (r.take 2 ++ 32 :: x) = r.take 2 ++ [32] := by
      rw [List.take_append, List.take_take, List.length_take]
      have : 3 - min 2 r.length = 1 := by omega
      rw [this]; rfl
    rw [e3, e2, if_neg (fun hm => no32_3 _ hm (by simp)), if_pos h2]
  rw [if_neg h2] at h
  by_cases h1 : r.take 1 ∈ signs1
  · rw [if_pos h1] at h; cases h
    obtain ⟨c, r', rfl⟩ : ∃ c r', r = c :: r' := by cases r with | nil => simp at hl | cons c r' => exact ⟨c, r', rfl⟩
    unfold signLen
    rw [if_neg (fun hm => no32_3 _ hm (by simp)), if_neg (fun hm => no32_2 _ hm (by simp)), if_pos (by simpa using h1)]
  rw [if_neg h1] at h; cases h

theorem noteLen_none (c : UInt8) (r : Bs) : noteLen (c :: r) = none ↔ ¬(c = 47 ∧ (r.take 1 = [47] ∨ r.take 1 = [42])) := by
  unfold noteLen
  split
  · rename_i heq; injection heq with h1 h2; subst h1; subst h2; simp
  · rename_i heq; injection heq with h1 h2; subst h1; subst h2; simp
  · rename_i h1 h2
    simp only [true_iff]
    rintro ⟨rfl, h | h⟩
    · cases r with
      | nil => simp at h
      | cons d r => simp at h; subst h; exact h1 r rfl
    · cases r with
      | nil => simp at h
      | cons d r => simp at h; subst h; exact h2 r rfl

/-- The pieces that are tokens, by their first byte. -/
inductive IsTok : UInt8 → Bs → Nat → Nat → Prop where
  | name (c r) : letter c = true → IsTok c r (1 + word (c :: r.takeWhile alnum)) (span r + 1)
  | number (c r) : letter c = false → figure c = true → IsTok c r 4 (span r + 1)
  | text (c r n) : c = 34 ∨ c = 96 → quotedLen c false r = some n → IsTok c r 5 (n + 1)
  | sign (c r n) : letter c = false → figure c = false → c ≠ 34 → c ≠ 96 → signLen (c :: r) = some n → IsTok c r 6 n
theorem letter_ne {c : UInt8} (h : letter c = true) : c ≠ 10 ∧ c ≠ 32 ∧ c ≠ 9 ∧ c ≠ 13 ∧ c ≠ 47 ∧ c ≠ 239 ∧ c ≠ 34 ∧ c ≠ 96 := by
  refine ⟨?_, ?_, ?_, ?_, ?_, ?_, ?_, ?_⟩ <;> (rintro rfl; revert h; decide)
theorem figure_ne {c : UInt8} (h : figure c = true) : c ≠ 10 ∧ c ≠ 32 ∧ c ≠ 9 ∧ c ≠ 13 ∧ c ≠ 47 ∧ c ≠ 239 ∧ c ≠ 34 ∧ c ≠ 96 := by
  refine ⟨?_, ?_, ?_, ?_, ?_, ?_, ?_, ?_⟩ <;> (rintro rfl; revert h; decide)
theorem head1 : ∀ s ∈ signs1, ∀ c ∈ s, c.toNat < 128 ∧ c.toNat ≠ 0 ∧ c ≠ 10 ∧ c ≠ 32 ∧ c ≠ 9 ∧ c ≠ 13 ∧ c ≠ 239 := by decide
theorem head2 : ∀ s ∈ signs2, ∀ c ∈ s, c.toNat < 128 ∧ c.toNat ≠ 0 ∧ c ≠ 10 ∧ c ≠ 32 ∧ c ≠ 9 ∧ c ≠ 13 ∧ c ≠ 239 := by decide
theorem head3 : ∀ s ∈ signs3, ∀ c ∈ s, c.toNat < 128 ∧ c.toNat ≠ 0 ∧ c ≠ 10 ∧ c ≠ 32 ∧ c ≠ 9 ∧ c ≠ 13 ∧ c ≠ 239 := by decide
/-- The bytes of a sign. -/
theorem signLen_bytes {r : Bs} {n : Nat} (h : signLen r = some n) : ∀ c ∈ r.take n, c.toNat < 128 ∧ c.toNat ≠ 0 ∧ c ≠ 10 ∧ c ≠ 32 ∧ c ≠ 9 ∧ c ≠ 13 ∧ c ≠ 239 := by
  unfold signLen at h
  by_cases h3 : r.take 3 ∈ signs3
  · rw [if_pos h3] at h; cases h; exact head3 _ h3
  rw [if_neg h3] at h
  by_cases h2 : r.take 2 ∈ signs2
  · rw [if_pos h2] at h; cases h; exact head2 _ h2
  rw [if_neg h2] at h
  by_cases h1 : r.take 1 ∈ signs1
  · rw [if_pos h1] at h; cases h; exact head1 _ h1
  rw [if_neg h1] at h; cases h
theorem isTok_len {c : UInt8} {r : Bs} {k n : Nat} (h : IsTok c r k n) : 1 ≤ n ∧ n ≤ r.length + 1 := by
  cases h with
  | name h => have := span_le r; omega
  | number h => have := span_le r; omega
  | text n h1 h2 => have := quotedLen_le _ _ _ _ h2; omega
  | sign n _ _ _ _ h => have := signLen_le _ _ h; simpa using this
theorem isTok_head {c : UInt8} {r : Bs} {k n : Nat} (h : IsTok c r k n) : c ≠ 10 ∧ c ≠ 32 ∧ c ≠ 9 ∧ c ≠ 13 ∧ c ≠ 239 := by
  cases h with
  | name h => have := letter_ne h; simp_all
  | number _ h => have := figure_ne h; simp_all
  | text n h => rcases h with rfl | rfl <;> decide
  | sign n _ _ _ _ h =>
    have hl := signLen_le _ _ h
    have := signLen_bytes h c (by obtain ⟨m, rfl⟩ : ∃ m, n = m + 1 := ⟨n - 1, by omega⟩; simp)
    simp_all

/-- A piece is a token just if it is one by its first byte, and no note begins there. -/
theorem piece_tok (f : Bool) (c : UInt8) (r : Bs) (k n : Nat) : piece f (c :: r) = .tok k n ↔ IsTok c r k n ∧ noteLen (c :: r) = none := by
  constructor
  · intro h
    simp only [piece] at h
    by_cases h0 : (f && (c :: r).take 3 == [239, 187, 191]) = true
    · rw [if_pos h0] at h; cases h
    rw [if_neg h0] at h
    by_cases h1 : (c == 10) = true
    · rw [if_pos h1] at h; cases h
    rw [if_neg h1] at h
    by_cases h2 : (c == 32 || c == 9 || c == 13) = true
    · rw [if_pos h2] at h; cases h
    rw [if_neg h2] at h
    cases hn : noteLen (c :: r) with
    | some x => rw [hn] at h; cases x <;> simp at h
    | none =>
      rw [hn] at h
      refine ⟨?_, rfl⟩
      simp only at h
      by_cases h3 : letter c = true
      · rw [if_pos h3] at h; injection h with h h'; subst h; subst h'; exact .name c r h3
      rw [if_neg h3] at h
      by_cases h4 : figure c = true
      · rw [if_pos h4] at h; injection h with h h'; subst h; subst h'; exact .number c r (by simpa using h3) h4
      rw [if_neg h4] at h
      by_cases h5 : (c == 34 || c == 96) = true
      · rw [if_pos h5] at h
        simp only [Bool.or_eq_true, beq_iff_eq] at h5
        cases hq : quotedLen c false r with
        | none => rw [hq] at h; cases h
        | some m => rw [hq] at h; injection h with h h'; subst h; subst h'; exact .text c r m h5 hq
      rw [if_neg h5] at h
      simp only [Bool.or_eq_true, beq_iff_eq, not_or] at h5
      cases hq : signLen (c :: r) with
      | none => rw [hq] at h; cases h
      | some m => rw [hq] at h; injection h with h h'; subst h; subst h'; exact .sign c r m (by simpa using h3) (by simpa using h4) h5.1 h5.2 hq
  · rintro ⟨h, hn⟩
    have hh := isTok_head h
    simp only [piece]
    rw [if_neg (by simp [hh]), if_neg (by simp [hh]), if_neg (by simp [hh]), hn]
    cases h with
    | name h => simp only; rw [if_pos h]
    | number h h' => simp only; rw [if_neg (by simp [h]), if_pos h']
    | text m h h' =>
      simp only
      have e1 : letter c = false := by rcases h with rfl | rfl <;> decide
      have e2 : figure c = false := by rcases h with rfl | rfl <;> decide
      rw [if_neg (by simp [e1]), if_neg (by simp [e2]), if_pos (by rcases h with rfl | rfl <;> decide), h']
    | sign m h h' h1 h2 h3 => simp only; rw [if_neg (by simp [h]), if_neg (by simp [h']), if_neg (by simp [h1, h2]), h3]

theorem isTok_more {c : UInt8} {r : Bs} {k n : Nat} (h : IsTok c r k n) (x : Bs) : IsTok c (r.take (n - 1) ++ 32 :: x) k n := by
  cases h with
  | name h =>
    have e := takeWhile_stop alnum r x 32 (by decide)
    have e2 : r.take (span r + 1 - 1) = r.takeWhile alnum := take_span alnum r
    rw [e2]
    have := IsTok.name c (r.takeWhile alnum ++ 32 :: x) h
    unfold span at this
    rw [e] at this
    exact this
  | number h h' =>
    have e := takeWhile_stop alnum r x 32 (by decide)
    have e2 : r.take (span r + 1 - 1) = r.takeWhile alnum := take_span alnum r
    rw [e2]
    have := IsTok.number c (r.takeWhile alnum ++ 32 :: x) h h'
    unfold span at this
    rw [e] at this
    exact this
  | text m h h' => exact .text c _ m h (quotedLen_more _ _ _ _ _ h')
  | sign m h h' h1 h2 h3 =>
    have hl := signLen_le _ _ h3
    obtain ⟨j, rfl⟩ : ∃ j, n = j + 1 := ⟨n - 1, by omega⟩
    have := signLen_more _ x _ h3
    rw [List.take_succ_cons] at this
    exact .sign c _ _ h h' h1 h2 this
theorem tok_more {f : Bool} {b : Bs} {k n : Nat} (h : piece f b = .tok k n) (g : Bool) (x : Bs) : piece g (b.take n ++ 32 :: x) = .tok k n := by
  cases b with
  | nil => simp [piece] at h
  | cons c r =>
    obtain ⟨ht, hn⟩ := (piece_tok f c r k n).1 h
    have hl := isTok_len ht
    obtain ⟨m, rfl⟩ : ∃ j, n = j + 1 := ⟨n - 1, by omega⟩
    rw [List.take_succ_cons, List.cons_append]
    refine (piece_tok g c _ k _).2 ⟨isTok_more ht x, ?_⟩
    rw [noteLen_none] at hn ⊢
    intro h
    apply hn
    refine ⟨h.1, ?_⟩
    have h2 := h.2
    cases m with
    | zero => simp at h2
    | succ m =>
      cases r with
      | nil => simp at h2
      | cons d r => simpa using h2

def joinT (t : Bs) : Bs := if t = [10] then [10] else t ++ [32]
def joinTs (l : List Tk) : Bs := l.flatMap fun t => joinT t.text
def key (t : Tk) : Nat × Bs := (t.kind, t.text)

theorem ends_snoc (l : List Tk) (t : Tk) : ends (l ++ [t]) = endsT t.kind t.text := by simp [ends]
theorem endsT_nl : endsT 6 [10] = false := by decide
theorem alnum_low {c : UInt8} (h : alnum c = true) : c.toNat ≠ 0 ∧ c.toNat < 128 := by
  simp only [alnum, letter, figure, Bool.or_eq_true, Bool.and_eq_true, beq_iff_eq, decide_eq_true_eq, UInt8.le_iff_toNat_le] at h
  rcases h with ((rfl | h) | h) | h
  · decide
  · have : (122 : UInt8).toNat = 122 := rfl
    have : (97 : UInt8).toNat = 97 := rfl
    omega
  · have : (122 : UInt8).toNat = 122 := rfl
    have : (97 : UInt8).toNat = 97 := rfl
    have : (65 : UInt8).toNat = 65 := rfl
    have : (90 : UInt8).toNat = 90 := rfl
    omega
  · have : (48 : UInt8).toNat = 48 := rfl
    have : (57 : UInt8).toNat = 57 := rfl
    omega
theorem letter_low {c : UInt8} (h : letter c = true) : c.toNat ≠ 0 ∧ c.toNat < 128 := alnum_low (by simp [alnum, h])
theorem figure_low {c : UInt8} (h : figure c = true) : c.toNat ≠ 0 ∧ c.toNat < 128 := alnum_low (by simp [alnum, h])
theorem takeWhile_all {α : Type} (p : α → Bool) (l : List α) : ∀ c ∈ l.takeWhile p, p c = true := by
  induction l with
  | nil => simp
  | cons d l ih =>
    intro c hc
    by_cases hd : p d = true
    · simp only [List.takeWhile_cons, hd, if_true, List.mem_cons] at hc
      rcases hc with rfl | hc
      · exact hd
      · exact ih c hc
    · simp [hd] at hc
/-- A token of a text is a text, and so is what stands behind it. -/
theorem good_tok {f : Bool} {b : Bs} {k n : Nat} (h : piece f b = .tok k n) (hb : Good b) : Good (b.take n) ∧ Good (b.drop n) := by
  cases b with
  | nil => simp [piece] at h
  | cons c r =>
    obtain ⟨ht, _⟩ := (piece_tok f c r k n).1 h
    have hl := isTok_len ht
    -- the last byte is below 128
    have hlast : ∃ a d, (c :: r).take n = a ++ [d] ∧ d.toNat < 128 := by
      clear h
      cases ht with
      | name h =>
        have e : (c :: r).take (span r + 1) = c :: r.takeWhile alnum := by rw [List.take_succ_cons]; congr 1; exact take_span alnum r
        rw [e]
        have hall : ∀ d ∈ c :: r.takeWhile alnum, d.toNat < 128 := by
          intro d hd
          rcases List.mem_cons.1 hd with rfl | hd
          · exact (letter_low h).2
          · exact (alnum_low (takeWhile_all _ _ d hd)).2
        exact ⟨(c :: r.takeWhile alnum).dropLast, (c :: r.takeWhile alnum).getLast (by simp), (List.dropLast_concat_getLast (by simp)).symm, hall _ (List.getLast_mem _)⟩
      | number h0 h =>
        have e : (c :: r).take (span r + 1) = c :: r.takeWhile alnum := by rw [List.take_succ_cons]; congr 1; exact take_span alnum r
        rw [e]
        have hall : ∀ d ∈ c :: r.takeWhile alnum, d.toNat < 128 := by
          intro d hd
          rcases List.mem_cons.1 hd with rfl | hd
          · exact (figure_low h).2
          · exact (alnum_low (takeWhile_all _ _ d hd)).2
        exact ⟨(c :: r.takeWhile alnum).dropLast, (c :: r.takeWhile alnum).getLast (by simp), (List.dropLast_concat_getLast (by simp)).symm, hall _ (List.getLast_mem _)⟩
      | text m h h' =>
        obtain ⟨a, ha⟩ := quotedLen_last _ _ _ _ h'
        exact ⟨c :: a, c, by rw [List.take_succ_cons, ha]; rfl, by rcases h with rfl | rfl <;> decide⟩
      | sign _ _ _ _ _ h =>
        have hne : (c :: r).take n ≠ [] := by obtain ⟨m, rfl⟩ : ∃ j, n = j + 1 := ⟨n - 1, by omega⟩; simp
        exact ⟨((c :: r).take n).dropLast, ((c :: r).take n).getLast hne, (List.dropLast_concat_getLast hne).symm, (signLen_bytes h _ (List.getLast_mem _)).1⟩
    obtain ⟨a, d, hd, hlow⟩ := hlast
    have e : c :: r = a ++ d :: (c :: r).drop n := by
      have := List.take_append_drop n (c :: r)
      rw [hd] at this
      simpa using this.symm
    rw [e] at hb
    have := hb.cut hlow
    rw [← hd] at this
    exact this
theorem tok_not_nl {f : Bool} {b : Bs} {k n : Nat} (h : piece f b = .tok k n) : b.take n ≠ [10] ∧ b.take n ≠ [] := by
  cases b with
  | nil => simp [piece] at h
  | cons c r =>
    obtain ⟨ht, _⟩ := (piece_tok f c r k n).1 h
    have hl := isTok_len ht
    have hh := isTok_head ht
    obtain ⟨m, rfl⟩ : ∃ j, n = j + 1 := ⟨n - 1, by omega⟩
    refine ⟨?_, by simp⟩
    rw [List.take_succ_cons]
    intro e
    injection e with e1 _
    exact hh.1 e1

/-- What a piece is, by what stands there. -/
inductive IsPc : Bool → UInt8 → Bs → Pc → Prop where
  | mark (c r) : (c :: r).take 3 = [239, 187, 191] → IsPc true c r (.blank 3)
  | nl (f r) : IsPc f 10 r .nl
  | blank (f c r) : c = 32 ∨ c = 9 ∨ c = 13 → IsPc f c r (.blank 1)
  | note (f c r n) : noteLen (c :: r) = some (some n) → IsPc f c r (.note n)
  | open_ (f c r) : noteLen (c :: r) = some none → IsPc f c r .bad
  | tok (f c r k n) : IsTok c r k n → noteLen (c :: r) = none → IsPc f c r (.tok k n)
  | text (f c r) : c = 34 ∨ c = 96 → quotedLen c false r = none → IsPc f c r .bad
  | bad (f c r) : letter c = false → figure c = false → c ≠ 34 → c ≠ 96 → c ≠ 10 → c ≠ 32 → c ≠ 9 → c ≠ 13 → signLen (c :: r) = none → noteLen (c :: r) = none → IsPc f c r .bad
theorem isPc (f : Bool) (c : UInt8) (r : Bs) : IsPc f c r (piece f (c :: r)) := by
  simp only [piece]
  by_cases h0 : (f && (c :: r).take 3 == [239, 187, 191]) = true
  · rw [if_pos h0]
    simp only [Bool.and_eq_true, beq_iff_eq] at h0
    obtain ⟨rfl, h0⟩ := h0
    exact .mark c r h0
  rw [if_neg h0]
  by_cases h1 : (c == 10) = true
  · rw [if_pos h1]; simp only [beq_iff_eq] at h1; subst h1; exact .nl f r
  rw [if_neg h1]
  by_cases h2 : (c == 32 || c == 9 || c == 13) = true
  · rw [if_pos h2]; simp only [Bool.or_eq_true, beq_iff_eq, or_assoc] at h2; exact .blank f c r h2
  rw [if_neg h2]
  simp only [Bool.or_eq_true, beq_iff_eq, not_or] at h1 h2
  cases hn : noteLen (c :: r) with
  | some x => cases x with
    | none => exact .open_ f c r hn
    | some n => exact .note f c r n hn
  | none =>
    simp only
    by_cases h3 : letter c = true
    · rw [if_pos h3]; exact .tok f c r _ _ (.name c r h3) hn
    rw [if_neg h3]
    by_cases h4 : figure c = true
    · rw [if_pos h4]; exact .tok f c r _ _ (.number c r (by simpa using h3) h4) hn
    rw [if_neg h4]
    by_cases h5 : (c == 34 || c == 96) = true
    · rw [if_pos h5]
      simp only [Bool.or_eq_true, beq_iff_eq] at h5
      cases hq : quotedLen c false r with
      | none => exact .text f c r h5 hq
      | some m => exact .tok f c r _ _ (.text c r m h5 hq) hn
    rw [if_neg h5]
    simp only [Bool.or_eq_true, beq_iff_eq, not_or] at h5
    cases hq : signLen (c :: r) with
    | none => exact .bad f c r (by simpa using h3) (by simpa using h4) h5.1 h5.2 h1 h2.1.1 h2.1.2 h2.2 hq hn
    | some m => exact .tok f c r _ _ (.sign c r m (by simpa using h3) (by simpa using h4) h5.1 h5.2 hq) hn

theorem noteLen_some {b : Bs} {x : Option Nat} (h : noteLen b = some x) : (∃ r, b = 47 :: 47 :: r ∧ x = some (lineLen r + 2)) ∨ (∃ r, b = 47 :: 42 :: r ∧ x = (closeAt r).map (· + 4)) := by
  unfold noteLen at h
  split at h
  · rename_i r; injection h with h; exact .inl ⟨r, rfl, h.symm⟩
  · rename_i r; injection h with h; exact .inr ⟨r, rfl, h.symm⟩
  · cases h
theorem closeAt_split (r : Bs) : ∀ n, closeAt r = some n → ∃ a, r.take (n + 2) = a ++ [42, 47] ∧ a.length = n := by
  induction r with
  | nil => intro n h; simp [closeAt] at h
  | cons c r ih =>
    intro n h
    simp only [closeAt] at h
    by_cases hc : (c == 42 && r.take 1 == [47]) = true
    · rw [if_pos hc] at h; cases h
      simp only [Bool.and_eq_true, beq_iff_eq] at hc
      obtain ⟨rfl, hc⟩ := hc
      refine ⟨[], ?_, rfl⟩
      rw [List.take_succ_cons, hc]; rfl
    · rw [if_neg hc] at h
      obtain ⟨m, hm, rfl⟩ := Option.map_eq_some_iff.1 h
      obtain ⟨a, ha, hl⟩ := ih _ hm
      exact ⟨c :: a, by rw [show m + 1 + 2 = (m + 2) + 1 from by omega, List.take_succ_cons, ha]; rfl, by simp [hl]⟩
theorem drop_line (r : Bs) : r.drop (lineLen r) = [] ∨ ∃ x, r.drop (lineLen r) = 10 :: x := by
  induction r with
  | nil => exact .inl rfl
  | cons c r ih =>
    unfold lineLen
    by_cases hc : (c != 10) = true
    · rw [List.takeWhile_cons, if_pos hc, List.length_cons, List.drop_succ_cons]; exact ih
    · rw [List.takeWhile_cons, if_neg hc]
      simp only [bne_iff_ne, ne_eq, Decidable.not_not] at hc
      subst hc
      exact .inr ⟨r, rfl⟩
theorem Good.split {a b : Bs} {c : UInt8} (hc : c.toNat < 128) (h : Good (a ++ [c] ++ b)) : Good b := by
  rw [List.append_assoc] at h
  exact (Good.cut hc h).2
/-- What stands behind a piece is a text. -/
theorem good_drop {f : Bool} {c : UInt8} {r : Bs} {p : Pc} (h : IsPc f c r p) (hb : Good (c :: r)) (hp : p ≠ .bad) : Good ((c :: r).drop p.len) := by
  cases h with
  | mark c r h =>
    exfalso
    obtain ⟨r', hr⟩ : ∃ r', c :: r = 239 :: 187 :: 191 :: r' := by
      have := List.take_append_drop 3 (c :: r)
      rw [h] at this
      exact ⟨_, this.symm⟩
    rw [hr] at hb
    cases hb with
    | step _ _ _ h2 _ =>
      apply h2
      simp [decodeL, byteAt, cont, validR, List.getD_eq_getElem?_getD]
  | nl => exact hb.tail (by decide)
  | blank f c r h => exact hb.tail (by rcases h with rfl | rfl | rfl <;> decide)
  | note f c r n h =>
    rcases noteLen_some h with ⟨r', hr, hx⟩ | ⟨r', hr, hx⟩
    · injection hx with hx
      subst hx
      rw [hr] at hb ⊢
      simp only [Pc.len, List.drop_succ_cons]
      have h2 : Good r' := (hb.tail (by decide)).tail (by decide)
      rcases drop_line r' with e | ⟨x, e⟩
      · rw [e]; exact .nil
      · have := List.take_append_drop (lineLen r') r'
        rw [e] at this
        rw [← this] at h2
        rw [e]
        exact .low (by decide) (by decide) (h2.cut (by decide)).2
    · cases hc : closeAt r' with
      | none => rw [hc] at hx; cases hx
      | some m =>
        rw [hc] at hx
        injection hx with hx
        subst hx
        rw [hr] at hb ⊢
        simp only [Pc.len, show m + 4 = m + 2 + 1 + 1 from rfl, List.drop_succ_cons]
        have h2 : Good r' := (hb.tail (by decide)).tail (by decide)
        obtain ⟨a, ha, _⟩ := closeAt_split r' m hc
        have := List.take_append_drop (m + 2) r'
        rw [ha] at this
        rw [← this] at h2
        exact Good.split (a := a ++ [42]) (c := 47) (by decide) (by simpa using h2)
  | open_ => exact absurd rfl hp
  | text => exact absurd rfl hp
  | bad => exact absurd rfl hp
  | tok f c r k n ht hn => exact (good_tok (f := f) ((piece_tok f c r k n).2 ⟨ht, hn⟩) hb).2

theorem scan_step (f : Nat) (c : UInt8) (r : Bs) (p : Nat) (l ns : List Tk) : scanL (f + 1) (c :: r) p l ns = match piece (p == 0) (c :: r) with
    | .bad => .error p
    | .nl => scanL f r (p + 1) (line l p) ns
    | .blank n => scanL f ((c :: r).drop n) (p + n) l ns
    | .note n => scanL f ((c :: r).drop n) (p + n) (if 10 ∈ (c :: r).take n then line l p else l) (ns ++ [⟨0, (c :: r).take n, p⟩])
    | .tok k n => scanL f ((c :: r).drop n) (p + n) (l ++ [⟨k, (c :: r).take n, p⟩]) ns := rfl
theorem line_nl (l : List Tk) (p : Nat) : line l p = l ++ (if ends l then [⟨6, [10], p⟩] else []) := by
  unfold line; split <;> simp_all
theorem ends_line (l : List Tk) (p : Nat) : ends (line l p) = false := by
  unfold line
  split
  · rw [ends_snoc]; exact endsT_nl
  · simp_all
theorem key_ends {l m : List Tk} (h : (l.getLast?).map key = (m.getLast?).map key) : ends l = ends m := by
  unfold ends
  cases hl : l.getLast? <;> cases hm : m.getLast? <;> simp_all [key]

/-- What a scan's tokens say, written with blanks between, is scanned so. -/
def Joins (b : Bs) (l new : List Tk) : Prop :=
  Good (joinTs new) ∧ (joinTs new).length ≤ 3 * b.length + (if ends l then 1 else 0) ∧
    ∀ (f' p' : Nat) (m ns1 : List Tk), (joinTs new).length ≤ f' → ends m = ends l → ∃ new', scanL f' (joinTs new) p' m ns1 = .ok (m ++ new', ns1) ∧ new'.map key = new.map key

/-- A semicolon put in, and what follows. -/
theorem joins_line {b b' : Bs} {l new : List Tk} (p : Nat) (hb : b'.length + 1 ≤ b.length) (h : Joins b' (line l p) new) : Joins b l ((if ends l then [⟨6, [10], p⟩] else []) ++ new) := by
  obtain ⟨hg, hl, hs⟩ := h
  rw [ends_line] at hl
  by_cases he : ends l = true
  · rw [if_pos he]
    have ej : joinTs ([⟨6, [10], p⟩] ++ new) = 10 :: joinTs new := rfl
    refine ⟨by rw [ej]; exact .low (by decide) (by decide) hg, by rw [ej, if_pos he, List.length_cons]; simp at hl; omega, fun f' p' m ns1 hf hm => ?_⟩
    rw [ej] at hf ⊢
    obtain ⟨f', rfl⟩ : ∃ k, f' = k + 1 := ⟨f' - 1, by simp only [List.length_cons] at hf; omega⟩
    have hem : line m p' = m ++ [⟨6, [10], p'⟩] := by unfold line; rw [if_pos (by rw [hm]; exact he)]
    obtain ⟨new', h1, h2⟩ := hs f' (p' + 1) (line m p') ns1 (by simp only [List.length_cons] at hf; omega) (by rw [ends_line, ends_line])
    refine ⟨⟨6, [10], p'⟩ :: new', ?_, by simp [key, h2]⟩
    rw [scan_step]
    have hp : piece (p' == 0) (10 :: joinTs new) = .nl := by simp [piece]
    rw [hp]
    simp only
    rw [h1, hem]
    simp
  · simp only [Bool.not_eq_true] at he
    have hll : line l p = l := by unfold line; rw [he]; rfl
    rw [he]
    refine ⟨hg, ?_, fun f' p' m ns1 hf hm => ?_⟩
    · rw [he]; simp at hl ⊢; omega
    · obtain ⟨new', h1, h2⟩ := hs f' p' m ns1 hf (by rw [hll]; exact hm)
      exact ⟨new', h1, h2⟩
theorem joins_le {b b' : Bs} {l new : List Tk} (hb : b'.length ≤ b.length) (h : Joins b' l new) : Joins b l new := ⟨h.1, by have := h.2.1; omega, h.2.2⟩

theorem joins_end (l : List Tk) (p : Nat) : Joins [] l (if ends l then [⟨6, [10], p⟩] else []) := by
  by_cases he : ends l = true
  · rw [if_pos he]
    refine ⟨.low (by decide) (by decide) .nil, by rw [if_pos he]; simp [joinTs, joinT], fun f' p' m ns1 hf hm => ?_⟩
    have ej : joinTs [⟨6, [10], p⟩] = [10] := rfl
    rw [ej] at hf ⊢
    obtain ⟨f', rfl⟩ : ∃ k, f' = k + 1 := ⟨f' - 1, by simp only [List.length_cons] at hf; omega⟩
    have hem : line m p' = m ++ [⟨6, [10], p'⟩] := by unfold line; rw [if_pos (by rw [hm]; exact he)]
    refine ⟨[⟨6, [10], p'⟩], ?_, by simp [key]⟩
    have hp : piece (p' == 0) [10] = .nl := by simp [piece]
    rw [scan_step, hp]
    simp only [scanL]
    rw [show line (line m p') (p' + 1) = line m p' from by rw [line, if_neg (by rw [ends_line]; simp)], hem]
  · rw [if_neg he]
    refine ⟨.nil, by simp [joinTs], fun f' p' m ns1 _ hm => ⟨[], ?_, rfl⟩⟩
    have ej : joinTs ([] : List Tk) = [] := rfl
    rw [ej]
    have : scanL f' [] p' m ns1 = .ok (line m p', ns1) := by cases f' <;> rfl
    rw [this, line, if_neg (by rw [hm]; exact he)]
    simp

theorem joins (f : Nat) : ∀ (b : Bs) (p : Nat) (l ns l' ns' : List Tk), Good b → b.length ≤ f → scanL f b p l ns = .ok (l', ns') → ∃ new, l' = l ++ new ∧ Joins b l new := by
  induction f with
  | zero =>
    intro b p l ns l' ns' hb hf h
    obtain rfl : b = [] := List.eq_nil_of_length_eq_zero (by omega)
    simp only [scanL] at h
    injection h with h
    injection h with h1 h2
    exact ⟨_, by rw [← h1, line_nl], joins_end l p⟩
  | succ f ih =>
    intro b p l ns l' ns' hb hf h
    cases b with
    | nil =>
      simp only [scanL] at h
      injection h with h
      injection h with h1 h2
      exact ⟨_, by rw [← h1, line_nl], joins_end l p⟩
    | cons c r =>
      rw [scan_step] at h
      have hpc := isPc (p == 0) c r
      have hlen := piece_len (p == 0) (c :: r)
      simp only [List.length_cons] at hf hlen
      cases hp : piece (p == 0) (c :: r) with
      | bad => rw [hp] at h; cases h
      | nl =>
        rw [hp] at h hpc
        have hg := good_drop hpc hb (by simp)
        obtain ⟨new, h1, h2⟩ := ih _ _ _ _ _ _ hg (by simp [Pc.len]; omega) h
        exact ⟨_, by rw [h1, line_nl, List.append_assoc], joins_line p (by simp [Pc.len]) h2⟩
      | blank n =>
        rw [hp] at h hpc hlen
        have hg := good_drop hpc hb (by simp)
        have hl := hlen (by simp)
        simp only [Pc.len] at hl hg
        obtain ⟨new, h1, h2⟩ := ih _ _ _ _ _ _ hg (by rw [List.length_drop, List.length_cons]; omega) h
        exact ⟨_, h1, joins_le (by rw [List.length_drop]; omega) h2⟩
      | note n =>
        rw [hp] at h hpc hlen
        have hg := good_drop hpc hb (by simp)
        have hl := hlen (by simp)
        simp only [Pc.len] at hl hg
        by_cases h10 : 10 ∈ (c :: r).take n
        · simp only [h10, if_true] at h
          obtain ⟨new, h1, h2⟩ := ih _ _ _ _ _ _ hg (by rw [List.length_drop, List.length_cons]; omega) h
          exact ⟨_, by rw [h1, line_nl, List.append_assoc], joins_line p (by rw [List.length_drop, List.length_cons]; omega) h2⟩
        · simp only [h10, if_false] at h
          obtain ⟨new, h1, h2⟩ := ih _ _ _ _ _ _ hg (by rw [List.length_drop, List.length_cons]; omega) h
          exact ⟨_, h1, joins_le (by rw [List.length_drop]; omega) h2⟩
      | tok k n =>
        have hpt := hp
        rw [hp] at h hpc hlen
        have hg := good_tok hpt hb
        have hl := hlen (by simp)
        simp only [Pc.len] at hl
        obtain ⟨hn1, hn2⟩ := tok_not_nl hpt
        obtain ⟨new, h1, hg2, hl2, hs⟩ := ih _ _ _ _ _ _ hg.2 (by rw [List.length_drop, List.length_cons]; omega) h
        refine ⟨⟨k, (c :: r).take n, p⟩ :: new, by rw [h1]; simp, ?_⟩
        have ej : joinTs (⟨k, (c :: r).take n, p⟩ :: new) = (c :: r).take n ++ 32 :: joinTs new := by
          show joinT ((c :: r).take n) ++ joinTs new = _
          rw [joinT, if_neg hn1, List.append_assoc]; rfl
        have htl : ((c :: r).take n).length = n := by rw [List.length_take, List.length_cons]; omega
        refine ⟨by rw [ej]; exact hg.1.append (.low (by decide) (by decide) hg2), ?_, fun f' p' m ns1 hf' hm => ?_⟩
        · rw [ej, List.length_append, htl, List.length_cons, List.length_cons]
          rw [List.length_drop, List.length_cons] at hl2
          revert hl2
          split <;> split <;> omega
        · rw [ej] at hf' ⊢
          rw [List.length_append, htl, List.length_cons] at hf'
          obtain ⟨f', rfl⟩ : ∃ k, f' = k + 2 := ⟨f' - 2, by omega⟩
          have hpj := tok_more hpt (p' == 0) (joinTs new)
          obtain ⟨d, x, hdx⟩ : ∃ d x, (c :: r).take n ++ 32 :: joinTs new = d :: x := by
            cases hq : (c :: r).take n with
            | nil => exact absurd hq hn2
            | cons d x => exact ⟨d, _, rfl⟩
          have hdr : ((c :: r).take n ++ 32 :: joinTs new).drop n = 32 :: joinTs new := by rw [List.drop_append_of_le_length (by omega), List.drop_of_length_le (by omega)]; rfl
          have htk : ((c :: r).take n ++ 32 :: joinTs new).take n = (c :: r).take n := by rw [List.take_append_of_le_length (by omega), List.take_take, Nat.min_self]
          obtain ⟨new', e1, e2⟩ := hs f' (p' + n + 1) (m ++ [⟨k, (c :: r).take n, p'⟩]) ns1 (by omega) (by rw [ends_snoc, ends_snoc])
          refine ⟨⟨k, (c :: r).take n, p'⟩ :: new', ?_, by simp [key, e2]⟩
          rw [hdx] at hpj hdr htk ⊢
          rw [scan_step, hpj]
          simp only
          rw [hdr, htk, scan_step]
          have hpb : piece (p' + n == 0) (32 :: joinTs new) = .blank 1 := by
            have : (p' + n == 0) = false := by simp; omega
            simp [piece, this]
          rw [hpb]
          simp only [List.drop_succ_cons, List.drop_zero]
          rw [e1]
          simp

/-! ### a scan whole: what is no text, or too long, ahead of it -/
inductive Scanned where
  | bad (p e : Nat)
  | ok (l ns : List Tk)
  deriving DecidableEq
def scanS (b : Bs) : Scanned :=
  if b.length > 65536 then .bad 65536 12
  else match wrongL b.length b 0 with
    | some p => .bad p 2
    | none => match scanL b.length b 0 [] [] with
      | .error p => .bad p 3
      | .ok (l, ns) => .ok l ns

theorem decodeL_four (b : Bs) (h0 : 128 ≤ byteAt b 0) (h1 : byteAt b 0 / 8 = 30) (c1 : cont b 1 = true) (c2 : cont b 2 = true) (c3 : cont b 3 = true) (hd : decodeL b ≠ (65533, 1)) : 65536 ≤ (decodeL b).1 := by
  unfold decodeL at hd ⊢
  rw [if_neg (by omega), if_neg (by simp; omega), if_neg (by simp; omega), if_pos (by simp [h1, c1, c2, c3])] at hd ⊢
  generalize (byteAt b 0 % 8) * 262144 + (byteAt b 1 % 64) * 4096 + (byteAt b 2 % 64) * 64 + byteAt b 3 % 64 = v at hd ⊢
  by_cases hv : (v ≥ 65536 && validR v) = true
  · rw [if_pos hv]
    simp only [Bool.and_eq_true, decide_eq_true_eq] at hv
    omega
  · rw [if_neg hv] at hd; exact absurd rfl hd

theorem two_of {c : UInt8} {r : Bs} (h : 2 < (c :: r).length) : ∃ d d2 r', r = d :: d2 :: r' := by
  match r, h with
  | d :: d2 :: r', _ => exact ⟨d, d2, r', rfl⟩
  | [], h => simp at h
  | [_], h => simp at h
/-- The mark at the head is passed over. -/
theorem wrong_mark {f : Nat} {b : Bs} (h : wrongL f b 0 = none) : Good b ∨ ∃ r, b = 239 :: 187 :: 191 :: r ∧ Good r := by
  cases b with
  | nil => exact .inl .nil
  | cons c r =>
    cases f with
    | zero => simp [wrongL] at h
    | succ f =>
      simp only [wrongL] at h
      by_cases hc : (badSign (decodeL (c :: r)) || ((decodeL (c :: r)).1 == 65279 && decide (0 < 0))) = true
      · rw [if_pos hc] at h; cases h
      · rw [if_neg hc] at h
        simp only [Bool.or_eq_true, not_or] at hc
        have hl := decodeL_len (c :: r) (by simp)
        have hg := good_of_wrong f _ _ (by omega) h
        by_cases he : (decodeL (c :: r)).1 = 65279
        · right
          rcases decodeL_cases (c :: r) with e | ⟨h0, e⟩ | ⟨h0, h1, c1, e⟩ | ⟨h0, h1, c1, c2, e⟩ | ⟨h0, h1, c1, c2, c3, e⟩
          · rw [e] at he; simp at he
          · rw [e] at he; simp at he; omega
          · rw [e] at he; simp at he; omega
          · have k1 := cont_lt c1; have k2 := cont_lt c2
            rw [e] at he hg
            simp only at he hg
            obtain ⟨d, d2, r', rfl⟩ := two_of k2.1
            simp only [cont, byteAt, Bool.and_eq_true, beq_iff_eq, List.getD_cons_zero, List.getD_cons_succ] at c1 c2 he h1
            have b0 := c.toNat_lt; have b1 := d.toNat_lt; have b2 := d2.toNat_lt
            refine ⟨r', ?_, hg⟩
            have e0 : c = 239 := UInt8.toNat_inj.1 (by show c.toNat = 239; omega)
            have e1 : d = 187 := UInt8.toNat_inj.1 (by show d.toNat = 187; omega)
            have e2 : d2 = 191 := UInt8.toNat_inj.1 (by show d2.toNat = 191; omega)
            rw [e0, e1, e2]
          · have hd : decodeL (c :: r) ≠ (65533, 1) := by intro h; rw [h] at e; simp at e
            have := decodeL_four (c :: r) h0 h1 c1 c2 c3 hd
            rw [he] at this
            exact absurd this (by decide)
        · exact .inl (.step _ (by simp) (by simpa using hc.1) he hg)

theorem scan_mark (f : Nat) (r : Bs) : scanL (f + 1) (239 :: 187 :: 191 :: r) 0 [] [] = scanL f r 3 [] [] := by
  rw [scan_step]; rfl

/-- TokenJoins: the tokens of what is joined are those of the text. -/
theorem scanS_joins {b : Bs} {l ns : List Tk} (hb : b.length ≤ 1000) (h : scanS b = .ok l ns) :
    (joinTs l).length ≤ 3 * b.length + 1 ∧ ∃ m, scanS (joinTs l) = .ok m [] ∧ m.map key = l.map key := by
  have main : ∀ (f : Nat) (x : Bs) (p : Nat), Good x → x.length ≤ f → x.length ≤ b.length → scanL f x p [] [] = .ok (l, ns) →
      (joinTs l).length ≤ 3 * b.length + 1 ∧ ∃ m, scanS (joinTs l) = .ok m [] ∧ m.map key = l.map key := by
    intro f x p hg hf hxb hs
    obtain ⟨new, h1, hgj, hlj, hj⟩ := joins f x p [] [] l ns hg hf hs
    rw [List.nil_append] at h1
    subst h1
    have hle : (joinTs l).length ≤ 3 * b.length + 1 := by revert hlj; split <;> omega
    refine ⟨hle, ?_⟩
    obtain ⟨m, e1, e2⟩ := hj (joinTs l).length 0 [] [] (Nat.le_refl _) rfl
    refine ⟨m, ?_, e2⟩
    unfold scanS
    rw [if_neg (by omega), wrong_of_good hgj _ _ (Nat.le_refl _)]
    simp only
    rw [e1]
    rfl
  unfold scanS at h
  rw [if_neg (by omega)] at h
  cases hw : wrongL b.length b 0 with
  | some p => rw [hw] at h; cases h
  | none =>
    rw [hw] at h
    simp only at h
    cases hs : scanL b.length b 0 [] [] with
    | error p => rw [hs] at h; cases h
    | ok x =>
      rw [hs] at h
      obtain ⟨l', ns'⟩ := x
      injection h with h1 h2
      subst h1; subst h2
      rcases wrong_mark hw with hg | ⟨r, rfl, hg⟩
      · exact main _ _ _ hg (Nat.le_refl _) (Nat.le_refl _) hs
      · simp only [List.length_cons] at hs
        rw [scan_mark] at hs
        exact main _ _ _ hg (by omega) (by simp only [List.length_cons]; omega) hs
end Go.Proofs.Dm
