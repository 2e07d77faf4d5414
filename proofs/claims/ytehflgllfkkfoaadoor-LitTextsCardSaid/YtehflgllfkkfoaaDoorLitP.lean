/- The numbers and the texts of chapter 03 over lists of bytes: no program in sight. -/
import Derived.Test.YtehflgllfkkfoaaDoorTok
set_option linter.unusedVariables false
set_option linter.unusedSimpArgs false
namespace Go.Proofs.Dm

/-- What a byte is worth as a digit; 99: nothing. -/
def digL (c : UInt8) : Nat := if 48 ≤ c.toNat ∧ c.toNat ≤ 57 then c.toNat - 48 else if 97 ≤ c.toNat ∧ c.toNat ≤ 102 then c.toNat - 87 else if 65 ≤ c.toNat ∧ c.toNat ≤ 70 then c.toNat - 55 else 99
/-- The base, and what of a text are digits. -/
def baseL (s : Bs) : Nat × Bs :=
  match s with
  | c0 :: c :: r => if c0 = 48 then (if c = 120 ∨ c = 88 then (16, r) else if c = 98 ∨ c = 66 then (2, r) else if c = 111 ∨ c = 79 then (8, r) else (8, c :: r)) else (10, s)
  | _ => (10, s)
/-- The digits; the flag: a line stands ahead; none: it is no number. -/
def digsL (b : Nat) : Bool → Bs → Option (List Nat)
  | line, [] => if line then none else some []
  | line, c :: r => if c = 95 ∧ line = false then digsL b true r else if b ≤ digL c then none else (digsL b false r).map (digL c :: ·)
def valF (b a : Nat) (ds : List Nat) : Nat := ds.foldl (fun a d => a * b + d) a
def valL (b : Nat) (ds : List Nat) : Nat := valF b 0 ds
/-- The decimal digits of a number, the lowest first. -/
def ldF : Nat → Nat → List Nat
  | 0, _ => []
  | f + 1, n => if n = 0 then [] else n % 10 :: ldF f (n / 10)
def ldL (n : Nat) : List Nat := ldF n n
def fig (d : Nat) : UInt8 := UInt8.ofNat (48 + d)
def decS (n : Nat) : Bs := if n = 0 then [48] else (ldL n).reverse.map fig
inductive NumR where
  | long
  | bad
  | ok (t : Bs)
  deriving DecidableEq
def numL (s : Bs) : NumR :=
  if 200 < s.length then .long
  else match s with
    | [] => .bad
    | c :: _ => if figure c = false then .bad else
      match digsL (baseL s).1 false (baseL s).2 with
      | none => .bad
      | some [] => .bad
      | some (d :: ds) => .ok (decS (valL (baseL s).1 (d :: ds)))
def plainL (s : Bs) : Bool := s.all figure && (s == [48] || (s != [] && decide (s.length ≤ 200) && s.head? != some 48))

theorem ldF_fuel (n : Nat) : ∀ f g, n ≤ f → n ≤ g → ldF f n = ldF g n := by
  induction n using Nat.strongRecOn with
  | _ n ih =>
    intro f g hf hg
    cases f with
    | zero => obtain rfl : n = 0 := by omega
              cases g <;> simp [ldF]
    | succ f =>
      cases g with
      | zero => obtain rfl : n = 0 := by omega
                simp [ldF]
      | succ g =>
        simp only [ldF]
        by_cases h : n = 0
        · rw [if_pos h, if_pos h]
        · rw [if_neg h, if_neg h, ih (n / 10) (by omega) f g (by omega) (by omega)]
theorem ldL_zero : ldL 0 = [] := rfl
theorem ldL_pos {n : Nat} (h : 0 < n) : ldL n = n % 10 :: ldL (n / 10) := by
  unfold ldL
  obtain ⟨f, hf⟩ : ∃ f, n = f + 1 := ⟨n - 1, by omega⟩
  rw [ldF_fuel n n (f + 1) (Nat.le_refl _) (by omega)]
  simp only [ldF]
  rw [if_neg (by omega), ldF_fuel (n / 10) f (n / 10) (by omega) (Nat.le_refl _)]
theorem ldL_lt (n : Nat) : ∀ d ∈ ldL n, d < 10 := by
  induction n using Nat.strongRecOn with
  | _ n ih =>
    intro d hd
    rcases Nat.eq_zero_or_pos n with rfl | h
    · simp [ldL_zero] at hd
    · rw [ldL_pos h] at hd
      rcases List.mem_cons.1 hd with rfl | hd
      · omega
      · exact ih _ (by omega) d hd
theorem ldL_ne {n : Nat} (h : 0 < n) : ldL n ≠ [] := by rw [ldL_pos h]; simp

/-- A number in decimal digits times a factor, and some more. -/
def timesL (f : Nat) : List Nat → Nat → List Nat
  | [], m => ldL m
  | x :: l, m => (x * f + m) % 10 :: timesL f l ((x * f + m) / 10)
theorem timesL_ld {f : Nat} (hf : 0 < f) (n : Nat) : ∀ m, timesL f (ldL n) m = ldL (n * f + m) := by
  induction n using Nat.strongRecOn with
  | _ n ih =>
    intro m
    rcases Nat.eq_zero_or_pos n with rfl | h
    · rw [ldL_zero, Nat.zero_mul, Nat.zero_add]; rfl
    · have hp : 0 < n * f + m := by have := Nat.mul_pos h hf; omega
      rw [ldL_pos h, timesL, ih (n / 10) (by omega), ldL_pos hp]
      have e : n * f + m = 10 * (n / 10 * f) + (n % 10 * f + m) := by
        conv => lhs; rw [← Nat.div_add_mod n 10]
        rw [Nat.add_mul, Nat.mul_assoc]; omega
      have e1 : (n * f + m) % 10 = (n % 10 * f + m) % 10 := by omega
      have e2 : (n * f + m) / 10 = n / 10 * f + (n % 10 * f + m) / 10 := by omega
      rw [e1, e2]
theorem valF_snoc (b a : Nat) (ds : List Nat) (d : Nat) : valF b a (ds ++ [d]) = valF b a ds * b + d := by simp [valF, List.foldl_append]
theorem valL_snoc (b : Nat) (ds : List Nat) (d : Nat) : valL b (ds ++ [d]) = valL b ds * b + d := valF_snoc b 0 ds d
theorem ldL_length (n : Nat) : ∀ k, n < 10 ^ k → (ldL n).length ≤ k := by
  induction n using Nat.strongRecOn with
  | _ n ih =>
    intro k hk
    rcases Nat.eq_zero_or_pos n with rfl | h
    · rw [ldL_zero]; simp
    · cases k with
      | zero => simp at hk; omega
      | succ k =>
        rw [ldL_pos h, List.length_cons]
        have : n / 10 < 10 ^ k := by rw [Nat.pow_succ] at hk; omega
        have := ih (n / 10) (by omega) k this
        omega
theorem valF_lt {b : Nat} (hb : 0 < b) (ds : List Nat) (h : ∀ d ∈ ds, d < b) : ∀ a k, a < b ^ k → valF b a ds < b ^ (k + ds.length) := by
  induction ds with
  | nil => intro a k ha; simpa [valF] using ha
  | cons d ds ih =>
    intro a k ha
    have hd := h d (by simp)
    have : a * b + d < b ^ (k + 1) := by
      rw [Nat.pow_succ]
      calc a * b + d < a * b + b := by omega
        _ = (a + 1) * b := by rw [Nat.add_mul, Nat.one_mul]
        _ ≤ b ^ k * b := Nat.mul_le_mul_right _ ha
    have := ih (fun x hx => h x (by simp [hx])) (a * b + d) (k + 1) this
    rw [List.length_cons]
    rw [show k + (ds.length + 1) = k + 1 + ds.length from by omega]
    exact this
theorem digsL_lt (b : Nat) (r : Bs) : ∀ (line : Bool) (ds : List Nat), digsL b line r = some ds → ds.length ≤ r.length ∧ ∀ d ∈ ds, d < b := by
  induction r with
  | nil => intro line ds h; cases line <;> simp [digsL] at h; subst h; simp
  | cons c r ih =>
    intro line ds h
    simp only [digsL] at h
    split at h
    · have := ih _ _ h
      simp only [List.length_cons]
      exact ⟨by omega, this.2⟩
    · split at h
      · cases h
      · rename_i hd
        obtain ⟨x, hx, rfl⟩ := Option.map_eq_some_iff.1 h
        have := ih _ _ hx
        simp only [List.length_cons, List.mem_cons]
        exact ⟨by omega, fun d hd' => by rcases hd' with rfl | hd'; omega; exact this.2 d hd'⟩

theorem fig_figure : ∀ d : Fin 10, figure (fig d.val) = true := by decide
theorem fig_ne48 : ∀ d : Fin 10, 0 < d.val → fig d.val ≠ 48 := by decide
theorem ldL_last {n : Nat} (h : 0 < n) : ∃ l d, ldL n = l ++ [d] ∧ 0 < d ∧ d < 10 := by
  induction n using Nat.strongRecOn with
  | _ n ih =>
    rw [ldL_pos h]
    rcases Nat.eq_zero_or_pos (n / 10) with h0 | h0
    · rw [h0, ldL_zero]
      exact ⟨[], n % 10, rfl, by omega, by omega⟩
    · obtain ⟨l, d, e, h1, h2⟩ := ih (n / 10) (by omega) h0
      exact ⟨n % 10 :: l, d, by rw [e]; rfl, h1, h2⟩
theorem decS_figure (n : Nat) : (decS n).all figure = true := by
  unfold decS
  split
  · decide
  · rw [List.all_eq_true]
    intro c hc
    obtain ⟨d, hd, rfl⟩ := List.mem_map.1 hc
    exact fig_figure ⟨d, ldL_lt n d (by simpa using hd)⟩
theorem decS_plain (n : Nat) (h : (decS n).length ≤ 200) : plainL (decS n) = true := by
  unfold plainL
  rw [decS_figure, Bool.true_and]
  rcases Nat.eq_zero_or_pos n with rfl | hn
  · rfl
  · obtain ⟨l, d, e, h1, h2⟩ := ldL_last hn
    have e2 : decS n = fig d :: (l.reverse.map fig) := by unfold decS; rw [if_neg (by omega), e]; simp
    rw [e2] at h ⊢
    have := fig_ne48 ⟨d, h2⟩ h1
    simp only at this
    simp [this]
    simpa using h
/-- A row of decimal digits means itself. -/
theorem valL_dec (ds : List Nat) (h : ∀ d ∈ ds, d < 10) (d : Nat) (hd : 0 < d) (hd9 : d < 10) : ldL (valL 10 (d :: ds)) = (d :: ds).reverse := by
  have gen : ∀ (ds : List Nat) (l : List Nat), (∀ d ∈ ds, d < 10) → 0 < valL 10 l → ldL (valL 10 l) = l.reverse → ldL (valL 10 (l ++ ds)) = (l ++ ds).reverse := by
    intro ds
    induction ds with
    | nil => intro l _ _ h; simpa using h
    | cons x ds ih =>
      intro l hx hp hl
      have hx9 := hx x (by simp)
      have e : l ++ x :: ds = (l ++ [x]) ++ ds := by simp
      rw [e]
      refine ih (l ++ [x]) (fun y hy => hx y (by simp [hy])) (by rw [valL_snoc]; omega) ?_
      rw [valL_snoc, ldL_pos (by omega)]
      have e1 : (valL 10 l * 10 + x) % 10 = x := by omega
      have e2 : (valL 10 l * 10 + x) / 10 = valL 10 l := by omega
      rw [e1, e2, hl]; simp
  have := gen ds [d] h (by simpa [valL, valF] using hd) (by
    have : valL 10 [d] = d := by simp [valL, valF]
    rw [this, ldL_pos hd]
    rw [show d / 10 = 0 from by omega, ldL_zero, show d % 10 = d from by omega]; rfl)
  simpa using this
theorem digL_figure {c : UInt8} (h : figure c = true) : digL c < 10 ∧ fig (digL c) = c ∧ c ≠ 95 := by
  have : ∀ c : Fin 256, figure (UInt8.ofNat c.val) = true → digL (UInt8.ofNat c.val) < 10 ∧ fig (digL (UInt8.ofNat c.val)) = UInt8.ofNat c.val ∧ UInt8.ofNat c.val ≠ 95 := by decide +kernel
  have := this ⟨c.toNat, c.toNat_lt⟩
  simp only [UInt8.ofNat_toNat] at this
  exact this h
theorem digL_fig : ∀ d : Fin 10, digL (fig d.val) = d.val := by decide
theorem digL_alnum {c : UInt8} (h : digL c < 99) : alnum c = true ∧ c ≠ 95 := by
  have : ∀ c : Fin 256, digL (UInt8.ofNat c.val) < 99 → alnum (UInt8.ofNat c.val) = true ∧ UInt8.ofNat c.val ≠ 95 := by decide +kernel
  have := this ⟨c.toNat, c.toNat_lt⟩
  simp only [UInt8.ofNat_toNat] at this
  exact this h
theorem digsL_figs (r : Bs) (h : r.all figure = true) (line : Bool) (hr : r ≠ [] ∨ line = false) : digsL 10 line r = some (r.map digL) := by
  induction r generalizing line with
  | nil => rcases hr with h | rfl; exact absurd rfl h; rfl
  | cons c r ih =>
    simp only [List.all_cons, Bool.and_eq_true] at h
    have hc := digL_figure h.1
    simp only [digsL]
    rw [if_neg (by intro hh; exact hc.2.2 hh.1), if_neg (by omega), ih h.2 false (.inr rfl)]; rfl
theorem numL_plain {s : Bs} (h : plainL s = true) : numL s = .ok s := by
  unfold plainL at h
  simp only [Bool.and_eq_true, Bool.or_eq_true, beq_iff_eq, bne_iff_ne, ne_eq, decide_eq_true_eq] at h
  obtain ⟨hf, h⟩ := h
  rcases h with rfl | ⟨⟨hne, hl⟩, h0⟩
  · decide
  · cases s with
    | nil => exact absurd rfl hne
    | cons c r =>
      have hc48 : c ≠ 48 := by simpa using h0
      have hf' := hf
      simp only [List.all_cons, Bool.and_eq_true] at hf'
      have hb : baseL (c :: r) = (10, c :: r) := by
        unfold baseL
        cases r with
        | nil => rfl
        | cons d r => simp only; rw [if_neg hc48]
      unfold numL
      rw [if_neg (by omega)]
      simp only
      rw [hb]
      rw [if_neg (by rw [hf'.1]; simp)]
      simp only
      rw [digsL_figs (c :: r) hf false (.inr rfl)]
      simp only [List.map_cons]
      have hd := digL_figure hf'.1
      have hpos : 0 < digL c := by
        rcases Nat.eq_zero_or_pos (digL c) with h0 | h0
        · rw [h0] at hd; exact absurd hd.2.1.symm hc48
        · exact h0
      have hr : ∀ d ∈ r.map digL, d < 10 := by
        intro d hd'
        obtain ⟨x, hx, rfl⟩ := List.mem_map.1 hd'
        exact (digL_figure (List.all_eq_true.1 hf'.2 x hx)).1
      have e := valL_dec (r.map digL) hr (digL c) hpos hd.1
      have hp : valL 10 (digL c :: r.map digL) ≠ 0 := by
        intro h0
        rw [h0, ldL_zero] at e
        simp at e
      unfold decS
      rw [if_neg hp, e, List.reverse_reverse, List.map_cons, hd.2.1, List.map_map]
      have hid : List.map (fig ∘ digL) r = r := by
        conv => rhs; rw [← List.map_id r]
        exact List.map_congr_left (fun x hx => (digL_figure (List.all_eq_true.1 hf'.2 x hx)).2.1)
      rw [hid]
theorem numL_ok_plain {s t : Bs} (h : numL s = .ok t) (ht : t.length ≤ 200) : plainL t = true := by
  unfold numL at h
  split at h
  · cases h
  · split at h
    · cases h
    · split at h
      · cases h
      · split at h
        · cases h
        · cases h
        · injection h with h
          subst h
          exact decS_plain _ ht

/-- A nought more behind a base's sign. -/
theorem numL_nought {a : UInt8} {r t : Bs} (ha : a = 120 ∨ a = 98 ∨ a = 111) (hl : (48 :: a :: r).length ≤ 199) (h : numL (48 :: a :: r) = .ok t) : numL (48 :: a :: 48 :: r) = .ok t := by
  have hb : ∃ b, 0 < b ∧ baseL (48 :: a :: r) = (b, r) ∧ baseL (48 :: a :: 48 :: r) = (b, 48 :: r) := by
    rcases ha with rfl | rfl | rfl
    · exact ⟨16, by omega, rfl, rfl⟩
    · exact ⟨2, by omega, rfl, rfl⟩
    · exact ⟨8, by omega, rfl, rfl⟩
  obtain ⟨b, hb0, h1, h2⟩ := hb
  unfold numL at h ⊢
  simp only [List.length_cons] at hl
  rw [if_neg (by simp only [List.length_cons]; omega)] at h
  rw [if_neg (by simp only [List.length_cons]; omega)]
  simp only [h1, h2] at h ⊢
  have h48 : figure 48 = true := rfl
  have d48 : digL 48 = 0 := rfl
  rw [if_neg (by rw [h48]; simp)] at h
  rw [if_neg (by rw [h48]; simp)]
  have e : digsL b false (48 :: r) = (digsL b false r).map (0 :: ·) := by
    simp only [digsL]
    rw [if_neg (by decide), d48, if_neg (by omega)]
  rw [e]
  split at h
  · cases h
  · cases h
  · rename_i d ds hd
    rw [hd]
    simp only [Option.map_some]
    have : valL b (0 :: d :: ds) = valL b (d :: ds) := by simp [valL, valF]
    rw [this]
    exact h

/-! ### texts -/
def hexD (n : Nat) : UInt8 := if n < 10 then UInt8.ofNat (48 + n) else UInt8.ofNat (87 + n)
def quoteC (c : UInt8) : Bs := if c = 34 ∨ c = 92 then [92, c] else if c = 10 then [92, 110] else if c = 9 then [92, 116] else if 32 ≤ c.toNat ∧ c.toNat ≤ 126 then [c] else [92, 120, hexD (c.toNat / 16), hexD (c.toNat % 16)]
def quoteB (s : Bs) : Bs := s.flatMap quoteC
def quoteL (s : Bs) : Bs := 34 :: (quoteB s ++ [34])
def valueL (b n : Nat) (s : Bs) : Option Nat := if s.length < n then none else if ∀ c ∈ s.take n, digL c < b then some (valL b ((s.take n).map digL)) else none
def signU (v : Nat) : Option Bs :=
  if 1114111 < v ∨ (55296 ≤ v ∧ v ≤ 57343) then none
  else if v < 128 then some [UInt8.ofNat v]
  else if v < 2048 then some [UInt8.ofNat (192 + v / 64), UInt8.ofNat (128 + v % 64)]
  else if v < 65536 then some [UInt8.ofNat (224 + v / 4096), UInt8.ofNat (128 + v / 64 % 64), UInt8.ofNat (128 + v % 64)]
  else some [UInt8.ofNat (240 + v / 262144), UInt8.ofNat (128 + v / 4096 % 64), UInt8.ofNat (128 + v / 64 % 64), UInt8.ofNat (128 + v % 64)]
def singleL (c : UInt8) : Option UInt8 :=
  if c = 97 then some 7 else if c = 98 then some 8 else if c = 102 then some 12 else if c = 110 then some 10 else if c = 114 then some 13 else if c = 116 then some 9 else if c = 118 then some 11 else if c = 92 then some 92 else if c = 34 then some 34 else none
/-- What stands behind a backslash: its bytes, how long it is. -/
def escL (s : Bs) : Option (Bs × Nat) :=
  match s with
  | [] => none
  | c :: r => match singleL c with
    | some b => some ([b], 1)
    | none => if c = 120 then (valueL 16 2 r).map fun v => ([UInt8.ofNat v], 3)
      else if c = 117 then ((valueL 16 4 r).bind signU).map fun b => (b, 5)
      else if c = 85 then ((valueL 16 8 r).bind signU).map fun b => (b, 9)
      else (valueL 8 3 (c :: r)).bind fun v => if v < 256 then some ([UInt8.ofNat v], 3) else none
def bodyQ : Nat → Bs → Option Bs
  | _, [] => some []
  | 0, _ :: _ => none
  | f + 1, c :: r => if c = 34 ∨ c = 10 then none else if c = 92 then (match escL r with | none => none | some (b, n) => (bodyQ f (r.drop n)).map (b ++ ·)) else (bodyQ f r).map (c :: ·)
def textL (s : Bs) : NumR :=
  if 65536 < s.length then .long
  else if s.length < 2 ∨ s.head? ≠ s.getLast? ∨ wrongL s.length s 0 ≠ none then .bad
  else match s with
    | [] => .bad
    | c :: r => if c = 34 then (match bodyQ r.length r.dropLast with | none => .bad | some t => .ok t)
      else if c = 96 then (if (96 : UInt8) ∈ r.dropLast then .bad else .ok (r.dropLast.filter (· ≠ 13)))
      else .bad

theorem escL_le {s : Bs} {b : Bs} {n : Nat} (h : escL s = some (b, n)) : 1 ≤ n ∧ n ≤ s.length := by
  unfold escL at h
  have hv : ∀ {b n : Nat} {s : Bs} {v : Nat}, valueL b n s = some v → n ≤ s.length := by
    intro b n s v h
    unfold valueL at h
    split at h
    · cases h
    · omega
  split at h
  · cases h
  · rename_i c r
    split at h
    · injection h with h; injection h with _ h; subst h; simp
    · split at h
      · obtain ⟨v, hv', e⟩ := Option.map_eq_some_iff.1 h
        injection e with _ e; subst e
        have := hv hv'; simp; omega
      · split at h
        · obtain ⟨v, hv', e⟩ := Option.map_eq_some_iff.1 h
          injection e with _ e; subst e
          obtain ⟨x, hx, _⟩ := Option.bind_eq_some_iff.1 hv'
          have := hv hx; simp; omega
        · split at h
          · obtain ⟨v, hv', e⟩ := Option.map_eq_some_iff.1 h
            injection e with _ e; subst e
            obtain ⟨x, hx, _⟩ := Option.bind_eq_some_iff.1 hv'
            have := hv hx; simp; omega
          · obtain ⟨x, hx, e⟩ := Option.bind_eq_some_iff.1 h
            split at e
            · injection e with e; injection e with _ e; subst e
              have := hv hx
              exact ⟨by omega, this⟩
            · cases e
theorem bodyQ_fuel (n : Nat) : ∀ (f g : Nat) (s : Bs), s.length ≤ n → n ≤ f → n ≤ g → bodyQ f s = bodyQ g s := by
  induction n with
  | zero => intro f g s h _ _
            obtain rfl : s = [] := List.eq_nil_of_length_eq_zero (by omega)
            cases f <;> cases g <;> rfl
  | succ n ih =>
    intro f g s h hf hg
    cases s with
    | nil => cases f <;> cases g <;> rfl
    | cons c r =>
      obtain ⟨f, rfl⟩ : ∃ k, f = k + 1 := ⟨f - 1, by omega⟩
      obtain ⟨g, rfl⟩ : ∃ k, g = k + 1 := ⟨g - 1, by omega⟩
      simp only [List.length_cons] at h
      simp only [bodyQ]
      rw [ih f g r (by omega) (by omega) (by omega)]
      split
      · rfl
      · split
        · split
          · rfl
          · rename_i b n' he
            rw [ih f g (r.drop n') (by rw [List.length_drop]; omega) (by omega) (by omega)]
        · rfl
/-- A step through what stands between two signs. -/
theorem bodyQ_step (c : UInt8) (r : Bs) (f : Nat) (hf : r.length < f) : bodyQ f (c :: r) = if c = 34 ∨ c = 10 then none else if c = 92 then (match escL r with | none => none | some (b, n) => (bodyQ f (r.drop n)).map (b ++ ·)) else (bodyQ f r).map (c :: ·) := by
  obtain ⟨f, rfl⟩ : ∃ k, f = k + 1 := ⟨f - 1, by omega⟩
  have e : ∀ n, bodyQ f (r.drop n) = bodyQ (f + 1) (r.drop n) := fun n => bodyQ_fuel r.length f (f + 1) _ (by rw [List.length_drop]; omega) (by omega) (by omega)
  have e0 := e 0
  rw [List.drop_zero] at e0
  conv => lhs; rw [bodyQ]
  rw [e0]
  split
  · rfl
  · split
    · split
      · rfl
      · rename_i b n he
        rw [e n]
    · rfl

/-! ### a quoted text means what was quoted -/
theorem quoteC_cases (c : UInt8) (r : Bs) (f : Nat) (hf : (quoteC c ++ r).length ≤ f) : bodyQ f (quoteC c ++ r) = (bodyQ f r).map (c :: ·) := by
  have hx : ∀ c : Fin 256, ¬ (UInt8.ofNat c.val = 34 ∨ UInt8.ofNat c.val = 92) → UInt8.ofNat c.val ≠ 10 → UInt8.ofNat c.val ≠ 9 → ¬ (32 ≤ c.val ∧ c.val ≤ 126) →
      digL (hexD (c.val / 16)) < 16 ∧ digL (hexD (c.val % 16)) < 16 ∧ UInt8.ofNat (digL (hexD (c.val / 16)) * 16 + digL (hexD (c.val % 16))) = UInt8.ofNat c.val := by decide +kernel
  unfold quoteC at hf ⊢
  split
  · rename_i h
    rw [if_pos h] at hf
    rw [List.cons_append, bodyQ_step _ _ _ (by simp only [List.length_append, List.length_cons, List.length_nil] at hf ⊢; omega), if_neg (by decide), if_pos rfl]
    rcases h with rfl | rfl
    · simp [escL, singleL]
    · simp [escL, singleL]
  · rename_i h
    rw [if_neg h] at hf
    split
    · rename_i h1
      rw [if_pos h1] at hf
      subst h1
      rw [List.cons_append, bodyQ_step _ _ _ (by simp only [List.length_append, List.length_cons, List.length_nil] at hf ⊢; omega), if_neg (by decide), if_pos rfl]
      simp [escL, singleL]
    · rename_i h1
      rw [if_neg h1] at hf
      split
      · rename_i h2
        rw [if_pos h2] at hf
        subst h2
        rw [List.cons_append, bodyQ_step _ _ _ (by simp only [List.length_append, List.length_cons, List.length_nil] at hf ⊢; omega), if_neg (by decide), if_pos rfl]
        simp [escL, singleL]
      · rename_i h2
        rw [if_neg h2] at hf
        split
        · rename_i h3
          rw [if_pos h3] at hf
          rw [List.singleton_append, bodyQ_step _ _ _ (by simp only [List.length_append, List.length_cons, List.length_nil] at hf ⊢; omega), if_neg (by intro hh; rcases hh with hh | hh; exact h (.inl hh); exact h1 hh), if_neg (by intro hh; exact h (.inr hh))]
        · rename_i h3
          rw [if_neg h3] at hf
          have hc := hx ⟨c.toNat, c.toNat_lt⟩
          simp only [UInt8.ofNat_toNat] at hc
          have hc := hc h h1 h2 h3
          rw [List.cons_append, bodyQ_step _ _ _ (by simp only [List.length_append, List.length_cons, List.length_nil] at hf ⊢; omega), if_neg (by decide), if_pos rfl]
          have e : escL (120 :: hexD (c.toNat / 16) :: hexD (c.toNat % 16) :: r) = some ([c], 3) := by
            have s0 : singleL 120 = none := by decide
            simp only [escL, s0, if_true]
            unfold valueL
            rw [if_neg (by simp), if_pos (by simp [hc.1, hc.2.1])]
            simp only [List.take_succ_cons, List.take_zero, List.map_cons, List.map_nil, Option.map_some, valL, valF, List.foldl_cons, List.foldl_nil, Nat.zero_mul, Nat.zero_add]
            rw [hc.2.2]
          show (match escL (120 :: hexD (c.toNat / 16) :: hexD (c.toNat % 16) :: r) with | none => none | some (b, n) => (bodyQ f ((120 :: hexD (c.toNat / 16) :: hexD (c.toNat % 16) :: r).drop n)).map (b ++ ·)) = _
          rw [e]
          rfl
theorem quoteB_body (s : Bs) : ∀ f, (quoteB s).length ≤ f → bodyQ f (quoteB s) = some s := by
  induction s with
  | nil => intro f _; cases f <;> rfl
  | cons c s ih =>
    intro f hf
    have e : quoteB (c :: s) = quoteC c ++ quoteB s := rfl
    rw [e] at hf ⊢
    rw [quoteC_cases c _ f hf, ih f (by rw [List.length_append] at hf; omega)]; rfl
theorem quoteC_len (c : UInt8) : 1 ≤ (quoteC c).length ∧ (quoteC c).length ≤ 4 := by
  unfold quoteC
  split
  · simp
  · split
    · simp
    · split
      · simp
      · split <;> simp
theorem quoteB_len (s : Bs) : s.length ≤ (quoteB s).length ∧ (quoteB s).length ≤ 4 * s.length := by
  induction s with
  | nil => simp [quoteB]
  | cons c s ih =>
    have e : quoteB (c :: s) = quoteC c ++ quoteB s := rfl
    rw [e, List.length_append, List.length_cons]
    have := quoteC_len c
    omega
theorem quoteC_bytes (c : UInt8) : ∀ x ∈ quoteC c, 32 ≤ x.toNat ∧ x.toNat ≤ 126 := by
  have : ∀ c : Fin 256, ∀ x ∈ quoteC (UInt8.ofNat c.val), 32 ≤ x.toNat ∧ x.toNat ≤ 126 := by decide +kernel
  have := this ⟨c.toNat, c.toNat_lt⟩
  simp only [UInt8.ofNat_toNat] at this
  exact this
theorem quoteL_bytes (s : Bs) : ∀ x ∈ quoteL s, 32 ≤ x.toNat ∧ x.toNat ≤ 126 := by
  intro x hx
  unfold quoteL quoteB at hx
  simp only [List.mem_cons, List.mem_append, List.mem_nil_iff, or_false, List.mem_flatMap] at hx
  rcases hx with rfl | ⟨c, _, h⟩ | rfl
  · decide
  · exact quoteC_bytes c x h
  · decide
theorem quoteL_good (s : Bs) : Good (quoteL s) := good_low _ (fun c hc => by have := quoteL_bytes s c hc; omega)
theorem quoteL_text (s : Bs) (hs : s.length ≤ 1000) : textL (quoteL s) = .ok s := by
  have hl : (quoteL s).length = (quoteB s).length + 2 := by simp [quoteL]
  have hb := quoteB_len s
  unfold textL
  rw [if_neg (by omega), if_neg]
  · unfold quoteL
    simp only [if_true]
    rw [List.dropLast_concat, quoteB_body s _ (by simp)]
  · intro h
    rcases h with h | h | h
    · omega
    · apply h
      unfold quoteL
      rw [List.head?_cons, ← List.cons_append, List.getLast?_concat]
    · exact h (wrong_of_good (quoteL_good s) _ _ (Nat.le_refl _))
theorem quoteC_qlen (c : UInt8) (r : Bs) : quotedLen 34 false (quoteC c ++ r) = (quotedLen 34 false r).map (· + (quoteC c).length) := by
  have hx : ∀ c : Fin 256, ¬ (UInt8.ofNat c.val = 34 ∨ UInt8.ofNat c.val = 92) → UInt8.ofNat c.val ≠ 10 → UInt8.ofNat c.val ≠ 9 → ¬ (32 ≤ c.val ∧ c.val ≤ 126) →
      (hexD (c.val / 16) ≠ 34 ∧ hexD (c.val / 16) ≠ 92 ∧ hexD (c.val / 16) ≠ 10) ∧ (hexD (c.val % 16) ≠ 34 ∧ hexD (c.val % 16) ≠ 92 ∧ hexD (c.val % 16) ≠ 10) := by decide +kernel
  have step : ∀ (d : UInt8) (r : Bs), d ≠ 34 → d ≠ 92 → d ≠ 10 → quotedLen 34 false (d :: r) = (quotedLen 34 false r).map (· + 1) := by
    intro d r h1 h2 h3
    rw [quotedLen, if_neg (by simp [h2]), if_neg (by simp [h1]), if_neg (by simp [h3])]
  have stepb : ∀ (d : UInt8) (r : Bs), d ≠ 10 → quotedLen 34 false (92 :: d :: r) = (quotedLen 34 false r).map (· + 2) := by
    intro d r h3
    rw [quotedLen, if_pos (by decide), quotedLen, if_neg (by simp [h3]), Option.map_map]; rfl
  unfold quoteC
  split
  · rename_i h
    refine stepb c r ?_
    rcases h with rfl | rfl <;> decide
  · rename_i h
    split
    · exact stepb 110 r (by decide)
    · rename_i h1
      split
      · exact stepb 116 r (by decide)
      · rename_i h2
        split
        · exact step c r (fun e => h (.inl e)) (fun e => h (.inr e)) h1
        · rename_i h3
          have hc := hx ⟨c.toNat, c.toNat_lt⟩
          simp only [UInt8.ofNat_toNat] at hc
          have hc := hc h h1 h2 h3
          show quotedLen 34 false (92 :: 120 :: hexD (c.toNat / 16) :: hexD (c.toNat % 16) :: r) = _
          rw [stepb _ _ (by decide), step _ _ hc.1.1 hc.1.2.1 hc.1.2.2, step _ _ hc.2.1 hc.2.2.1 hc.2.2.2, Option.map_map, Option.map_map]
          congr 1
theorem quoteB_qlen (s : Bs) (r : Bs) : quotedLen 34 false (quoteB s ++ r) = (quotedLen 34 false r).map (· + (quoteB s).length) := by
  induction s with
  | nil => simp [quoteB]
  | cons c s ih =>
    have e : quoteB (c :: s) = quoteC c ++ quoteB s := rfl
    rw [e, List.append_assoc, quoteC_qlen, ih, Option.map_map, List.length_append]
    congr 1
    funext x
    simp; omega
theorem quoteB_append (a b : Bs) : quoteB (a ++ b) = quoteB a ++ quoteB b := by simp [quoteB]

/-- A text that is one token, alone. -/
theorem scanS_one {s : Bs} {k : Nat} (hs : s.length ≤ 65536) (hw : wrongL s.length s 0 = none) (hne : s ≠ []) (hk : k = 1 ∨ k = 4 ∨ k = 5) (hp : piece true s = .tok k s.length) : scanS s = .ok [⟨k, s, 0⟩, ⟨6, [10], s.length⟩] [] := by
  unfold scanS
  rw [if_neg (by omega), hw]
  simp only
  cases s with
  | nil => exact absurd rfl hne
  | cons c r =>
    have e : scanL (c :: r).length (c :: r) 0 [] [] = .ok ([⟨k, c :: r, 0⟩, ⟨6, [10], (c :: r).length⟩], []) := by
      rw [List.length_cons, scan_step]
      rw [show ((0 : Nat) == 0) = true from rfl, hp]
      simp only
      rw [show (r.length + 1) = (c :: r).length from rfl, List.drop_of_length_le (Nat.le_refl _), List.take_of_length_le (Nat.le_refl _)]
      have he : ends [⟨k, c :: r, 0⟩] = true := by rcases hk with rfl | rfl | rfl <;> rfl
      have hl : ∀ f, scanL f [] (0 + (c :: r).length) ([] ++ [⟨k, c :: r, 0⟩]) [] = .ok (line [⟨k, c :: r, 0⟩] (c :: r).length, []) := by
        intro f
        rw [Nat.zero_add]
        cases f <;> rfl
      rw [hl]
      unfold line
      rw [if_pos he]; rfl
    rw [e]
theorem quoteL_scan (s : Bs) (hs : s.length ≤ 1000) : scanS (quoteL s) = .ok [⟨5, quoteL s, 0⟩, ⟨6, [10], (quoteL s).length⟩] [] := by
  have hl : (quoteL s).length = (quoteB s).length + 2 := by simp [quoteL]
  have hb := quoteB_len s
  refine scanS_one (by omega) (wrong_of_good (quoteL_good s) _ _ (Nat.le_refl _)) (by simp [quoteL]) (.inr (.inr rfl)) ?_
  rw [hl]
  show piece true (34 :: (quoteB s ++ [34])) = _
  have hq : quotedLen 34 false (quoteB s ++ [34]) = some ((quoteB s).length + 1) := by
    rw [quoteB_qlen]
    show (some 1).map (· + (quoteB s).length) = _
    simp; omega
  exact (piece_tok true 34 (quoteB s ++ [34]) 5 _).2 ⟨.text 34 _ _ (.inl rfl) hq, by rw [noteLen_none]; intro h; exact absurd h.1 (by decide)⟩
theorem alnum_takeWhile {r : Bs} (h : ∀ c ∈ r, alnum c = true) : r.takeWhile alnum = r := by
  induction r with
  | nil => rfl
  | cons c r ih => rw [List.takeWhile_cons, if_pos (h c (by simp)), ih (fun x hx => h x (by simp [hx]))]
theorem digsL_alnum (b : Nat) (hb : b ≤ 16) (r : Bs) : ∀ (line : Bool) (ds : List Nat), digsL b line r = some ds → ∀ c ∈ r, alnum c = true := by
  induction r with
  | nil => intro line ds _ c hc; cases hc
  | cons c r ih =>
    intro line ds h x hx
    simp only [digsL] at h
    split at h
    · rename_i h1
      rcases List.mem_cons.1 hx with rfl | hx
      · rw [h1.1]; decide
      · exact ih _ _ h x hx
    · split at h
      · cases h
      · rename_i hd
        obtain ⟨y, hy, _⟩ := Option.map_eq_some_iff.1 h
        rcases List.mem_cons.1 hx with rfl | hx
        · exact (digL_alnum (by omega)).1
        · exact ih _ _ hy x hx
theorem baseL_rest (s : Bs) : (baseL s).1 ≤ 16 ∧ 2 ≤ (baseL s).1 ∧ ((baseL s).2 = s ∨ ∃ c0 c r, s = c0 :: c :: r ∧ alnum c0 = true ∧ (((baseL s).2 = r ∧ alnum c = true) ∨ (baseL s).2 = c :: r)) := by
  unfold baseL
  split
  · rename_i c0 c r
    split
    · rename_i h0
      have ha : alnum c0 = true := by rw [h0]; decide
      split
      · rename_i h; exact ⟨by simp, by simp, .inr ⟨c0, c, r, rfl, ha, .inl ⟨rfl, by rcases h with rfl | rfl <;> decide⟩⟩⟩
      · split
        · rename_i h; exact ⟨by simp, by simp, .inr ⟨c0, c, r, rfl, ha, .inl ⟨rfl, by rcases h with rfl | rfl <;> decide⟩⟩⟩
        · split
          · rename_i h; exact ⟨by simp, by simp, .inr ⟨c0, c, r, rfl, ha, .inl ⟨rfl, by rcases h with rfl | rfl <;> decide⟩⟩⟩
          · exact ⟨by simp, by simp, .inr ⟨c0, c, r, rfl, ha, .inr rfl⟩⟩
    · exact ⟨by simp, by simp, .inl rfl⟩
  · exact ⟨by simp, by simp, .inl rfl⟩
theorem numL_scan {s t : Bs} (h : numL s = .ok t) : s.length ≤ 200 ∧ scanS s = .ok [⟨4, s, 0⟩, ⟨6, [10], s.length⟩] [] := by
  unfold numL at h
  split at h
  · cases h
  · rename_i hl
    split at h
    · cases h
    · rename_i c r
      split at h
      · cases h
      · rename_i hf
        simp only [Bool.not_eq_false] at hf
        have hds : ∃ ds, digsL (baseL (c :: r)).1 false (baseL (c :: r)).2 = some ds := by
          cases hd : digsL (baseL (c :: r)).1 false (baseL (c :: r)).2 with
          | none => rw [hd] at h; cases h
          | some ds => exact ⟨ds, rfl⟩
        obtain ⟨ds, hds⟩ := hds
        have hb := baseL_rest (c :: r)
        have ha := digsL_alnum _ hb.1 _ _ _ hds
        have hall : ∀ x ∈ c :: r, alnum x = true := by
          rcases hb.2.2 with e | ⟨c0, c1, r1, e, h0, e2⟩
          · rw [e] at ha; exact ha
          · rw [e] at hds ha e2 ⊢
            intro x hx
            rcases List.mem_cons.1 hx with rfl | hx
            · exact h0
            · rcases e2 with ⟨e2, h1⟩ | e2
              · rcases List.mem_cons.1 hx with rfl | hx
                · exact h1
                · rw [e2] at ha; exact ha x hx
              · rw [e2] at ha; exact ha x hx
        have hlow := fun x hx => alnum_low (hall x hx)
        refine ⟨by omega, scanS_one (by omega) (wrong_of_good (good_low _ (fun x hx => hlow x hx)) _ _ (Nat.le_refl _)) (by simp) (.inr (.inl rfl)) ?_⟩
        have hsp : span r = r.length := by unfold span; rw [alnum_takeWhile (fun x hx => hall x (by simp [hx]))]
        rw [List.length_cons, ← hsp]
        have hlet : letter c = false := by
          have : ∀ c : Fin 256, figure (UInt8.ofNat c.val) = true → letter (UInt8.ofNat c.val) = false := by decide +kernel
          have := this ⟨c.toNat, c.toNat_lt⟩
          simp only [UInt8.ofNat_toNat] at this
          exact this hf
        refine (piece_tok true c r 4 _).2 ⟨.number c r hlet hf, ?_⟩
        rw [noteLen_none]
        intro hh
        exact (figure_ne hf).2.2.2.2.1 hh.1
theorem digit_skip (y x : Bs) (h : ∀ c ∈ y, digL c < 99) : quotedLen 34 false (y ++ x) = (quotedLen 34 false x).map (· + y.length) := by
  induction y with
  | nil => simp
  | cons d y ih =>
    have hd := h d (by simp)
    have n1 : d ≠ 92 := by rintro rfl; revert hd; decide
    have n2 : d ≠ 34 := by rintro rfl; revert hd; decide
    have n3 : d ≠ 10 := by rintro rfl; revert hd; decide
    rw [List.cons_append, quotedLen, if_neg (by simp [n1]), if_neg (by simp [n2]), if_neg (by simp [n3]), ih (fun c hc => h c (by simp [hc])), Option.map_map]
    congr 1
theorem valueL_some {b n : Nat} {s : Bs} {v : Nat} (h : valueL b n s = some v) : n ≤ s.length ∧ (∀ c ∈ s.take n, digL c < b) ∧ v = valL b ((s.take n).map digL) := by
  unfold valueL at h
  split at h
  · cases h
  · split at h
    · rename_i h1 h2
      injection h with h
      exact ⟨by omega, h2, h.symm⟩
    · cases h
theorem hex_skip {n : Nat} {c : UInt8} {r x : Bs} {v : Nat} (hc : c ≠ 10) (h : valueL 16 n r = some v) : quotedLen 34 true (c :: r ++ x) = (quotedLen 34 false ((c :: r).drop (n + 1) ++ x)).map (· + (n + 1)) := by
  obtain ⟨h1, h2, _⟩ := valueL_some h
  have e : r ++ x = r.take n ++ (r.drop n ++ x) := by rw [← List.append_assoc, List.take_append_drop]
  rw [List.cons_append, quotedLen, if_neg (by simp [hc]), e, digit_skip _ _ (fun d hd => by have := h2 d hd; omega), Option.map_map, List.drop_succ_cons, List.length_take, Nat.min_eq_left h1]
  congr 1
theorem escL_skip {s b : Bs} {n : Nat} (h : escL s = some (b, n)) (x : Bs) : quotedLen 34 true (s ++ x) = (quotedLen 34 false (s.drop n ++ x)).map (· + n) := by
  unfold escL at h
  split at h
  · cases h
  · rename_i c r
    split at h
    · rename_i y hy
      injection h with h; injection h with _ h; subst h
      have hc : c ≠ 10 := by
        intro e
        rw [e, show singleL 10 = none from by decide] at hy
        cases hy
      rw [List.cons_append, quotedLen, if_neg (by simp [hc])]; rfl
    · split at h
      · rename_i hc
        obtain ⟨v, hv, e⟩ := Option.map_eq_some_iff.1 h
        injection e with _ e; subst e
        exact hex_skip (by rw [hc]; decide) hv
      · split at h
        · rename_i hc
          obtain ⟨v, hv, e⟩ := Option.map_eq_some_iff.1 h
          injection e with _ e; subst e
          obtain ⟨z, hz, _⟩ := Option.bind_eq_some_iff.1 hv
          exact hex_skip (by rw [hc]; decide) hz
        · split at h
          · rename_i hc
            obtain ⟨v, hv, e⟩ := Option.map_eq_some_iff.1 h
            injection e with _ e; subst e
            obtain ⟨z, hz, _⟩ := Option.bind_eq_some_iff.1 hv
            exact hex_skip (by rw [hc]; decide) hz
          · obtain ⟨v, hv, e⟩ := Option.bind_eq_some_iff.1 h
            split at e
            · injection e with e; injection e with _ e; subst e
              obtain ⟨h1, h2, _⟩ := valueL_some hv
              have hc := h2 c (by simp)
              have hc10 : c ≠ 10 := by rintro rfl; revert hc; decide
              have e : r ++ x = r.take 2 ++ (r.drop 2 ++ x) := by rw [← List.append_assoc, List.take_append_drop]
              rw [List.cons_append, quotedLen, if_neg (by simp [hc10]), e, digit_skip _ _ (fun d hd => by have := h2 d (by simp [hd]); omega), Option.map_map, List.drop_succ_cons, List.length_take, Nat.min_eq_left (by simp at h1; omega)]
              congr 1
            · cases e
theorem bodyQ_qlen (n : Nat) : ∀ (f : Nat) (s t x : Bs), s.length ≤ n → s.length ≤ f → bodyQ f s = some t → quotedLen 34 false (s ++ x) = (quotedLen 34 false x).map (· + s.length) := by
  induction n with
  | zero => intro f s t x h _ _
            obtain rfl : s = [] := List.eq_nil_of_length_eq_zero (by omega)
            simp
  | succ n ih =>
    intro f s t x hn hf h
    cases s with
    | nil => simp
    | cons c r =>
      simp only [List.length_cons] at hn hf
      rw [bodyQ_step c r f (by omega)] at h
      split at h
      · cases h
      · rename_i hc
        simp only [not_or] at hc
        split at h
        · rename_i hc2
          split at h
          · cases h
          · rename_i b m he
            obtain ⟨t', ht', _⟩ := Option.map_eq_some_iff.1 h
            have hle := escL_le he
            rw [List.cons_append, quotedLen, if_pos (by simp [hc2]), escL_skip he x, ih f (r.drop m) t' x (by rw [List.length_drop]; omega) (by rw [List.length_drop]; omega) ht', Option.map_map, Option.map_map]
            congr 1
            funext y
            simp only [Function.comp, List.length_cons, List.length_drop]; omega
        · rename_i hc2
          obtain ⟨t', ht', _⟩ := Option.map_eq_some_iff.1 h
          rw [List.cons_append, quotedLen, if_neg (by simp [hc2]), if_neg (by simp [hc.1]), if_neg (by simp [hc.2]), ih f r t' x (by omega) (by omega) ht', Option.map_map]
          congr 1
theorem raw_qlen (s x : Bs) (h : (96 : UInt8) ∉ s) : quotedLen 96 false (s ++ x) = (quotedLen 96 false x).map (· + s.length) := by
  induction s with
  | nil => simp
  | cons c s ih =>
    simp only [List.mem_cons, not_or] at h
    rw [List.cons_append, quotedLen, if_neg (by simp), if_neg (by simp; exact fun e => h.1 e.symm), if_neg (by simp), ih h.2, Option.map_map]
    congr 1
theorem textL_scan {s t : Bs} (h : textL s = .ok t) : s.length ≤ 65536 ∧ scanS s = .ok [⟨5, s, 0⟩, ⟨6, [10], s.length⟩] [] := by
  unfold textL at h
  split at h
  · cases h
  · rename_i hl
    split at h
    · cases h
    · rename_i h0
      simp only [not_or, Decidable.not_not, Nat.not_lt] at h0
      obtain ⟨h2, hlast, hw⟩ := h0
      split at h
      · cases h
      · rename_i c r
        have hr : r ≠ [] := by rintro rfl; simp at h2
        have hrl : r.dropLast ++ [c] = r := by
          have e := List.dropLast_concat_getLast hr
          rw [List.head?_cons, List.getLast?_cons, Option.some.injEq] at hlast
          rw [List.getLast?_eq_some_getLast hr] at hlast
          simp only [Option.getD_some] at hlast
          rw [← hlast] at e
          exact e
        have hlen : r.dropLast.length + 1 = r.length := by
          have := congrArg List.length hrl
          simpa using this
        have hq : (c = 34 ∨ c = 96) ∧ quotedLen c false r = some r.length := by
          split at h
          · rename_i hc
            subst hc
            refine ⟨.inl rfl, ?_⟩
            split at h
            · cases h
            · rename_i t' ht'
              have := bodyQ_qlen _ _ _ _ [34] (Nat.le_refl _) (by omega) ht'
              rw [hrl] at this
              rw [this]
              show (some 1).map (· + r.dropLast.length) = _
              simp; omega
          · split at h
            · rename_i hc
              subst hc
              refine ⟨.inr rfl, ?_⟩
              split at h
              · cases h
              · rename_i hm
                have := raw_qlen _ [96] hm
                rw [hrl] at this
                rw [this]
                show (some 1).map (· + r.dropLast.length) = _
                simp; omega
            · cases h
        refine ⟨by omega, scanS_one (by omega) hw (by simp) (.inr (.inr rfl)) ?_⟩
        rw [List.length_cons]
        refine (piece_tok true c r 5 _).2 ⟨.text c r _ hq.1 hq.2, ?_⟩
        rw [noteLen_none]
        intro hh
        rcases hq.1 with e | e <;> (rw [e] at hh; exact absurd hh.1 (by decide))
/-! ### one byte again and again -/
theorem scanS_not_long {b : Bs} (h : b.length ≤ 65536) {p k : Nat} (hs : scanS b = .bad p k) : k = 2 ∨ k = 3 := by
  unfold scanS at hs
  rw [if_neg (by omega)] at hs
  split at hs
  · injection hs with _ hs; exact .inl hs.symm
  · split at hs
    · injection hs with _ hs; exact .inr hs.symm
    · cases hs
theorem word_long {s : Bs} (h : 20 ≤ s.length) : word s = 0 := by
  have h1 : ∀ x ∈ words1, x.length < 20 := by decide
  have h2 : ∀ x ∈ words2, x.length < 20 := by decide
  unfold word
  rw [if_neg (fun hm => by have := h1 _ hm; omega), if_neg (fun hm => by have := h2 _ hm; omega)]
theorem scanS_a (k : Nat) (hk : 20 ≤ k) (hk2 : k ≤ 65536) : scanS (List.replicate k 97) = .ok [⟨1, List.replicate k 97, 0⟩, ⟨6, [10], k⟩] [] := by
  have hall : ∀ c ∈ List.replicate k (97 : UInt8), alnum c = true := by
    intro c hc
    rw [(List.mem_replicate.1 hc).2]; decide
  have hg : Good (List.replicate k (97 : UInt8)) := good_low _ (fun c hc => alnum_low (hall c hc))
  have := scanS_one (s := List.replicate k 97) (k := 1) (by simpa using hk2) (wrong_of_good hg _ _ (Nat.le_refl _)) (by intro e; have := congrArg List.length e; simp at this; omega) (.inl rfl) (by
    obtain ⟨j, rfl⟩ : ∃ j, k = j + 1 := ⟨k - 1, by omega⟩
    rw [List.replicate_succ] at hall ⊢
    have ht : (List.replicate j (97 : UInt8)).takeWhile alnum = List.replicate j 97 := alnum_takeWhile (fun c hc => hall c (by simp [hc]))
    have hsp : span (List.replicate j 97) = j := by unfold span; rw [ht]; simp
    have hw : word (97 :: (List.replicate j (97 : UInt8)).takeWhile alnum) = 0 := word_long (by rw [ht]; simp; omega)
    have hp := IsTok.name 97 (List.replicate j 97) (by decide)
    rw [hw, hsp] at hp
    rw [show (97 :: List.replicate j (97 : UInt8)).length = j + 1 from by simp]
    exact (piece_tok true 97 _ 1 _).2 ⟨hp, by rw [noteLen_none]; intro hh; exact absurd hh.1 (by decide)⟩)
  rw [List.length_replicate] at this
  exact this
end Go.Proofs.Dm
