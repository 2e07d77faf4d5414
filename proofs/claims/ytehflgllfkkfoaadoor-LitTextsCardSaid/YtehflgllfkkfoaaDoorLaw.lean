/- What tokens are and where line ends stand: plain laws behind TokenKinds and TokenLines. -/
import Derived.Test.YtehflgllfkkfoaaDoorTok
namespace Go.Proofs.Dm

def signs0 : List Bs := [10] :: (signs3 ++ signs2 ++ signs1)
/-- A token is of the kind that its text has. -/
def IsT (t : Tk) : Prop :=
  (∃ c r, t.text = c :: r ∧ letter c = true ∧ (∀ x ∈ r, alnum x = true) ∧ t.kind = 1 + word t.text) ∨
  (∃ c r, t.text = c :: r ∧ figure c = true ∧ t.kind = 4) ∨
  (∃ c r, t.text = c :: r ∧ (c = 34 ∨ c = 96) ∧ t.kind = 5) ∨
  (t.kind = 6 ∧ t.text ∈ signs0)

theorem isT_of {c : UInt8} {r : Bs} {k n : Nat} (h : IsTok c r k n) (p : Nat) : IsT ⟨k, (c :: r).take n, p⟩ ∧ (c :: r).take n ≠ [10] := by
  cases h with
  | name hl =>
    have e : (c :: r).take (span r + 1) = c :: r.takeWhile alnum := by rw [List.take_succ_cons, show span r = (r.takeWhile alnum).length from rfl, take_span]
    rw [e]
    refine ⟨.inl ⟨c, _, rfl, hl, takeWhile_all _ _, rfl⟩, fun h => ?_⟩
    injection h with h _
    exact (letter_ne hl).1 h
  | number hl hf =>
    rw [List.take_succ_cons]
    refine ⟨.inr (.inl ⟨c, _, rfl, hf, rfl⟩), fun h => ?_⟩
    injection h with h _
    exact (figure_ne hf).1 h
  | text n hc hq =>
    rw [List.take_succ_cons]
    refine ⟨.inr (.inr (.inl ⟨c, _, rfl, hc, rfl⟩)), fun h => ?_⟩
    injection h with h _
    subst h
    revert hc; decide
  | sign _ _ _ _ _ hs =>
    have hb := signLen_bytes hs
    have hm : (c :: r).take n ∈ signs0 := by
      unfold signLen at hs
      unfold signs0
      by_cases h3 : (c :: r).take 3 ∈ signs3
      · rw [if_pos h3] at hs; cases hs; exact List.mem_cons_of_mem _ (List.mem_append_left _ (List.mem_append_left _ h3))
      rw [if_neg h3] at hs
      by_cases h2 : (c :: r).take 2 ∈ signs2
      · rw [if_pos h2] at hs; cases hs; exact List.mem_cons_of_mem _ (List.mem_append_left _ (List.mem_append_right _ h2))
      rw [if_neg h2] at hs
      by_cases h1 : (c :: r).take 1 ∈ signs1
      · rw [if_pos h1] at hs; cases hs; exact List.mem_cons_of_mem _ (List.mem_append_right _ h1)
      rw [if_neg h1] at hs; cases hs
    refine ⟨.inr (.inr (.inr ⟨rfl, hm⟩)), fun h => ?_⟩
    have := hb 10 (by rw [h]; simp)
    exact this.2.2.1 rfl
theorem isT_line (p : Nat) : IsT ⟨6, [10], p⟩ := .inr (.inr (.inr ⟨rfl, by simp [signs0]⟩))

theorem scanL_induct (Inv : List Tk → Prop) (hline : ∀ l p, Inv l → Inv (line l p)) (htok : ∀ l t, Inv l → IsT t → t.text ≠ [10] → Inv (l ++ [t])) (f : Nat) :
    ∀ (b : Bs) (p : Nat) (l ns l' ns' : List Tk), scanL f b p l ns = .ok (l', ns') → Inv l → ∃ l0 q, l' = line l0 q ∧ Inv l0 := by
  induction f with
  | zero =>
    intro b p l ns l' ns' h hi
    cases b with
    | nil =>
      injection h with h
      injection h with h1 h2
      exact ⟨l, p, h1.symm, hi⟩
    | cons c r => cases h
  | succ f ih =>
    intro b p l ns l' ns' h hi
    cases b with
    | nil =>
      injection h with h
      injection h with h1 h2
      exact ⟨l, p, h1.symm, hi⟩
    | cons c r =>
      rw [scan_step] at h
      have hp := isPc (p == 0) c r
      generalize (p == 0) = fb at h hp
      generalize piece fb (c :: r) = pc at h hp
      cases pc with
      | bad => cases h
      | nl => exact ih _ _ _ _ _ _ h (hline _ _ hi)
      | blank n => exact ih _ _ _ _ _ _ h hi
      | note n =>
        refine ih _ _ _ _ _ _ h ?_
        split
        · exact hline _ _ hi
        · exact hi
      | tok k n =>
        cases hp with
        | tok _ _ _ _ _ ht _ =>
          have := isT_of ht p
          exact ih _ _ _ _ _ _ h (htok _ _ hi this.1 this.2)
theorem scanS_ok {b : Bs} {l ns : List Tk} (h : scanS b = .ok l ns) : b.length ≤ 65536 ∧ scanL b.length b 0 [] [] = .ok (l, ns) := by
  unfold scanS at h
  split at h
  · cases h
  · split at h
    · cases h
    · split at h
      · cases h
      · rename_i he
        injection h with h1 h2
        subst h1 h2
        exact ⟨by omega, he⟩
theorem scanS_induct (Inv : List Tk → Prop) (h0 : Inv []) (hline : ∀ l p, Inv l → Inv (line l p)) (htok : ∀ l t, Inv l → IsT t → t.text ≠ [10] → Inv (l ++ [t])) {b : Bs} {l ns : List Tk} (h : scanS b = .ok l ns) :
    ∃ l0 q, l = line l0 q ∧ Inv l0 := scanL_induct Inv hline htok _ _ _ _ _ _ _ (scanS_ok h).2 h0

theorem scanS_kinds {b : Bs} {l ns : List Tk} (h : scanS b = .ok l ns) : ∀ t ∈ l, IsT t := by
  obtain ⟨l0, q, rfl, h0⟩ := scanS_induct (fun l => ∀ t ∈ l, IsT t) (fun t h => by cases h) (fun l p hl t ht => by
    rw [line_nl] at ht
    rcases List.mem_append.1 ht with ht | ht
    · exact hl t ht
    · split at ht
      · rw [List.mem_singleton.1 ht]; exact isT_line p
      · cases ht) (fun l t hl ht _ x hx => by
    rcases List.mem_append.1 hx with hx | hx
    · exact hl x hx
    · rw [List.mem_singleton.1 hx]; exact ht) h
  intro t ht
  rw [line_nl] at ht
  rcases List.mem_append.1 ht with ht | ht
  · exact h0 t ht
  · split at ht
    · rw [List.mem_singleton.1 ht]; exact isT_line q
    · cases ht

/-- Behind each line's end: a token that ends a line. -/
def LineOk (l : List Tk) : Prop := ∀ i (hi : i < l.length), (l[i]'hi).text = [10] → ∃ j, ∃ hj : j < l.length, i = j + 1 ∧ endsT (l[j]'hj).kind (l[j]'hj).text = true
theorem LineOk.snoc {l : List Tk} {t : Tk} (h : LineOk l) (ht : t.text = [10] → ends l = true) : LineOk (l ++ [t]) := by
  intro i hi hx
  rw [List.length_append, List.length_singleton] at hi
  by_cases hlt : i < l.length
  · rw [List.getElem_append_left hlt] at hx
    obtain ⟨j, hj, rfl, he⟩ := h i hlt hx
    exact ⟨j, by rw [List.length_append]; omega, rfl, by rw [List.getElem_append_left hj]; exact he⟩
  · obtain rfl : i = l.length := by omega
    rw [List.getElem_append_right (Nat.le_refl _)] at hx
    simp only [Nat.sub_self, List.getElem_cons_zero] at hx
    have he := ht hx
    unfold ends at he
    cases hl : l.getLast? with
    | none => rw [hl] at he; cases he
    | some x =>
      rw [hl] at he
      have hne : l ≠ [] := fun e => by rw [e] at hl; cases hl
      have hpos : 0 < l.length := List.length_pos_iff.2 hne
      refine ⟨l.length - 1, by rw [List.length_append]; omega, by omega, ?_⟩
      rw [List.getElem_append_left (by omega)]
      rw [List.getLast?_eq_some_getLast hne, List.getLast_eq_getElem] at hl
      injection hl with hl
      rw [hl]; exact he
theorem LineOk.line {l : List Tk} (h : LineOk l) (p : Nat) : LineOk (line l p) := by
  unfold Dm.line
  split
  · rename_i he
    exact h.snoc (fun _ => he)
  · exact h
theorem scanS_lines {b : Bs} {l ns : List Tk} (h : scanS b = .ok l ns) : LineOk l ∧ ends l = false := by
  obtain ⟨l0, q, rfl, h0⟩ := scanS_induct LineOk (fun i hi => by cases hi) (fun l p hl => hl.line p) (fun l t hl _ hn => hl.snoc (fun e => absurd e hn)) h
  exact ⟨h0.line q, ends_line l0 q⟩
/-- What TokenLines asks of the token ahead of a line's end. -/
theorem ends_ok {t : Tk} (h : endsT t.kind t.text = true) : ¬ (t.kind = 6 ∧ t.text ≠ [41] ∧ t.text ≠ [93] ∧ t.text ≠ [125] ∧ t.text ≠ [43, 43] ∧ t.text ≠ [45, 45]) := by
  rintro ⟨h6, h1, h2, h3, h4, h5⟩
  unfold endsT at h
  rw [h6] at h
  simp [endSigns, h1, h2, h3, h4, h5] at h
/-- What it asks of the last token. -/
theorem last_ok {t : Tk} (ht : IsT t) (h : endsT t.kind t.text = false) : t.kind ≠ 1 ∧ t.kind ≠ 4 ∧ t.kind ≠ 5 ∧ t.text ≠ [114, 101, 116, 117, 114, 110] ∧ t.text ≠ [41] := by
  unfold endsT at h
  simp only [Bool.or_eq_false_iff, Bool.and_eq_false_iff, beq_eq_false_iff_ne, Bool.or_eq_false_iff, decide_eq_false_iff_not] at h
  obtain ⟨⟨⟨⟨h1, h4⟩, h5⟩, h23⟩, h6⟩ := h
  refine ⟨h1, h4, h5, fun e => ?_, fun e => ?_⟩
  · rcases ht with ⟨c, r, _, _, _, hk⟩ | ⟨c, r, _, _, hk⟩ | ⟨c, r, _, _, hk⟩ | ⟨hk, hm⟩
    · rw [e] at hk
      have : word [114, 101, 116, 117, 114, 110] = 1 := by decide
      rw [this] at hk
      rcases h23 with ⟨h2, _⟩ | h2
      · exact h2 hk
      · rw [e] at h2; exact h2 (by decide)
    · exact h4 hk
    · exact h5 hk
    · rw [e] at hm; revert hm; decide
  · rcases ht with ⟨c, r, hc, hl, _, hk⟩ | ⟨c, r, _, _, hk⟩ | ⟨c, r, _, _, hk⟩ | ⟨hk, hm⟩
    · rw [e] at hc
      injection hc with hc _
      subst hc
      revert hl; decide
    · exact h4 hk
    · exact h5 hk
    · rcases h6 with h6 | h6
      · exact h6 hk
      · rw [e] at h6; exact h6 (by decide)
/-- The name's test. -/
def nameL (s : Bs) : Bool := (match s with | [] => false | c :: r => letter c && r.all alnum) && word s == 0
theorem words_letter : ∀ s ∈ words1 ++ words2, (match s with | [] => false | c :: r => letter c && r.all alnum) = true := by decide
/-- What TokenKinds asks. -/
theorem kind_ok' {t : Tk} (ht : IsT t) : 1 ≤ t.kind ∧ t.kind ≤ 6 ∧ nameL t.text = decide (t.kind = 1) ∧ decide (word t.text = 1) = decide (t.kind = 2) ∧ decide (word t.text = 2) = decide (t.kind = 3) ∧
    (t.kind = 4 → ∃ c r, t.text = c :: r ∧ figure c = true) ∧ (t.kind = 5 → ∃ c r, t.text = c :: r ∧ (c = 34 ∨ c = 96)) := by
  have hw : ∀ s : Bs, word s = 0 ∨ (word s = 1 ∧ s ∈ words1) ∨ (word s = 2 ∧ s ∈ words2) := by
    intro s
    unfold word
    split
    · rename_i h; exact .inr (.inl ⟨rfl, h⟩)
    · split
      · rename_i h; exact .inr (.inr ⟨rfl, h⟩)
      · exact .inl rfl
  have hfirst : ∀ s : Bs, word s ≠ 0 → ∃ c r, s = c :: r ∧ letter c = true := by
    intro s h
    have hm : s ∈ words1 ++ words2 := by
      rcases hw s with h0 | ⟨_, h1⟩ | ⟨_, h2⟩
      · exact absurd h0 h
      · simp [h1]
      · simp [h2]
    have := words_letter s hm
    cases s with
    | nil => cases this
    | cons c r => exact ⟨c, r, rfl, by simp at this; exact this.1⟩
  have hname : ∀ s : Bs, (∀ c r, s = c :: r → letter c = false) → word s = 0 ∧ nameL s = false := by
    intro s h
    refine ⟨?_, ?_⟩
    · by_cases h0 : word s = 0
      · exact h0
      · obtain ⟨c, r, e, hl⟩ := hfirst s h0
        rw [h c r e] at hl; cases hl
    · unfold nameL
      cases s with
      | nil => rfl
      | cons c r => simp [h c r rfl]
  rcases ht with ⟨c, r, hc, hl, ha, hk⟩ | ⟨c, r, hc, hf, hk⟩ | ⟨c, r, hc, hq, hk⟩ | ⟨hk, hm⟩
  · have h4 : t.kind ≠ 4 := by rcases hw t.text with h | ⟨h, _⟩ | ⟨h, _⟩ <;> omega
    have h5 : t.kind ≠ 5 := by rcases hw t.text with h | ⟨h, _⟩ | ⟨h, _⟩ <;> omega
    refine ⟨by omega, by rcases hw t.text with h | ⟨h, _⟩ | ⟨h, _⟩ <;> omega, ?_, ?_, ?_, fun h => absurd h h4, fun h => absurd h h5⟩
    · unfold nameL
      rw [hc] at hk ⊢
      have : r.all alnum = true := by rw [List.all_eq_true]; exact ha
      simp only [hl, this, Bool.and_self, Bool.true_and]
      rw [Bool.eq_iff_iff]
      simp; omega
    · rw [decide_eq_decide]; omega
    · rw [decide_eq_decide]; omega
  · obtain ⟨h0, hn⟩ := hname t.text (fun c' r' e => by
      rw [hc] at e; injection e with e _; subst e
      cases hlc : letter c with
      | false => rfl
      | true =>
        exfalso
        revert hf hlc
        unfold figure letter
        simp [UInt8.le_iff_toNat_le]
        intro h1 h2
        exact ⟨⟨fun e => by subst e; revert h2; decide, by omega⟩, by omega⟩)
    exact ⟨by omega, by omega, by rw [hn]; simp [hk], by rw [h0]; simp [hk], by rw [h0]; simp [hk], fun _ => ⟨c, r, hc, hf⟩, fun h => by omega⟩
  · obtain ⟨h0, hn⟩ := hname t.text (fun c' r' e => by
      rw [hc] at e; injection e with e _; subst e
      rcases hq with rfl | rfl <;> decide)
    exact ⟨by omega, by omega, by rw [hn]; simp [hk], by rw [h0]; simp [hk], by rw [h0]; simp [hk], fun h => by omega, fun _ => ⟨c, r, hc, hq⟩⟩
  · have hd : ∀ s ∈ signs0, word s = 0 ∧ nameL s = false := by decide
    obtain ⟨h0, hn⟩ := hd t.text hm
    exact ⟨by omega, by omega, by rw [hn]; simp [hk], by rw [h0]; simp [hk], by rw [h0]; simp [hk], fun h => by omega, fun h => by omega⟩
end Go.Proofs.Dm
