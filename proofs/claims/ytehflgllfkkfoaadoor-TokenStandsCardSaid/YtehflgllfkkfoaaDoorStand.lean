/- Tokens and notes stand in the bytes as they are: the plain law behind TokenStands. -/
import Derived.Test.YtehflgllfkkfoaaDoorLaw
namespace Go.Proofs.Dm

def nlT (t : Tk) : Bool := t.kind == 6 && t.text == [10]
def covT (t : Tk) (k : Nat) : Bool := !nlT t && decide (t.pos ≤ k) && decide (k < t.pos + t.text.length)
def cov (l : List Tk) (k : Nat) : Bool := l.any (covT · k)
def endOf (l : List Tk) : Nat := l.foldl (fun e t => if nlT t then e else t.pos + t.text.length) 0
def blankAt (b : Bs) (k : Nat) : Prop := (∃ c, b[k]? = some c ∧ (c = 32 ∨ c = 9 ∨ c = 13 ∨ c = 10)) ∨ (k < 3 ∧ 3 ≤ b.length ∧ b[0]? = some 239)
def Disj (s t : Tk) : Prop := ∀ k, ¬ (covT s k = true ∧ covT t k = true)
structure Stand (b : Bs) (p : Nat) (l ns : List Tk) : Prop where
  hp : p ≤ b.length
  at_ : ∀ t ∈ l ++ ns, nlT t = false → t.text ≠ [] ∧ t.pos + t.text.length ≤ p ∧ (b.drop t.pos).take t.text.length = t.text
  ord : ∀ i (hi : i < l.length), endOf (l.take i) ≤ (l[i]'hi).pos
  last : endOf l ≤ p
  apart : (l ++ ns).Pairwise Disj
  blank : ∀ k, k < p → cov (l ++ ns) k = false → blankAt b k

theorem endOf_snoc (l : List Tk) (t : Tk) : endOf (l ++ [t]) = if nlT t then endOf l else t.pos + t.text.length := by
  unfold endOf; rw [List.foldl_append]; rfl
theorem ord_snoc {l : List Tk} {t : Tk} (h : ∀ i (hi : i < l.length), endOf (l.take i) ≤ (l[i]'hi).pos) (ht : endOf l ≤ t.pos) : ∀ i (hi : i < (l ++ [t]).length), endOf ((l ++ [t]).take i) ≤ ((l ++ [t])[i]'hi).pos := by
  intro i hi
  rw [List.length_append, List.length_singleton] at hi
  by_cases hlt : i < l.length
  · rw [List.getElem_append_left hlt, List.take_append_of_le_length (by omega)]
    exact h i hlt
  · obtain rfl : i = l.length := by omega
    rw [List.getElem_append_right (Nat.le_refl _), List.take_left']
    · simpa using ht
    · rfl
theorem disj_comm {s t : Tk} (h : Disj s t) : Disj t s := fun k hk => h k ⟨hk.2, hk.1⟩
theorem covT_lt {b : Bs} {p : Nat} {l ns : List Tk} (h : Stand b p l ns) {t : Tk} (ht : t ∈ l ++ ns) {k : Nat} (hk : covT t k = true) : k < p := by
  unfold covT at hk
  simp only [Bool.and_eq_true, Bool.not_eq_true', decide_eq_true_eq] at hk
  have := (h.at_ t ht hk.1.1).2.1
  omega
theorem Stand.line {b : Bs} {p : Nat} {l ns : List Tk} (h : Stand b p l ns) : Stand b p (line l p) ns := by
  unfold Dm.line
  split
  · have hn : nlT ⟨6, [10], p⟩ = true := rfl
    have hc : ∀ k, covT ⟨6, [10], p⟩ k = false := fun k => by unfold covT; rw [hn]; rfl
    have hperm : (l ++ [(⟨6, [10], p⟩ : Tk)] ++ ns).Perm ((⟨6, [10], p⟩ : Tk) :: (l ++ ns)) := by
      rw [List.append_assoc]
      exact List.perm_middle
    refine ⟨h.hp, fun t ht hnt => ?_, ord_snoc h.ord h.last, ?_, ?_, fun k hk hcv => h.blank k hk ?_⟩
    · rcases List.mem_cons.1 (hperm.mem_iff.1 ht) with rfl | ht
      · rw [hn] at hnt; cases hnt
      · exact h.at_ t ht hnt
    · rw [endOf_snoc, hn]; exact h.last
    · rw [hperm.pairwise_iff (fun hst => disj_comm hst)]
      exact List.pairwise_cons.2 ⟨fun x _ k hk => by rw [hc] at hk; exact absurd hk.1 (by decide), h.apart⟩
    · unfold cov at hcv ⊢
      rw [List.any_append, List.any_append] at hcv
      rw [List.any_append]
      simp only [Bool.or_eq_false_iff] at hcv ⊢
      exact ⟨hcv.1.1, hcv.2⟩
  · exact h
theorem Stand.adv {b : Bs} {p q : Nat} {l ns : List Tk} (h : Stand b p l ns) (hpq : p ≤ q) (hq : q ≤ b.length) (hb : ∀ k, p ≤ k → k < q → blankAt b k) : Stand b q l ns :=
  ⟨hq, fun t ht hn => ⟨(h.at_ t ht hn).1, by have := (h.at_ t ht hn).2.1; omega, (h.at_ t ht hn).2.2⟩, h.ord, by have := h.last; omega, h.apart, fun k hk hc => by
    by_cases hkp : k < p
    · exact h.blank k hkp hc
    · exact hb k (by omega) hk⟩
theorem covT_at {k : Nat} {b : Bs} {p n j : Nat} (hn : nlT ⟨k, (b.drop p).take n, p⟩ = false) (hle : p + n ≤ b.length) : covT ⟨k, (b.drop p).take n, p⟩ j = (decide (p ≤ j) && decide (j < p + n)) := by
  unfold covT
  rw [hn]
  have : ((b.drop p).take n).length = n := by rw [List.length_take, List.length_drop]; omega
  simp only [this]; rfl
theorem Stand.tok {b : Bs} {p n k : Nat} {l ns : List Tk} (h : Stand b p l ns) (hn : nlT ⟨k, (b.drop p).take n, p⟩ = false) (h1 : 1 ≤ n) (hle : p + n ≤ b.length) : Stand b (p + n) (l ++ [⟨k, (b.drop p).take n, p⟩]) ns := by
  have hlen : ((b.drop p).take n).length = n := by rw [List.length_take, List.length_drop]; omega
  have hperm : (l ++ [(⟨k, (b.drop p).take n, p⟩ : Tk)] ++ ns).Perm ((⟨k, (b.drop p).take n, p⟩ : Tk) :: (l ++ ns)) := by
    rw [List.append_assoc]
    exact List.perm_middle
  refine ⟨hle, fun t ht hnt => ?_, ord_snoc h.ord h.last, ?_, ?_, fun j hj hcv => ?_⟩
  · rcases List.mem_cons.1 (hperm.mem_iff.1 ht) with rfl | ht
    · refine ⟨fun e => ?_, by simp only [hlen]; omega, by simp only [hlen]⟩
      have := congrArg List.length e
      rw [hlen] at this; simp at this; omega
    · have := h.at_ t ht hnt
      exact ⟨this.1, by omega, this.2.2⟩
  · rw [endOf_snoc, hn]; simp only [Bool.false_eq_true, if_false, hlen]; omega
  · rw [hperm.pairwise_iff (fun hst => disj_comm hst)]
    refine List.pairwise_cons.2 ⟨fun x hx j hj => ?_, h.apart⟩
    rw [covT_at hn hle] at hj
    have := covT_lt h hx hj.2
    simp at hj; omega
  · unfold cov at hcv
    rw [List.any_append, List.any_append] at hcv
    simp only [Bool.or_eq_false_iff, List.any_cons, List.any_nil, Bool.or_false] at hcv
    rw [covT_at hn hle] at hcv
    by_cases hjp : j < p
    · exact h.blank j hjp (by unfold cov; rw [List.any_append]; simp only [Bool.or_eq_false_iff]; exact ⟨hcv.1.1, hcv.2⟩)
    · have := hcv.1.2
      simp at this; omega
theorem Stand.note {b : Bs} {p n : Nat} {l ns : List Tk} (h : Stand b p l ns) (h1 : 1 ≤ n) (hle : p + n ≤ b.length) : Stand b (p + n) l (ns ++ [⟨0, (b.drop p).take n, p⟩]) := by
  have hn : nlT ⟨0, (b.drop p).take n, p⟩ = false := rfl
  have hlen : ((b.drop p).take n).length = n := by rw [List.length_take, List.length_drop]; omega
  have hperm : (l ++ (ns ++ [(⟨0, (b.drop p).take n, p⟩ : Tk)])).Perm ((⟨0, (b.drop p).take n, p⟩ : Tk) :: (l ++ ns)) := by
    rw [← List.append_assoc]
    exact List.perm_append_singleton _ _
  refine ⟨hle, fun t ht hnt => ?_, h.ord, by have := h.last; omega, ?_, fun j hj hcv => ?_⟩
  · rcases List.mem_cons.1 (hperm.mem_iff.1 ht) with rfl | ht
    · refine ⟨fun e => ?_, by simp only [hlen]; omega, by simp only [hlen]⟩
      have := congrArg List.length e
      rw [hlen] at this; simp at this; omega
    · have := h.at_ t ht hnt
      exact ⟨this.1, by omega, this.2.2⟩
  · rw [hperm.pairwise_iff (fun hst => disj_comm hst)]
    refine List.pairwise_cons.2 ⟨fun x hx j hj => ?_, h.apart⟩
    rw [covT_at hn hle] at hj
    have := covT_lt h hx hj.2
    simp at hj; omega
  · unfold cov at hcv
    rw [← List.append_assoc, List.any_append] at hcv
    simp only [Bool.or_eq_false_iff, List.any_cons, List.any_nil, Bool.or_false] at hcv
    rw [covT_at hn hle] at hcv
    by_cases hjp : j < p
    · exact h.blank j hjp (by unfold cov; exact hcv.1)
    · have := hcv.2
      simp at this; omega

theorem stand_scan (b : Bs) (f : Nat) : ∀ (p : Nat) (l ns l' ns' : List Tk), Stand b p l ns → scanL f (b.drop p) p l ns = .ok (l', ns') → Stand b b.length l' ns' := by
  induction f with
  | zero =>
    intro p l ns l' ns' h hs
    cases hd : b.drop p with
    | nil =>
      rw [hd] at hs
      injection hs with hs
      injection hs with h1 h2
      subst h1 h2
      have hp : p = b.length := by
        have := congrArg List.length hd
        rw [List.length_drop] at this
        have := h.hp
        simp at *; omega
      subst hp
      exact h.line
    | cons c r => rw [hd] at hs; cases hs
  | succ f ih =>
    intro p l ns l' ns' h hs
    cases hd : b.drop p with
    | nil =>
      rw [hd] at hs
      injection hs with hs
      injection hs with h1 h2
      subst h1 h2
      have hp : p = b.length := by
        have := congrArg List.length hd
        rw [List.length_drop] at this
        have := h.hp
        simp at *; omega
      subst hp
      exact h.line
    | cons c r =>
      rw [hd] at hs
      rw [scan_step] at hs
      have hlen : (c :: r).length + p = b.length := by
        have := congrArg List.length hd
        rw [List.length_drop] at this
        have := h.hp
        simp only [List.length_cons] at *; omega
      have hc : b[p]? = some c := by
        have : (b.drop p)[0]? = some c := by rw [hd]; rfl
        rw [List.getElem?_drop] at this
        simpa using this
      have hdn : ∀ n, (c :: r).drop n = b.drop (p + n) := fun n => by rw [← hd, List.drop_drop]
      have hp := isPc (p == 0) c r
      have hpl := piece_len (p == 0) (c :: r)
      generalize hfb : (p == 0) = fb at hs hp hpl
      generalize piece fb (c :: r) = pc at hs hp hpl
      cases hp with
      | open_ => cases hs
      | text => cases hs
      | bad => cases hs
      | nl =>
        have e : r = b.drop (p + 1) := by have := hdn 1; exact this
        simp only at hs
        rw [e] at hs
        refine ih (p + 1) _ _ _ _ (h.line.adv (by omega) (by simp at hlen; omega) (fun k h1 h2 => ?_)) hs
        obtain rfl : k = p := by omega
        exact .inl ⟨10, hc, by simp⟩
      | mark _ _ hm =>
        simp only at hs
        have hpz : p = 0 := by simpa using hfb
        subst hpz
        rw [hdn 3] at hs
        have hl3 : 3 ≤ b.length := by
          have := congrArg List.length hm
          rw [List.length_take] at this
          simp only [List.length_cons, List.length_nil] at this hlen
          omega
        have hc239 : c = 239 := by rw [List.take_succ_cons] at hm; injection hm
        subst hc239
        exact ih (0 + 3) _ _ _ _ (h.adv (by omega) (by omega) (fun k h1 h2 => .inr ⟨by omega, hl3, hc⟩)) hs
      | blank _ _ _ hcc =>
        simp only at hs
        rw [hdn 1] at hs
        refine ih (p + 1) _ _ _ _ (h.adv (by omega) (by simp at hlen; omega) (fun k h1 h2 => ?_)) hs
        obtain rfl : k = p := by omega
        exact .inl ⟨c, hc, by rcases hcc with rfl | rfl | rfl <;> simp⟩
      | note _ _ _ n hn =>
        simp only at hs
        have hl := hpl (by simp)
        simp only [Pc.len] at hl
        rw [hdn n, ← hd] at hs
        have hb2 : p + n ≤ b.length := by omega
        split at hs
        · exact ih (p + n) _ _ _ _ (h.line.note hl.1 hb2) hs
        · exact ih (p + n) _ _ _ _ (h.note hl.1 hb2) hs
      | tok _ _ _ k n ht _ =>
        simp only at hs
        have hl := hpl (by simp)
        simp only [Pc.len] at hl
        have hi := isT_of ht p
        rw [hdn n] at hs
        rw [← hd] at hs hi
        have hb2 : p + n ≤ b.length := by omega
        have hnt : nlT ⟨k, (b.drop p).take n, p⟩ = false := by unfold nlT; simp only [Bool.and_eq_false_iff, beq_eq_false_iff_ne]; exact .inr hi.2
        exact ih (p + n) _ _ _ _ (h.tok hnt hl.1 hb2) hs
/-- TokenStands: where tokens and notes stand. -/
theorem scanS_stand {b : Bs} {l ns : List Tk} (h : scanS b = .ok l ns) : Stand b b.length l ns :=
  stand_scan b b.length 0 [] [] l ns ⟨Nat.zero_le _, fun t h => (by cases h), fun i hi => (by cases hi), Nat.le_refl _, List.Pairwise.nil, fun k hk => absurd hk (by omega)⟩ (by rw [List.drop_zero]; exact (scanS_ok h).2)
/-- No place is covered twice. -/
theorem Stand.once {b : Bs} {p : Nat} {l ns : List Tk} (h : Stand b p l ns) (i : Nat) (hi : i < (l ++ ns).length) (k : Nat) (hk : covT ((l ++ ns)[i]'hi) k = true) : cov ((l ++ ns).take i) k = false := by
  unfold cov
  rw [List.any_eq_false]
  intro x hx
  obtain ⟨j, hj, rfl⟩ := List.getElem_of_mem hx
  rw [List.length_take] at hj
  rw [List.getElem_take]
  have := (List.pairwise_iff_getElem.1 h.apart) j i (by omega) hi (by omega)
  intro hcj
  exact this k ⟨hcj, hk⟩
end Go.Proofs.Dm
