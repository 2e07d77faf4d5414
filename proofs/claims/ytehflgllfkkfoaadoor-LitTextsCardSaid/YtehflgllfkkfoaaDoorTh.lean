/- The scanner's 'sign': its rows of signs. -/
import Derived.Test.YtehflgllfkkfoaaDoorTg
import Derived.LoopN
set_option linter.unusedVariables false
namespace Go.Proofs.YtehflgllfkkfoaaDoor
open Go.RowKit Go.Proofs.Dm

theorem contains_iff (s sub : Bs) (hs : sub ≠ []) : Lib.contains s sub = true ↔ ∃ i, i < s.length ∧ sub.isPrefixOf (s.drop i) = true := by
  unfold Lib.contains
  rw [decide_eq_true_eq]
  induction s with
  | nil =>
    cases sub with
    | nil => exact absurd rfl hs
    | cons a b => simp [Lib.index]
  | cons d s ih =>
    simp only [Lib.index]
    by_cases hp : sub.isPrefixOf (d :: s) = true
    · rw [if_pos hp]
      exact ⟨fun _ => ⟨0, by simp, hp⟩, fun _ => by omega⟩
    · rw [if_neg hp]
      have hg := Lib.index_ge s sub
      constructor
      · intro h
        by_cases h1 : (Lib.index s sub == -1) = true
        · rw [if_pos h1] at h; omega
        · rw [if_neg h1] at h
          simp only [beq_iff_eq] at h1
          obtain ⟨i, hi, hpi⟩ := ih.1 (by omega)
          exact ⟨i + 1, by simp; omega, by simpa using hpi⟩
      · rintro ⟨i, hi, hpi⟩
        cases i with
        | zero => exact absurd hpi hp
        | succ i =>
          have := ih.2 ⟨i, by simpa using hi, by simpa using hpi⟩
          have h1 : ¬ (Lib.index s sub == -1) = true := by simp only [beq_iff_eq]; omega
          rw [if_neg h1]; omega
/-- A row of words of one length, blanks round each: a word of that length is found just if it is one of them. -/
theorem contains_row (row : Bs) (m : Nat) (ws : List Bs) (h1 : ∀ i, i < row.length → row[i]? = some 32 → row[i + m + 1]? = some 32 → (row.drop (i + 1)).take m ∈ ws)
    (h2 : ∀ x ∈ ws, Lib.contains row (32 :: (x ++ [32])) = true) (x : Bs) (hx : x.length = m) : Lib.contains row (32 :: (x ++ [32])) = decide (x ∈ ws) := by
  rw [Bool.eq_iff_iff, decide_eq_true_eq]
  constructor
  · intro h
    obtain ⟨i, hi, hp⟩ := (contains_iff _ _ (by simp)).1 h
    rw [List.isPrefixOf_iff_prefix] at hp
    obtain ⟨t, ht⟩ := hp
    have e0 : row[i]? = some 32 := by
      have := congrArg (·[0]?) ht
      simpa [List.getElem?_drop] using this.symm
    have e1 : row[i + m + 1]? = some 32 := by
      have := congrArg (·[m + 1]?) ht
      simp only [List.getElem?_drop, List.cons_append, List.getElem?_cons_succ] at this
      rw [List.append_assoc, List.getElem?_append_right (by omega), hx] at this
      simp at this
      rw [show i + m + 1 = i + (m + 1) from by omega]
      exact this.symm
    have e2 : (row.drop (i + 1)).take m = x := by
      have : row.drop (i + 1) = x ++ [32] ++ t := by
        have := congrArg (·.drop 1) ht
        simp only [List.drop_drop] at this
        rw [← this]; simp
      rw [this, List.append_assoc, ← hx, List.take_left]
    rw [← e2]
    exact h1 i hi e0 e1
  · exact h2 x
def row3 : Bs := [32, 60, 60, 61, 32, 62, 62, 61, 32, 38, 94, 61, 32, 46, 46, 46, 32]
theorem row3_find : ∀ x : Bs, x.length = 3 → Lib.contains row3 (32 :: (x ++ [32])) = decide (x ∈ signs3) :=
  contains_row row3 3 signs3 (by decide +kernel) (by decide +kernel)
def row2 : Bs := [32, 38, 38, 32, 124, 124, 32, 61, 61, 32, 33, 61, 32, 60, 61, 32, 62, 61, 32, 58, 61, 32, 43, 43, 32, 45, 45, 32, 43, 61, 32, 45, 61, 32, 42, 61, 32, 47, 61, 32, 37, 61, 32, 38, 61, 32, 124, 61, 32, 94, 61, 32, 60, 60, 32, 62, 62, 32, 38, 94, 32, 60, 45, 32]
theorem row2_find : ∀ x : Bs, x.length = 2 → Lib.contains row2 (32 :: (x ++ [32])) = decide (x ∈ signs2) :=
  contains_row row2 2 signs2 (by decide +kernel) (by decide +kernel)
def row1 : Bs := [32, 43, 32, 45, 32, 42, 32, 47, 32, 37, 32, 38, 32, 124, 32, 94, 32, 60, 32, 62, 32, 61, 32, 33, 32, 40, 32, 41, 32, 91, 32, 93, 32, 123, 32, 125, 32, 44, 32, 59, 32, 46, 32, 58, 32, 126, 32]
theorem row1_find : ∀ x : Bs, x.length = 1 → Lib.contains row1 (32 :: (x ++ [32])) = decide (x ∈ signs1) :=
  contains_row row1 1 signs1 (by decide +kernel) (by decide +kernel)
def signsV : Value := .agg #[.string ⟨#[60, 60, 61, 32, 62, 62, 61, 32, 38, 94, 61, 32, 46, 46, 46]⟩, .string ⟨#[38, 38, 32, 124, 124, 32, 61, 61, 32, 33, 61, 32, 60, 61, 32, 62, 61, 32, 58, 61, 32, 43, 43, 32, 45, 45, 32, 43, 61, 32, 45, 61, 32, 42, 61, 32, 47, 61, 32, 37, 61, 32, 38, 61, 32, 124, 61, 32, 94, 61, 32, 60, 60, 32, 62, 62, 32, 38, 94, 32, 60, 45]⟩, .string ⟨#[43, 32, 45, 32, 42, 32, 47, 32, 37, 32, 38, 32, 124, 32, 94, 32, 60, 32, 62, 32, 61, 32, 33, 32, 40, 32, 41, 32, 91, 32, 93, 32, 123, 32, 125, 32, 44, 32, 59, 32, 46, 32, 58, 32, 126]⟩]
set_option maxRecDepth 100000 in
theorem signs_any (w : World) : Calls Tryd.prog 93 #[] w fun e w' => e = .returned signsV ∧ Below w.heap.size w w' := by
  go_enter Tryd.func93, Tryd.ntmps93
  go_wp2
  refine bodyPost_ret (v := signsV) (by simp [results, Tryd.results93, go_sem, signsV]) rfl ⟨rfl, ?_⟩
  exact ((Below.refl _ w).alloc (Nat.le_refl _) _)
end Go.Proofs.YtehflgllfkkfoaaDoor
