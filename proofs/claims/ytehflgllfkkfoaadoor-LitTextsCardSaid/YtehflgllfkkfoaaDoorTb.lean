/- Small functions of package token, and 'add'. -/
import Derived.Test.YtehflgllfkkfoaaDoorUtf
import Derived.Test.YtehflgllfkkfoaaDoorTa
import Derived.Deep.RegionHeld3
import Derived.Deep.RegionLaw
import Derived.BigQuiet
import Derived.Deep.QuietTactic
namespace Go.Proofs.YtehflgllfkkfoaaDoor
open Go.RowKit Go.Proofs.Dm

theorem need_true (x : Value) (p : Int) (w : World) : Calls Tryd.prog 91 #[x, .bool true, .int .i64 p] w fun e w' => e = .returned (.tuple #[]) ∧ w = w' := by
  go_enter Tryd.func91, Tryd.ntmps91
  go_wp2
  go_end0
  exact ⟨rfl, rfl⟩
/-- What a wrong place is as a panic. -/
def wrongAt (p : Int) : List PanicEntry := [{ v := .iface 77 (.agg #[.int .i64 p]), recovered := false }]
theorem need_false (x : Value) (p : Int) (w : World) : Calls Tryd.prog 91 #[x, .bool false, .int .i64 p] w fun e w' => e = .panicked (wrongAt p) ∧ w = w' := by
  go_enter Tryd.func91, Tryd.ntmps91
  go_wp2
  exact ⟨rfl, rfl, rfl⟩

theorem ret_bool {a b : Bool} (h : a = b) : Ending.returned (.bool a) = .returned (.bool b) := by rw [h]
def letR (c : Int) : Bool := decide (c = 95) || (decide (97 ≤ c) && decide (c ≤ 122)) || (decide (65 ≤ c) && decide (c ≤ 90))
def figR (c : Int) : Bool := decide (48 ≤ c) && decide (c ≤ 57)
theorem letter_any (c : Int) (w : World) : Calls Tryd.prog 43 #[.int .i32 c] w fun e w' => e = .returned (.bool (letR c)) ∧ w = w' := by
  go_enter Tryd.func43, Tryd.ntmps43
  go_wp2
  all_goals go_ret
  all_goals (refine ⟨ret_bool ?_, rfl⟩; rw [Bool.eq_iff_iff]; simp [letR]; try omega)
theorem figure_any (c : Int) (w : World) : Calls Tryd.prog 44 #[.int .i32 c] w fun e w' => e = .returned (.bool (figR c)) ∧ w = w' := by
  go_enter Tryd.func44, Tryd.ntmps44
  go_wp2
  all_goals go_ret
  all_goals (refine ⟨ret_bool ?_, rfl⟩; rw [Bool.eq_iff_iff]; simp [figR]; try omega)
def alnR (c : Int) : Bool := letR c || figR c
theorem alnR_eq (c : Int) : alnR c = alnI c := rfl
theorem next1_any (c : Int) (w : World) : Calls Tryd.prog 74 #[.int .i32 c] w fun e w' => e = .returned (.bool (alnR c)) ∧ w = w' := by
  unfold alnR
  cases hl : letR c
  all_goals
    go_enter Tryd.func74, Tryd.ntmps74
    go_wp2_with (first | (go_at_call 43; refine (letter_any _ _).mono ?_; rintro e w' ⟨rfl, rfl⟩) | (go_at_call 44; refine (figure_any _ _).mono ?_; rintro e w' ⟨rfl, rfl⟩))
    go_ret
    exact ⟨by simp, rfl⟩
theorem next2_any (c : Int) (w : World) : Calls Tryd.prog 76 #[.int .i32 c] w fun e w' => e = .returned (.bool (alnR c)) ∧ w = w' := by
  unfold alnR
  cases hl : letR c
  all_goals
    go_enter Tryd.func76, Tryd.ntmps76
    go_wp2_with (first | (go_at_call 43; refine (letter_any _ _).mono ?_; rintro e w' ⟨rfl, rfl⟩) | (go_at_call 44; refine (figure_any _ _).mono ?_; rintro e w' ⟨rfl, rfl⟩))
    go_ret
    exact ⟨by simp, rfl⟩
end Go.Proofs.YtehflgllfkkfoaaDoor
