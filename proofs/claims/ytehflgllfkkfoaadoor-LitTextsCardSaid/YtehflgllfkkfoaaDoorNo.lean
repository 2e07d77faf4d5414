/- Chapter 03: awake. -/
import Derived.Test.YtehflgllfkkfoaaDoorNt
set_option linter.unusedVariables false
set_option linter.unusedSimpArgs false
namespace Go.Proofs.YtehflgllfkkfoaaDoor
open Go.RowKit Go.Proofs.Dm

theorem num_at (s : ByteArray) (t : Bs) (hs : s.size ≤ maxLen) (h : numL s.data.toList = .ok t) (w : World) : Calls Tryd.prog 26 #[.string s] w fun e w' => e = .returned (.tuple #[.string (bs t), .int .i64 0]) ∧ Below w.heap.size w w' := by
  refine (Number_any s hs w).mono ?_
  intro e w' hr
  unfold NumRet at hr
  rw [h] at hr
  exact hr
theorem num_bad (s : ByteArray) (hs : s.size ≤ maxLen) (h : numL s.data.toList = .bad) (w : World) : Calls Tryd.prog 26 #[.string s] w fun e w' => e = .returned (.tuple #[.string ⟨#[]⟩, .int .i64 4]) ∧ Below w.heap.size w w' := by
  refine (Number_any s hs w).mono ?_
  intro e w' hr
  unfold NumRet at hr
  rw [h] at hr
  exact hr
set_option maxRecDepth 100000 in
set_option maxHeartbeats 12800000 in
theorem awake3_any (w : World) (hT : Lib.Utf8Tabs 0 1 w) :
    Calls Tryd.prog 28 #[] w fun e w' => e = .returned (.bool true) ∧ Below w.heap.size w w' := by
  have HT := hide hT; clear hT
  go_enter Tryd.func28, Tryd.ntmps28
  go_wp2_with fail
  refine (num_at _ [51, 49] (by decide) (by decide +kernel) w).mono ?_
  rintro e w1 ⟨rfl, hb1⟩
  have HB1 := hide hb1; clear hb1
  go_wp2_with fail
  refine (num_at _ [49, 53] (by decide) (by decide +kernel) w1).mono ?_
  rintro e w2 ⟨rfl, hb2⟩
  have HB2 := hide (HB1.out.trans (hb2.mono HB1.out.size)); clear hb2
  go_wp2_with fail
  refine (num_bad _ (by decide) (by decide +kernel) w2).mono ?_
  rintro e w3 ⟨rfl, hb3⟩
  have HB3 := hide (HB2.out.trans (hb3.mono HB2.out.size)); clear hb3
  go_wp2_with fail
  refine (text_ex _ rfl w3 (Utf8Tabs_below HT.out HB3.out)).mono ?_
  rintro e w4 ⟨rfl, hb4⟩
  have HB4 := hide (HB3.out.trans (hb4.mono HB3.out.size)); clear hb4
  have b1 : ((bs [51, 49]).toList == [51, 49]) = true := by rw [toList_bs]; rfl
  have b2 : ((bs [49, 53]).toList == [49, 53]) = true := by rw [toList_bs]; rfl
  have b3 : ((bs [65, 195, 164]).toList == [65, 195, 164]) = true := by rw [toList_bs]; rfl
  go_wp2_with fail
  go_ret
  exact ⟨rfl, HB4.out⟩
end Go.Proofs.YtehflgllfkkfoaaDoor
