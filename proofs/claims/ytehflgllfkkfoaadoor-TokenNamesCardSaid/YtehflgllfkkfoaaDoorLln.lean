/- TokenNames, walked. -/
import Derived.Test.YtehflgllfkkfoaaDoorTq
import Derived.Test.YtehflgllfkkfoaaDoorRf
set_option linter.unusedVariables false
set_option linter.unusedSimpArgs false
namespace Go.Proofs.YtehflgllfkkfoaaDoor
open Go.RowKit Go.Proofs.Dm
set_option maxRecDepth 100000 in
set_option maxHeartbeats 6400000 in
theorem names_any (w : World) (s : ByteArray) (hs : s.size ≤ maxLen) (hT : Lib.Utf8Tabs 0 1 w) (hM : MaxLenOk w) (h3 : 3 ≤ w.heap.size) :
    Calls Tryd.prog 8 #[.string s] w fun e w' => e = .returned (.bool true) ∧ Below w.heap.size w w' := by
  by_cases hlong : (100 : Int) < (s.size : Int)
  · clear hT hM
    go_enter Tryd.func8, Tryd.ntmps8
    go_wp2_with fail
    go_ret
    exact ⟨rfl, Below.refl _ _⟩
  have hs2 : s.size ≤ 100 := by omega
  have HT := hide hT; clear hT
  have HM := hide hM; clear hM
  have hn1 := name_any s
  have hn2 := fun w => rname_any s w (by omega)
  have hw1 := word_any s
  have hw2 := fun w => rword_any w s.data.toList
  rw [bs_of] at hw2
  rw [toList_bs] at hw1
  obtain ⟨B, hB⟩ : ∃ B, nameL s.data.toList = B := ⟨_, rfl⟩
  rw [hB] at hn1 hn2
  obtain ⟨V, hV⟩ : ∃ V : Nat, word s.data.toList = V := ⟨_, rfl⟩
  rw [hV] at hw1 hw2
  clear hB hV hs
  have H1 := hide hn1; clear hn1
  have H2 := hide hn2; clear hn2
  have H3 := hide hw1; clear hw1
  have H4 := hide hw2; clear hw2
  have b1 : (B == B) = true := by simp
  have v1 : (((V : Int)) == (V : Int)) = true := by simp
  go_enter Tryd.func8, Tryd.ntmps8
  go_wp2_with fail
  refine (H1.out w).mono ?_
  rintro e w1 ⟨rfl, hb1⟩
  have HB1 := hide hb1; clear hb1
  go_wp2_with fail
  refine (H2.out w1).mono ?_
  rintro e w2 ⟨rfl, hb2⟩
  have HB2 := hide (HB1.out.trans (hb2.mono HB1.out.size)); clear hb2
  go_wp2_with fail
  refine (H3.out w2).mono ?_
  rintro e w3 ⟨rfl, rfl⟩
  go_wp2_with fail
  refine (H4.out w2).mono ?_
  rintro e w4 ⟨rfl, hb4⟩
  have HB4 := hide (HB2.out.trans (hb4.mono HB2.out.size)); clear hb4
  go_wp2_with fail
  refine (awake_any w4 (Utf8Tabs_below HT.out HB4.out) (HM.out.below HB4.out h3) (Nat.le_trans h3 (HB4.out).size)).mono ?_
  rintro e w9 ⟨rfl, hb9⟩
  have HB9 := hide hb9; clear hb9
  go_wp2_with fail
  go_ret
  exact ⟨rfl, (HB4.out).trans (HB9.out.mono (HB4.out).size)⟩
end Go.Proofs.YtehflgllfkkfoaaDoor
