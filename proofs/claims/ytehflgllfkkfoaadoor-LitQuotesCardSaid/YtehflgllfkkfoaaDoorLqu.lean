/- The law LitQuotes. -/
import Derived.Test.YtehflgllfkkfoaaDoorNqt
import Derived.Test.YtehflgllfkkfoaaDoorRa
import Derived.IntWalk
import Derived.Laws.Concat
set_option linter.unusedVariables false
set_option linter.unusedSimpArgs false
namespace Go.Proofs.YtehflgllfkkfoaaDoor
open Go.RowKit Go.Proofs.Dm

theorem quotes_split (a b : Bs) : quoteL (a ++ b) = (quoteL a).take ((quoteL a).length - 1) ++ (quoteL b).drop 1 := by
  have h1 : quoteL a = (34 :: quoteB a) ++ [34] := rfl
  have h2 : (quoteL b).drop 1 = quoteB b ++ [34] := rfl
  rw [h2]
  conv => rhs; rw [h1]
  rw [List.length_append, List.length_singleton, Nat.add_sub_cancel, List.take_left]
  unfold quoteL
  rw [quoteB_append]
  simp
set_option maxRecDepth 100000 in
set_option maxHeartbeats 25600000 in
theorem quotes_any (w : World) (a : ByteArray) (ha : a.size ≤ maxLen) (b : ByteArray) (hb : b.size ≤ maxLen) (hT : Lib.Utf8Tabs 0 1 w) (hM : MaxLenOk w) (h3 : 3 ≤ w.heap.size) :
    Calls Tryd.prog 14 #[.string a, .string b] w fun e w' => e = .returned (.bool true) ∧ Below w.heap.size w w' := by
  have HT := hide hT; clear hT hM h3
  by_cases la : (300 : Int) < (a.size : Int)
  · go_enter Tryd.func14, Tryd.ntmps14
    go_wp2_with fail
    go_ret
    exact ⟨rfl, Below.refl _ _⟩
  by_cases lb : (300 : Int) < (b.size : Int)
  · go_enter Tryd.func14, Tryd.ntmps14
    go_wp2_with fail
    go_ret
    exact ⟨rfl, Below.refl _ _⟩
  have a1 : (a.size : Int) ≤ 8388608 := by omega
  have b1 : (b.size : Int) ≤ 8388608 := by omega
  have HQA := Quote_any a (by omega)
  have HQB := Quote_any b (by omega)
  obtain ⟨c, hc⟩ : ∃ c, a ++ b = c := ⟨_, rfl⟩
  have hcs : c.size ≤ 600 := by rw [← hc, ByteArray.size_append]; omega
  have hcd : c.data.toList = a.data.toList ++ b.data.toList := by rw [← hc]; simp
  have HQC := Quote_any c (by omega)
  have la2 := quoteB_len a.data.toList
  have lb2 := quoteB_len b.data.toList
  have sa := size_data a
  have sb := size_data b
  obtain ⟨X, hX⟩ : ∃ X, bs (quoteL a.data.toList) = X := ⟨_, rfl⟩
  obtain ⟨Y, hY⟩ : ∃ Y, bs (quoteL b.data.toList) = Y := ⟨_, rfl⟩
  obtain ⟨Z, hZ⟩ : ∃ Z, bs (quoteL c.data.toList) = Z := ⟨_, rfl⟩
  have hXd : X.data.toList = quoteL a.data.toList := by rw [← hX]; rfl
  have hYd : Y.data.toList = quoteL b.data.toList := by rw [← hY]; rfl
  have hZd : Z.data.toList = quoteL c.data.toList := by rw [← hZ]; rfl
  have lq : ∀ l : Bs, (quoteL l).length = (quoteB l).length + 2 := fun l => by unfold quoteL; simp
  have hXs : X.size = (quoteB a.data.toList).length + 2 := by rw [size_data, hXd, lq]
  have hYs : Y.size = (quoteB b.data.toList).length + 2 := by rw [size_data, hYd, lq]
  obtain ⟨m, hm⟩ : ∃ m, X.size - 1 = m := ⟨_, rfl⟩
  have hmi : (X.size : Int) - 1 = (m : Int) := by omega
  have hwr : IntKind.i64.wrap ((X.size : Int) - 1) = (m : Int) := by rw [hmi]; exact IntWalk.i64_in _ (by omega)
  have hwr2 : IntKind.i64.wrap (m : Int) = (m : Int) := IntWalk.i64_in _ (by omega)
  obtain ⟨A, hA⟩ : ∃ A, X.extract 0 m = A := ⟨_, rfl⟩
  obtain ⟨B, hB⟩ : ∃ B, Y.extract 1 Y.size = B := ⟨_, rfl⟩
  obtain ⟨C, hC⟩ : ∃ C, A ++ B = C := ⟨_, rfl⟩
  have hCZ : (Z.toList == C.toList) = true := by
    have : C.data.toList = Z.data.toList := by
      rw [← hC, hZd, hcd, quotes_split, ← hB, extract_from, ← hA]
      have h1 : (X.extract 0 m).data.toList = X.data.toList.take m := by simp [ByteArray.extract, ByteArray.copySlice]
      have h2 : (quoteL a.data.toList).length - 1 = m := by rw [← hm, size_data, hXd]
      simp [hYd, ← hXd, h2]
      rw [hm]; rfl
    rw [toList_bs, toList_bs, this]
    simp
  have x2 : (2 : Int) ≤ (X.size : Int) := by omega
  have y2 : (2 : Int) ≤ (Y.size : Int) := by omega
  have x3 : (X.size : Int) ≤ 8388608 := by omega
  have y3 : (Y.size : Int) ≤ 8388608 := by omega
  have y1 : (1 : Int) ≤ (Y.size : Int) := by omega
  have m0 : (0 : Int) ≤ (m : Int) := by omega
  have m1 : (m : Int) ≤ (X.size : Int) := by omega
  have zA : (A.size : Int) ≤ 8388608 := by rw [← hA]; simp; omega
  have zB : (B.size : Int) ≤ 8388608 := by rw [← hB]; simp; omega
  have hso : ∀ w : World, (Op.stringOp .add A B).run Tryd.prog w = .ok (.string C) w := fun w => by rw [← hC]; exact run_string_add_sum w A B (by omega)
  rw [hX] at HQA
  rw [hY] at HQB
  rw [hZ] at HQC
  have HQA := hide HQA
  have HQB := hide HQB
  have HQC := hide HQC
  clear hX hY hZ hXd hYd hZd hXs hYs lq la2 lb2 sa sb hcd hcs ha hb hm
  go_enter Tryd.func14, Tryd.ntmps14
  go_wp2_with fail
  refine (HQA.out w).mono ?_
  rintro e w1 ⟨rfl, hb1⟩
  have HB1 := hide hb1; clear hb1
  go_wp2_with fail
  refine (HQB.out w1).mono ?_
  rintro e w2 ⟨rfl, hb2⟩
  have HB2 := hide (HB1.out.trans (hb2.mono HB1.out.size)); clear hb2
  go_wp2_with fail
  refine (HQC.out w2).mono ?_
  rintro e w3 ⟨rfl, hb3⟩
  have HB3 := hide (HB2.out.trans (hb3.mono HB2.out.size)); clear hb3
  go_wp2_with fail
  go_still_tail 21, (by kernel_rfl)
  rw [drew_lit]
  go_wp2_with fail
  refine (awake3_any w3.drew (Utf8Tabs_below HT.out HB3.out.drew)).mono ?_
  rintro e w4 ⟨rfl, hb4⟩
  have HB4 := hide (HB3.out.drew.trans (hb4.mono HB3.out.size)); clear hb4
  go_wp2_with fail
  go_ret
  exact ⟨rfl, HB4.out⟩
end Go.Proofs.YtehflgllfkkfoaaDoor
