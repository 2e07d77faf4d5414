/- The law LitTexts. -/
import Derived.Test.YtehflgllfkkfoaaDoorRw
import Derived.Test.YtehflgllfkkfoaaDoorNta
import Derived.Test.YtehflgllfkkfoaaDoorNqt
import Derived.Test.YtehflgllfkkfoaaDoorRa
set_option linter.unusedVariables false
set_option linter.unusedSimpArgs false
namespace Go.Proofs.YtehflgllfkkfoaaDoor
open Go.RowKit Go.Proofs.Dm

set_option maxRecDepth 100000 in
set_option maxHeartbeats 25600000 in
theorem texts_any (w : World) (s : ByteArray) (hs : s.size ≤ maxLen) (hT : Lib.Utf8Tabs 0 1 w) (hM : MaxLenOk w) (h3 : 3 ≤ w.heap.size) :
    Calls Tryd.prog 13 #[.string s] w fun e w' => e = .returned (.bool true) ∧ Below w.heap.size w w' := by
  have HT := hide hT; have HM := hide hM; have H3 := hide h3; clear hT hM h3
  by_cases la : (500 : Int) < (s.size : Int)
  · clear hs
    go_enter Tryd.func13, Tryd.ntmps13
    go_wp2_with fail
    go_ret
    exact ⟨rfl, Below.refl _ _⟩
  have HN := hide (fun (W : World) (hb : Below w.heap.size w W) => text_any s (by omega) W (Utf8Tabs_below HT.out hb) (HM.out.below hb H3.out) (Nat.le_trans H3.out hb.size))
  have HR := hide (rtext_any s (by omega))
  have HP := hide (Quote_any s (by omega))
  have HQ := hide (rQuote_any s (by omega))
  obtain ⟨p, hp⟩ : ∃ p, bs (quoteL s.data.toList) = p := ⟨_, rfl⟩
  rw [hp] at HP HQ
  have hres : ∃ (t : ByteArray) (k : Int), (∀ W, Below w.heap.size w W → Calls Tryd.prog 27 #[.string s] W fun e w' => e = .returned (.tuple #[.string t, .int .i64 k]) ∧ Below W.heap.size W w') ∧ (∀ w, Calls Tryd.prog 32 #[.string s] w fun e w' => e = .returned (.tuple #[.string t, .int .i64 k]) ∧ Below w.heap.size w w') := by
    cases hn : textL s.data.toList with
    | long => exact ⟨⟨#[]⟩, 12, fun W hb => (HN.out W hb).mono fun e w' h => by unfold TextRet at h; rw [hn] at h; exact h, fun w => (HR.out w).mono fun e w' h => by unfold RTxRet at h; rw [hn] at h; exact h.1.elim⟩
    | bad => exact ⟨⟨#[]⟩, 4, fun W hb => (HN.out W hb).mono fun e w' h => by unfold TextRet at h; rw [hn] at h; exact h, fun w => (HR.out w).mono fun e w' h => by unfold RTxRet at h; rw [hn] at h; exact h⟩
    | ok t => exact ⟨bs t, 0, fun W hb => (HN.out W hb).mono fun e w' h => by unfold TextRet at h; rw [hn] at h; exact h, fun w => (HR.out w).mono fun e w' h => by unfold RTxRet at h; rw [hn] at h; exact h⟩
  obtain ⟨t, k, h1, h2⟩ := hres
  have H1 := hide h1
  have H2 := hide h2
  have e1 : (t.toList == t.toList) = true := by simp
  have e2 : (k == k) = true := by simp
  have e3 : (p.toList == p.toList) = true := by simp
  clear h1 h2 hp hs
  go_enter Tryd.func13, Tryd.ntmps13
  go_wp2_with fail
  refine (H1.out w (Below.refl _ _)).mono ?_
  rintro e w1 ⟨rfl, hb1⟩
  have HB1 := hide hb1; clear hb1
  go_wp2_with fail
  refine (H2.out w1).mono ?_
  rintro e w2 ⟨rfl, hb2⟩
  have HB2 := hide (HB1.out.trans (hb2.mono HB1.out.size)); clear hb2
  go_wp2_with fail
  refine (HP.out w2).mono ?_
  rintro e w3 ⟨rfl, hb3⟩
  have HB3 := hide (HB2.out.trans (hb3.mono HB2.out.size)); clear hb3
  go_wp2_with fail
  refine (HQ.out w3).mono ?_
  rintro e w4 ⟨rfl, hb4⟩
  have HB4 := hide (HB3.out.trans (hb4.mono HB3.out.size)); clear hb4
  go_wp2_with fail
  refine (awake3_any w4 (Utf8Tabs_below HT.out HB4.out)).mono ?_
  rintro e w5 ⟨rfl, hb5⟩
  have HB5 := hide (HB4.out.trans (hb5.mono HB4.out.size)); clear hb5
  go_wp2_with fail
  go_ret
  exact ⟨rfl, HB5.out⟩
end Go.Proofs.YtehflgllfkkfoaaDoor
