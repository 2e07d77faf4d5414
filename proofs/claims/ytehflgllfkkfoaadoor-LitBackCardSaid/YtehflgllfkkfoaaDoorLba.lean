/- The law LitBack. -/
import Derived.Test.YtehflgllfkkfoaaDoorNqt
import Derived.Test.YtehflgllfkkfoaaDoorNtg
import Derived.Test.YtehflgllfkkfoaaDoorNpl
import Derived.Test.YtehflgllfkkfoaaDoorRa
import Derived.IntWalk
set_option linter.unusedVariables false
set_option linter.unusedSimpArgs false
namespace Go.Proofs.YtehflgllfkkfoaaDoor
open Go.RowKit Go.Proofs.Dm

set_option maxRecDepth 100000 in
set_option maxHeartbeats 25600000 in
theorem back_any (w : World) (s : ByteArray) (hs : s.size ≤ maxLen) (d : ByteArray) (hd : d.size ≤ maxLen) (hT : Lib.Utf8Tabs 0 1 w) (hM : MaxLenOk w) (h3 : 3 ≤ w.heap.size) :
    Calls Tryd.prog 16 #[.string s, .string d] w fun e w' => e = .returned (.bool true) ∧ Below w.heap.size w w' := by
  have HT := hide hT; have HM := hide hM; have H3 := hide h3; clear hT hM h3
  by_cases la : (500 : Int) < (s.size : Int)
  · go_enter Tryd.func16, Tryd.ntmps16
    go_wp2_with fail
    go_ret
    exact ⟨rfl, Below.refl _ _⟩
  by_cases lb : (300 : Int) < (d.size : Int)
  · go_enter Tryd.func16, Tryd.ntmps16
    go_wp2_with fail
    go_ret
    exact ⟨rfl, Below.refl _ _⟩
  have HQ := Quote_any s (by omega)
  have HPL := Plain_any d (by omega)
  have hss := size_data s
  have hqb := quoteB_len s.data.toList
  have hgq := quoteB_good s.data.toList (by omega)
  have hscan := quoteL_scan s.data.toList (by omega)
  have hwl := wrong_of_good (quoteL_good s.data.toList) (quoteL s.data.toList).length 0 (Nat.le_refl _)
  obtain ⟨X, hX⟩ : ∃ X, bs (quoteL s.data.toList) = X := ⟨_, rfl⟩
  have hXd : X.data.toList = quoteL s.data.toList := by rw [← hX]; rfl
  have hXs : X.size = (quoteB s.data.toList).length + 2 := by rw [size_data, hXd]; unfold quoteL; simp
  have HTX := text_good X (quoteB s.data.toList) s.data.toList hXd (by omega) (by rw [hXd]; exact hwl) hgq (by omega)
  have hbs : bs s.data.toList = s := bs_of s
  rw [hbs] at HTX
  rw [hX] at HQ
  have hcb : ∀ W : World, (convert 9 22 (.string X)).run Tryd.prog W = .ok (.slice (some ⟨W.heap.size, 0, none⟩) X.size (grownCap W X.size 0 5)) (Lib.bytesWorld W 5 X) := fun W =>
    Lib.run_convert_string_bytes (P := Tryd.prog) W 9 22 5 X Tryd.underlying9 Tryd.underlying22 Tryd.underlying5
  have HSC : Hid (∀ W : World, Below w.heap.size w W → Calls Tryd.prog 17 #[.slice (some ⟨W.heap.size, 0, none⟩) X.size (grownCap W X.size 0 5)] (Lib.bytesWorld W 5 X) fun e w' => ∃ g c, e = .returned (.tuple #[.slice (some ⟨g, 0, none⟩) 2 c, .int .i64 0, .int .i64 0]) ∧ 2 ≤ c ∧ w'.cell? ⟨g, 0, none⟩ = some (.int .i64 5) ∧ w'.cell? ⟨g, 1, none⟩ = some (.string X) ∧ Below W.heap.size W w') := hide (fun W hb => by
    have hba := bytes_made W X
    have hbl : Below W.heap.size W (Lib.bytesWorld W 5 X) := Lib.bytesWorld_below W _ X
    have hb2 := hb.trans (hbl.mono hb.size)
    have hsc := Scan_any _ _ _ hba (Utf8Tabs_below HT.out hb2) (HM.out.below hb2 H3.out) (Nat.le_trans H3.out hb2.size) (by rw [← size_data]; omega)
    unfold ScanRet at hsc
    rw [hXd, hscan] at hsc
    refine hsc.mono ?_
    rintro e w1 ⟨v, rfl, ⟨hrow, A, c, rfl⟩, hok, hb1⟩
    obtain ⟨g, rfl, hr⟩ := tok_row_at hrow (by simp)
    have hlen : (2 : Nat) ≤ c := by
      rcases hrow.2 with ⟨hv, _⟩ | ⟨g', cap', cur, hv', _, _, h1, _⟩
      · cases hv
      · injection hv' with _ _ hc'; subst hc'; exact h1
    refine ⟨g, c, rfl, hlen, (hr 0 (by simp)).1, ?_, hbl.trans (hb1.mono hbl.size)⟩
    have := (hr 0 (by simp)).2.1
    rw [← hX]; exact this)
  have HTX := hide HTX
  have HQ := hide HQ
  have eS : (s.toList == s.toList) = true := by simp
  have eS' : (s.toList != s.toList) = false := by simp
  have eX : (X.toList == X.toList) = true := by simp
  have eX' : (X.toList != X.toList) = false := by simp
  have HND : Hid (plainL d.data.toList = true → ∀ W, Calls Tryd.prog 26 #[.string d] W fun e w' => e = .returned (.tuple #[.string d, .int .i64 0]) ∧ Below W.heap.size W w') := hide (fun hp W => by
    have := num_at d _ hd (numL_plain hp) W
    rwa [bs_of d] at this)
  obtain ⟨p, hp⟩ : ∃ p, plainL d.data.toList = p := ⟨_, rfl⟩
  rw [hp] at HPL HND
  have eD : (d.toList == d.toList) = true := by simp
  have HPL := hide HPL
  clear hs hd hss hqb hgq hscan hwl hX hXd hXs hbs hp
  cases p with
  | true =>
    go_enter Tryd.func16, Tryd.ntmps16
    go_wp2_with fail
    refine (HQ.out w).mono ?_
    rintro e w1 ⟨rfl, hb1⟩
    have HB1 := hide hb1; clear hb1
    go_wp2_with fail
    refine (HTX.out w1 (Utf8Tabs_below HT.out HB1.out)).mono ?_
    rintro e w2 ⟨rfl, hb2⟩
    have HB2 := hide (HB1.out.trans (hb2.mono HB1.out.size)); clear hb2
    go_wp2_with fail
    refine (HSC.out w2 HB2.out).mono ?_
    rintro e w3 ⟨g, c, rfl, hc2, c0, c1, hb3⟩
    have HB3 := hide (HB2.out.trans (hb3.mono HB2.out.size)); clear hb3
    go_wp2_with fail
    refine (HPL.out w3).mono ?_
    rintro e w4 ⟨rfl, hb4⟩
    have HB4 := hide (HB3.out.trans (hb4.mono HB3.out.size)); clear hb4
    go_wp2_with fail
    refine (HND.out (by trivial) w4).mono ?_
    rintro e w5 ⟨rfl, hb5⟩
    have HB5 := hide (HB4.out.trans (hb5.mono HB4.out.size)); clear hb5
    go_wp2_with fail
    refine (awake3_any w5 (Utf8Tabs_below HT.out HB5.out)).mono ?_
    rintro e w6 ⟨rfl, hb6⟩
    have HB6 := hide (HB5.out.trans (hb6.mono HB5.out.size)); clear hb6
    go_wp2_with fail
    go_ret
    exact ⟨rfl, HB6.out⟩
  | false =>
    go_enter Tryd.func16, Tryd.ntmps16
    go_wp2_with fail
    refine (HQ.out w).mono ?_
    rintro e w1 ⟨rfl, hb1⟩
    have HB1 := hide hb1; clear hb1
    go_wp2_with fail
    refine (HTX.out w1 (Utf8Tabs_below HT.out HB1.out)).mono ?_
    rintro e w2 ⟨rfl, hb2⟩
    have HB2 := hide (HB1.out.trans (hb2.mono HB1.out.size)); clear hb2
    go_wp2_with fail
    refine (HSC.out w2 HB2.out).mono ?_
    rintro e w3 ⟨g, c, rfl, hc2, c0, c1, hb3⟩
    have HB3 := hide (HB2.out.trans (hb3.mono HB2.out.size)); clear hb3
    go_wp2_with fail
    refine (HPL.out w3).mono ?_
    rintro e w4 ⟨rfl, hb4⟩
    have HB4 := hide (HB3.out.trans (hb4.mono HB3.out.size)); clear hb4
    go_wp2_with fail
    refine (awake3_any w4 (Utf8Tabs_below HT.out HB4.out)).mono ?_
    rintro e w6 ⟨rfl, hb6⟩
    have HB6 := hide (HB4.out.trans (hb6.mono HB4.out.size)); clear hb6
    go_wp2_with fail
    go_ret
    exact ⟨rfl, HB6.out⟩
end Go.Proofs.YtehflgllfkkfoaaDoor
