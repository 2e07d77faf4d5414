/- The law LitTokens. -/
import Derived.Test.YtehflgllfkkfoaaDoorNta
import Derived.Test.YtehflgllfkkfoaaDoorRa
import Derived.Test.YtehflgllfkkfoaaDoorNo
set_option linter.unusedVariables false
set_option linter.unusedSimpArgs false
namespace Go.Proofs.YtehflgllfkkfoaaDoor
open Go.RowKit Go.Proofs.Dm

/-- How Scan of []byte(s) ends, where the tokens are one of a kind and the line's end. -/
theorem scan_one (k : Nat) (w : World) (X : ByteArray) (hX : X.size ≤ 300) (hscan : scanS X.data.toList = .ok [⟨k, X.data.toList, 0⟩, ⟨6, [10], X.data.toList.length⟩] [])
    (hT : Lib.Utf8Tabs 0 1 w) (hM : MaxLenOk w) (h3 : 3 ≤ w.heap.size) (W : World) (hb : Below w.heap.size w W) :
    Calls Tryd.prog 17 #[.slice (some ⟨W.heap.size, 0, none⟩) X.size (grownCap W X.size 0 5)] (Lib.bytesWorld W 5 X) fun e w' => ∃ g c, e = .returned (.tuple #[.slice (some ⟨g, 0, none⟩) 2 c, .int .i64 0, .int .i64 0]) ∧ 2 ≤ c ∧ w'.cell? ⟨g, 0, none⟩ = some (.int .i64 (k : Int)) ∧ w'.cell? ⟨g, 1, none⟩ = some (.string X) ∧ Below W.heap.size W w' := by
  have hba := bytes_made W X
  have hbl : Below W.heap.size W (Lib.bytesWorld W 5 X) := Lib.bytesWorld_below W _ X
  have hb2 := hb.trans (hbl.mono hb.size)
  have hsc := Scan_any _ _ _ hba (Utf8Tabs_below hT hb2) (hM.below hb2 h3) (Nat.le_trans h3 hb2.size) (by rw [← size_data]; omega)
  unfold ScanRet at hsc
  rw [hscan] at hsc
  refine hsc.mono ?_
  rintro e w1 ⟨v, rfl, ⟨hrow, A, c, rfl⟩, hok, hb1⟩
  obtain ⟨g, rfl, hr⟩ := tok_row_at hrow (by simp)
  have hlen : (2 : Nat) ≤ c := by
    rcases hrow.2 with ⟨hv, _⟩ | ⟨g', cap', cur, hv', _, _, h1, _⟩
    · cases hv
    · injection hv' with _ _ hc'; subst hc'; exact h1
  refine ⟨g, c, rfl, hlen, (hr 0 (by simp)).1, ?_, hbl.trans (hb1.mono hbl.size)⟩
  have h9 : w1.cell? ⟨g, 1, none⟩ = some (.string (bs X.data.toList)) := (hr 0 (by simp)).2.1
  rw [bs_of] at h9
  exact h9
theorem scan_some (w : World) (X : ByteArray) (hX : X.size ≤ 300)
    (hT : Lib.Utf8Tabs 0 1 w) (hM : MaxLenOk w) (h3 : 3 ≤ w.heap.size) (W : World) (hb : Below w.heap.size w W) :
    Calls Tryd.prog 17 #[.slice (some ⟨W.heap.size, 0, none⟩) X.size (grownCap W X.size 0 5)] (Lib.bytesWorld W 5 X) fun e w' => ∃ v a g, e = .returned (.tuple #[v, .int .i64 a, .int .i64 g]) ∧ Below W.heap.size W w' := by
  have hba := bytes_made W X
  have hbl : Below W.heap.size W (Lib.bytesWorld W 5 X) := Lib.bytesWorld_below W _ X
  have hb2 := hb.trans (hbl.mono hb.size)
  have hsc := Scan_any _ _ _ hba (Utf8Tabs_below hT hb2) (hM.below hb2 h3) (Nat.le_trans h3 hb2.size) (by rw [← size_data]; omega)
  unfold ScanRet at hsc
  cases hs : scanS X.data.toList with
  | bad p k =>
    rw [hs] at hsc
    exact hsc.mono fun e w1 ⟨he, hb1⟩ => ⟨_, _, _, he, hbl.trans (hb1.mono hbl.size)⟩
  | ok l ns =>
    rw [hs] at hsc
    exact hsc.mono fun e w1 ⟨v, he, _, _, hb1⟩ => ⟨_, _, _, he, hbl.trans (hb1.mono hbl.size)⟩

set_option maxRecDepth 100000 in
set_option maxHeartbeats 25600000 in
theorem tokens_any (w : World) (s : ByteArray) (hs : s.size ≤ maxLen) (hT : Lib.Utf8Tabs 0 1 w) (hM : MaxLenOk w) (h3 : 3 ≤ w.heap.size) :
    Calls Tryd.prog 15 #[.string s] w fun e w' => e = .returned (.bool true) ∧ Below w.heap.size w w' := by
  have HT := hide hT; have HM := hide hM; have H3 := hide h3; clear hT hM h3
  by_cases la : (300 : Int) < (s.size : Int)
  · go_enter Tryd.func15, Tryd.ntmps15
    go_wp2_with fail
    go_ret
    exact ⟨rfl, Below.refl _ _⟩
  have hsz := size_data s
  have HTX : Hid (∀ W : World, Below w.heap.size w W → Calls Tryd.prog 27 #[.string s] W (TextRet s.data.toList W)) := hide fun W hb => text_any s (by omega) W (Utf8Tabs_below HT.out hb) (HM.out.below hb H3.out) (Nat.le_trans H3.out hb.size)
  have HN := Number_any s hs
  have hcb : ∀ W : World, (convert 9 22 (.string s)).run Tryd.prog W = .ok (.slice (some ⟨W.heap.size, 0, none⟩) s.size (grownCap W s.size 0 5)) (Lib.bytesWorld W 5 s) := fun W =>
    Lib.run_convert_string_bytes (P := Tryd.prog) W 9 22 5 s Tryd.underlying9 Tryd.underlying22 Tryd.underlying5
  have eS : (s.toList == s.toList) = true := by simp
  have eS' : (s.toList != s.toList) = false := by simp
  have hsl : ¬ 65536 < s.data.toList.length := by rw [← hsz]; omega
  have hne : textL s.data.toList ≠ .long := by
    unfold textL
    rw [if_neg hsl]
    split
    · intro h; cases h
    · split
      · intro h; cases h
      · split
        · split <;> (intro h; cases h)
        · split
          · split <;> (intro h; cases h)
          · intro h; cases h
  have HSO := fun k h => scan_one k w s (by omega) h HT.out HM.out H3.out
  have HSS := scan_some w s (by omega) HT.out HM.out H3.out
  have HSO := hide HSO; have HSS := hide HSS
  unfold NumRet at HN
  cases hn : numL s.data.toList with
  | ok t =>
    have hns := (numL_scan hn).2
    rw [hn] at HN
    have hc := HSO.out 4 hns
    have htb : textL s.data.toList = .bad := by
      cases ht : textL s.data.toList with
      | long => exact absurd ht hne
      | bad => rfl
      | ok u => have := (textL_scan ht).2; rw [hns] at this; simp at this
    have HTB : Hid (∀ W : World, Below w.heap.size w W → Calls Tryd.prog 27 #[.string s] W fun e w' => e = .returned (.tuple #[.string ⟨#[]⟩, .int .i64 4]) ∧ Below W.heap.size W w') := hide fun W hb => (HTX.out W hb).mono fun e w' h => by unfold TextRet at h; rw [htb] at h; exact h
    have HC := hide hc
    have HN := hide HN
    clear hs hsz hsl hne hn hns hc htb HSO HSS HTX
    go_enter Tryd.func15, Tryd.ntmps15
    go_wp2_with fail
    refine (HN.out w).mono ?_
    rintro e w1 ⟨rfl, hb1⟩
    have HB1 := hide hb1; clear hb1
    go_wp2_with fail
    refine (HTB.out w1 HB1.out).mono ?_
    rintro e w2 ⟨rfl, hb2⟩
    have HB2 := hide (HB1.out.trans (hb2.mono HB1.out.size)); clear hb2
    go_wp2_with fail
    refine (HC.out w2 HB2.out).mono ?_
    rintro e w3 ⟨g, c, rfl, hc2, c0, c1, hb3⟩
    have HB3 := hide (HB2.out.trans (hb3.mono HB2.out.size)); clear hb3
    go_wp2_with fail
    refine (awake3_any w3 (Utf8Tabs_below HT.out HB3.out)).mono ?_
    rintro e w6 ⟨rfl, hb6⟩
    have HB6 := hide (HB3.out.trans (hb6.mono HB3.out.size)); clear hb6
    go_wp2_with fail
    go_ret
    exact ⟨rfl, HB6.out⟩
  | long =>
    rw [hn] at HN
    have HN := hide HN
    cases ht : textL s.data.toList with
    | long => exact absurd ht hne
    | ok u =>
      have hc := HSO.out 5 (textL_scan ht).2
      have HTB : Hid (∀ W : World, Below w.heap.size w W → Calls Tryd.prog 27 #[.string s] W fun e w' => ∃ t', e = .returned (.tuple #[.string t', .int .i64 0]) ∧ Below W.heap.size W w') := hide fun W hb => (HTX.out W hb).mono fun e w' h => by unfold TextRet at h; rw [ht] at h; obtain ⟨⟨t', h1⟩, h2⟩ := h; exact ⟨t', h1, h2⟩
      have HC := hide hc
      clear hs hsz hsl hne hn hc ht HSO HSS HTX
      go_enter Tryd.func15, Tryd.ntmps15
      go_wp2_with fail
      refine (HN.out w).mono ?_
      rintro e w1 ⟨rfl, hb1⟩
      have HB1 := hide hb1; clear hb1
      go_wp2_with fail
      refine (HTB.out w1 HB1.out).mono ?_
      rintro e w2 ⟨t', rfl, hb2⟩
      have HB2 := hide (HB1.out.trans (hb2.mono HB1.out.size)); clear hb2
      go_wp2_with fail
      refine (HC.out w2 HB2.out).mono ?_
      rintro e w3 ⟨g, c, rfl, hc2, c0, c1, hb3⟩
      have HB3 := hide (HB2.out.trans (hb3.mono HB2.out.size)); clear hb3
      go_wp2_with fail
      refine (awake3_any w3 (Utf8Tabs_below HT.out HB3.out)).mono ?_
      rintro e w6 ⟨rfl, hb6⟩
      have HB6 := hide (HB3.out.trans (hb6.mono HB3.out.size)); clear hb6
      go_wp2_with fail
      go_ret
      exact ⟨rfl, HB6.out⟩
    | bad =>
      have HTB : Hid (∀ W : World, Below w.heap.size w W → Calls Tryd.prog 27 #[.string s] W fun e w' => e = .returned (.tuple #[.string ⟨#[]⟩, .int .i64 4]) ∧ Below W.heap.size W w') := hide fun W hb => (HTX.out W hb).mono fun e w' h => by unfold TextRet at h; rw [ht] at h; exact h
      clear hs hsz hsl hne hn ht HSO HTX
      go_enter Tryd.func15, Tryd.ntmps15
      go_wp2_with fail
      refine (HN.out w).mono ?_
      rintro e w1 ⟨rfl, hb1⟩
      have HB1 := hide hb1; clear hb1
      go_wp2_with fail
      refine (HTB.out w1 HB1.out).mono ?_
      rintro e w2 ⟨rfl, hb2⟩
      have HB2 := hide (HB1.out.trans (hb2.mono HB1.out.size)); clear hb2
      go_wp2_with fail
      refine (HSS.out w2 HB2.out).mono ?_
      rintro e w3 ⟨v, a, g, rfl, hb3⟩
      have HB3 := hide (HB2.out.trans (hb3.mono HB2.out.size)); clear hb3
      go_wp2_with fail
      refine (awake3_any w3 (Utf8Tabs_below HT.out HB3.out)).mono ?_
      rintro e w6 ⟨rfl, hb6⟩
      have HB6 := hide (HB3.out.trans (hb6.mono HB3.out.size)); clear hb6
      go_wp2_with fail
      go_ret
      exact ⟨rfl, HB6.out⟩
  | bad =>
    rw [hn] at HN
    have HN := hide HN
    cases ht : textL s.data.toList with
    | long => exact absurd ht hne
    | ok u =>
      have hc := HSO.out 5 (textL_scan ht).2
      have HTB : Hid (∀ W : World, Below w.heap.size w W → Calls Tryd.prog 27 #[.string s] W fun e w' => ∃ t', e = .returned (.tuple #[.string t', .int .i64 0]) ∧ Below W.heap.size W w') := hide fun W hb => (HTX.out W hb).mono fun e w' h => by unfold TextRet at h; rw [ht] at h; obtain ⟨⟨t', h1⟩, h2⟩ := h; exact ⟨t', h1, h2⟩
      have HC := hide hc
      clear hs hsz hsl hne hn hc ht HSO HSS HTX
      go_enter Tryd.func15, Tryd.ntmps15
      go_wp2_with fail
      refine (HN.out w).mono ?_
      rintro e w1 ⟨rfl, hb1⟩
      have HB1 := hide hb1; clear hb1
      go_wp2_with fail
      refine (HTB.out w1 HB1.out).mono ?_
      rintro e w2 ⟨t', rfl, hb2⟩
      have HB2 := hide (HB1.out.trans (hb2.mono HB1.out.size)); clear hb2
      go_wp2_with fail
      refine (HC.out w2 HB2.out).mono ?_
      rintro e w3 ⟨g, c, rfl, hc2, c0, c1, hb3⟩
      have HB3 := hide (HB2.out.trans (hb3.mono HB2.out.size)); clear hb3
      go_wp2_with fail
      refine (awake3_any w3 (Utf8Tabs_below HT.out HB3.out)).mono ?_
      rintro e w6 ⟨rfl, hb6⟩
      have HB6 := hide (HB3.out.trans (hb6.mono HB3.out.size)); clear hb6
      go_wp2_with fail
      go_ret
      exact ⟨rfl, HB6.out⟩
    | bad =>
      have HTB : Hid (∀ W : World, Below w.heap.size w W → Calls Tryd.prog 27 #[.string s] W fun e w' => e = .returned (.tuple #[.string ⟨#[]⟩, .int .i64 4]) ∧ Below W.heap.size W w') := hide fun W hb => (HTX.out W hb).mono fun e w' h => by unfold TextRet at h; rw [ht] at h; exact h
      clear hs hsz hsl hne hn ht HSO HTX
      go_enter Tryd.func15, Tryd.ntmps15
      go_wp2_with fail
      refine (HN.out w).mono ?_
      rintro e w1 ⟨rfl, hb1⟩
      have HB1 := hide hb1; clear hb1
      go_wp2_with fail
      refine (HTB.out w1 HB1.out).mono ?_
      rintro e w2 ⟨rfl, hb2⟩
      have HB2 := hide (HB1.out.trans (hb2.mono HB1.out.size)); clear hb2
      go_wp2_with fail
      refine (HSS.out w2 HB2.out).mono ?_
      rintro e w3 ⟨v, a, g, rfl, hb3⟩
      have HB3 := hide (HB2.out.trans (hb3.mono HB2.out.size)); clear hb3
      go_wp2_with fail
      refine (awake3_any w3 (Utf8Tabs_below HT.out HB3.out)).mono ?_
      rintro e w6 ⟨rfl, hb6⟩
      have HB6 := hide (HB3.out.trans (hb6.mono HB3.out.size)); clear hb6
      go_wp2_with fail
      go_ret
      exact ⟨rfl, HB6.out⟩
end Go.Proofs.YtehflgllfkkfoaaDoor
