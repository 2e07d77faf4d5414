/- TokenScans, walked. -/
import Derived.Test.YtehflgllfkkfoaaDoorRm
set_option linter.unusedVariables false
set_option linter.unusedSimpArgs false
namespace Go.Proofs.YtehflgllfkkfoaaDoor
open Go.RowKit Go.Proofs.Dm

theorem TokRow.ta {base : Nat} {w : World} {v : Value} {l : List Tk} (h : TokRow base w v l) : ∃ A c, v = .slice A l.length c ∧ TA w A l ∧ l.length ≤ c := by
  rcases h.lies with ⟨rfl, A, c, rfl⟩ | ⟨g, c, rfl, hc, _, hr⟩
  · exact ⟨A, c, rfl, .inl rfl, Nat.zero_le _⟩
  · exact ⟨_, c, rfl, .inr ⟨g, rfl, hr⟩, hc⟩
theorem empty_own (w : World) (T : TypeId) : (w.alloc (.cells #[] T (0, 0))).ownsRow w.heap.size T 1 (.slice (some ⟨w.heap.size, 0, none⟩) 0 0) 0 [] :=
  ⟨rfl, .inr ⟨w.heap.size, 0, #[], rfl, Nat.le_refl _, heap_alloc_new w _, Nat.le_refl _, by simp, by simp, by simp⟩⟩
theorem bcells_at {w : World} {a o : Nat} {b : Bs} (h : ∀ j (hj : j < b.length), w.cell? ⟨a, o + j, none⟩ = some (.int .u8 ((b[j]'hj).toNat : Int))) (j : Nat) (u : Value) (hu : (bcells b)[j]? = some u) : w.cell? ((⟨a, o, none⟩ : Addr).add j) = some u := by
  unfold bcells at hu
  rw [List.getElem?_map] at hu
  obtain ⟨x, hx, rfl⟩ := Option.map_eq_some_iff.1 hu
  obtain ⟨hj, rfl⟩ := List.getElem?_eq_some_iff.1 hx
  have e : (⟨a, o, none⟩ : Addr).add j = ⟨a, o + j, none⟩ := by unfold Addr.add; split <;> simp_all
  rw [e]; exact h j hj

set_option maxRecDepth 100000 in
set_option maxHeartbeats 12800000 in
theorem scans_any (w : World) (v : Value) (b : Bs) (hv : BytesAt w v b) (hT : Lib.Utf8Tabs 0 1 w) (hM : MaxLenOk w) (h3 : 3 ≤ w.heap.size) :
    Calls Tryd.prog 5 #[v] w fun e w' => e = .returned (.bool true) ∧ Below w.heap.size w w' := by
  obtain ⟨A, c, rfl⟩ := hv.slice
  by_cases hlong : (1000 : Int) < (b.length : Int)
  · clear hv hT hM
    go_enter Tryd.func5, Tryd.ntmps5
    go_wp2_with fail
    go_ret
    exact ⟨rfl, Below.refl _ _⟩
  have hb : b.length ≤ 1000 := by omega
  have HT := hide hT; clear hT
  have HM := hide hM; clear hM
  have HV := hide hv; clear hv
  obtain ⟨i0, hi0, hz0, hz1, hz2⟩ := info_parts byteInfo
  have lb : (b.length : Int) ≤ 1000 := by omega
  have hrs := fun (W : World) (hw : Below w.heap.size w W) => rscan_any W _ b (HV.out.below hw) (by omega)
  have HRS := hide hrs; clear hrs
  have hnt := fun (W : World) (hw : Below w.heap.size w W) => Notes_any W _ b (HV.out.below hw) (Utf8Tabs_below HT.out hw) (HM.out.below hw h3) (Nat.le_trans h3 hw.size) (by omega)
  have HNT := hide hnt; clear hnt
  have hsc := fun (W : World) (v : Value) (hw : Below w.heap.size w W) (hv : BytesAt W v b) => Scan_any W v b hv (Utf8Tabs_below HT.out hw) (HM.out.below hw h3) (Nat.le_trans h3 hw.size) (by omega)
  have HSC := hide hsc; clear hsc
  have hcnt : ∀ l ns, scanS b = .ok l ns → l.length ≤ 1001 ∧ ns.length ≤ 1001 := fun l ns h => by have := scan_count h; omega
  have HCNT := hide hcnt; clear hcnt
  by_cases h0 : b = []
  · subst h0
    have hpu : ∀ W : World, Sem.run Tryd.prog (pure (#[] : Array Value)) W = .ok #[] W := fun _ => rfl
    have hst0 : ∀ (W : World) (x : Addr), Sem.run Tryd.prog (storeCells x ([] : List Value)) W = .ok () W := fun _ _ => rfl
    have hb1 : Below w.heap.size w (w.alloc (.cells #[] 5 (0, 0))) := (Below.refl _ w).alloc (Nat.le_refl _) _
    have hs1 := HSC.out (w.alloc (.cells #[] 5 (0, 0))) (.slice (some ⟨w.heap.size, 0, none⟩) 0 0) hb1 (.inl ⟨_, _, rfl, rfl⟩)
    obtain ⟨w1, hw1⟩ : ∃ w1, w.alloc (.cells #[] 5 (0, 0)) = w1 := ⟨_, rfl⟩
    rw [hw1] at hs1 hb1
    have HW1 := hide hw1; clear hw1
    have HSS := hide hs1; clear hs1
    have HBB := hide hb1; clear hb1
    cases A
    all_goals
      show Calls _ _ #[.slice _ 0 c] _ _
      go_enter Tryd.func5, Tryd.ntmps5
      go_wp2_with fail
      rw [HW1.out]
      have hs1 := HSS.out
      have hb1 := HBB.out
      clear hpu hst0
      cases hS : scanS ([] : Bs) with
      | bad p k =>
        unfold ScanRet at hs1
        rw [hS] at hs1
        have hr := HRS.out
        unfold RScanRet at hr
        rw [hS] at hr
        have hn := HNT.out
        unfold NotesRet at hn
        rw [hS] at hn
        simp only at hs1 hr hn
        have HS1 := hide hs1
        have HR := hide hr
        have HN := hide hn
        have HB1 := hide hb1
        have ek : (((k : Int)) == (k : Int)) = true := by simp
        have ep : (((p : Int)) == (p : Int)) = true := by simp
        clear hs1 hr hn hb1 hS
        refine HS1.out.mono ?_
        rintro e w2 ⟨rfl, hb2⟩
        have HB2 := hide (HB1.out.trans (hb2.mono HB1.out.size)); clear hb2
        go_wp2_with fail
        refine (HR.out w2 HB2.out).mono ?_
        rintro e w3 ⟨rfl, hb3⟩
        have HB3 := hide (HB2.out.trans (hb3.mono HB2.out.size)); clear hb3
        go_wp2_with fail
        refine (told_same w3 none none 0 0 [] (.inl rfl) (.inl rfl) (Nat.le_refl _) (Nat.le_refl _) (Nat.zero_le _)).mono ?_
        rintro e w4 ⟨rfl, hb4⟩
        have HB4 := hide (HB3.out.trans (hb4.mono HB3.out.size)); clear hb4
        go_wp2_with fail
        refine (HN.out w4 HB4.out).mono ?_
        rintro e w5 ⟨rfl, hb5⟩
        have HB5 := hide (HB4.out.trans (hb5.mono HB4.out.size)); clear hb5
        go_wp2_with fail
        refine (told_same w5 none none 0 0 [] (.inl rfl) (.inl rfl) (Nat.le_refl _) (Nat.le_refl _) (Nat.zero_le _)).mono ?_
        rintro e w6 ⟨rfl, hb6⟩
        have HB6 := hide (HB5.out.trans (hb6.mono HB5.out.size)); clear hb6
        go_wp2_with fail
        refine (awake_any w6 (Utf8Tabs_below HT.out HB6.out) (HM.out.below HB6.out h3) (Nat.le_trans h3 (HB6.out).size)).mono ?_
        rintro e w9 ⟨rfl, hb9⟩
        have HB9 := hide hb9; clear hb9
        go_wp2_with fail
        go_ret
        exact ⟨rfl, (HB6.out).trans (HB9.out.mono (HB6.out).size)⟩
      | ok l ns =>
        unfold ScanRet at hs1
        rw [hS] at hs1
        have hr := HRS.out
        unfold RScanRet at hr
        rw [hS] at hr
        have hn := HNT.out
        unfold NotesRet at hn
        rw [hS] at hn
        simp only at hs1 hr hn
        obtain ⟨hcl, hcn⟩ := HCNT.out l ns hS
        have HS1 := hide hs1
        have HR := hide hr
        have HN := hide hn
        have HB1 := hide hb1
        clear hs1 hr hn hb1 hS
        refine HS1.out.mono ?_
        rintro e w2 ⟨v2, rfl, hrow, hok, hb2⟩
        obtain ⟨A1, c1, hv2, hta1, hc1⟩ := hrow.ta
        subst hv2
        have HTA1 := hide hta1
        have HB2 := hide (HB1.out.trans (hb2.mono HB1.out.size)); clear hb2 hrow hok hta1
        go_wp2_with fail
        refine (HR.out w2 HB2.out).mono ?_
        rintro e w3 ⟨A2, c2, A3, c3, rfl, hta2, hc2, hta3, hc3, hb3⟩
        have HTA1' := hide (HTA1.out.below hb3)
        have HTA2 := hide hta2
        have HTA3 := hide hta3
        have HB3 := hide (HB2.out.trans (hb3.mono HB2.out.size)); clear hb3 hta2 hta3
        go_wp2_with fail
        refine (told_same w3 A1 A2 c1 c2 l HTA1'.out HTA2.out hc1 hc2 (by omega)).mono ?_
        rintro e w4 ⟨rfl, hb4⟩
        have HTA3' := hide (HTA3.out.below hb4)
        have HB4 := hide (HB3.out.trans (hb4.mono HB3.out.size)); clear hb4
        go_wp2_with fail
        refine (HN.out w4 HB4.out).mono ?_
        rintro e w5 ⟨v5, rfl, hrow5, hb5⟩
        obtain ⟨A5, c5, hv5, hta5, hc5⟩ := hrow5.ta
        subst hv5
        have HTA5 := hide hta5
        have HTA6 := hide (HTA3'.out.below hb5)
        have HB5 := hide (HB4.out.trans (hb5.mono HB4.out.size)); clear hb5 hrow5 hta5
        go_wp2_with fail
        refine (told_same w5 A5 A3 c5 c3 ns HTA5.out HTA6.out hc5 hc3 (by omega)).mono ?_
        rintro e w6 ⟨rfl, hb6⟩
        have HB6 := hide (HB5.out.trans (hb6.mono HB5.out.size)); clear hb6
        go_wp2_with fail
        refine (awake_any w6 (Utf8Tabs_below HT.out HB6.out) (HM.out.below HB6.out h3) (Nat.le_trans h3 (HB6.out).size)).mono ?_
        rintro e w9 ⟨rfl, hb9⟩
        have HB9 := hide hb9; clear hb9
        go_wp2_with fail
        go_ret
        exact ⟨rfl, (HB6.out).trans (HB9.out.mono (HB6.out).size)⟩
  · rcases HV.out with ⟨A', c', hva, hb0⟩ | ⟨a, o, cap, hva, hcap, hcell⟩
    · exact absurd hb0 h0
    · injection hva with hA _ hcc
      subst hA hcc
      have hpos : 0 < b.length := List.length_pos_iff.2 h0
      have hnew := bcells_at (w := w.alloc (.cells #[] 5 (0, 0))) (fun j hj => (World.cell?_of_block (w := w) (Below.heap_alloc w _ a (World.block_lt_of_cell? w _ (hcell j hj)))).trans (hcell j hj))
      have HNEW := hide hnew; clear hnew
      have hone : ∀ u ∈ bcells b, u.oneCell' = true := by
        intro u hu
        obtain ⟨x, _, rfl⟩ := List.mem_map.1 hu; rfl
      have HONE := hide hone; clear hone
      have hl0 := bcells_length b
      have HL0 : Hid ((bcells b).length = b.length * 1) := hide (by rw [hl0]; omega)
      clear hl0 h0 hcell
      go_enter Tryd.func5, Tryd.ntmps5
      go_wp2_with ((at_builtin; refine wpList_append_lies _ rfl _ _ _ rfl w.heap.size 5 i0 _ 1 1 Tryd.underlying22 hi0 hz0 hz1 hz2 rfl (by omega) (.slice (some ⟨w.heap.size, 0, none⟩) 0 0) 0 [] rfl (empty_own w 5) ⟨a, o, none⟩ b.length c (bcells b) rfl HL0.out HNEW.out HONE.out hpos (by simp only [maxLen]; omega) (by omega) (by simp) (w.heap.size + 1) (by simp) ?_; intro gg cc w1 hown1 hgrow hat hlt9))
      have hb1 : Below w.heap.size w w1 := ((Below.refl _ w).alloc (Nat.le_refl _) _).grown hgrow (by simp) (fun k hk => by have h9 : w.heap.size = k := (by simpa [Value.ownBlock] using hk); omega)
      have hby : BytesAt w1 (.slice (some ⟨gg, 0, none⟩) b.length cc) b := by
        have h9 := hown1
        rw [Nat.zero_add, List.nil_append] at h9
        exact own_bytes h9
      have hs1 := HSC.out w1 _ hb1 hby
      clear hown1 hgrow hat hlt9 hby
      cases hS : scanS b with
      | bad p k =>
        unfold ScanRet at hs1
        rw [hS] at hs1
        have hr := HRS.out
        unfold RScanRet at hr
        rw [hS] at hr
        have hn := HNT.out
        unfold NotesRet at hn
        rw [hS] at hn
        simp only at hs1 hr hn
        have HS1 := hide hs1
        have HR := hide hr
        have HN := hide hn
        have HB1 := hide hb1
        have ek : (((k : Int)) == (k : Int)) = true := by simp
        have ep : (((p : Int)) == (p : Int)) = true := by simp
        clear hs1 hr hn hb1 hS
        refine HS1.out.mono ?_
        rintro e w2 ⟨rfl, hb2⟩
        have HB2 := hide (HB1.out.trans (hb2.mono HB1.out.size)); clear hb2
        go_wp2_with fail
        refine (HR.out w2 HB2.out).mono ?_
        rintro e w3 ⟨rfl, hb3⟩
        have HB3 := hide (HB2.out.trans (hb3.mono HB2.out.size)); clear hb3
        go_wp2_with fail
        refine (told_same w3 none none 0 0 [] (.inl rfl) (.inl rfl) (Nat.le_refl _) (Nat.le_refl _) (Nat.zero_le _)).mono ?_
        rintro e w4 ⟨rfl, hb4⟩
        have HB4 := hide (HB3.out.trans (hb4.mono HB3.out.size)); clear hb4
        go_wp2_with fail
        refine (HN.out w4 HB4.out).mono ?_
        rintro e w5 ⟨rfl, hb5⟩
        have HB5 := hide (HB4.out.trans (hb5.mono HB4.out.size)); clear hb5
        go_wp2_with fail
        refine (told_same w5 none none 0 0 [] (.inl rfl) (.inl rfl) (Nat.le_refl _) (Nat.le_refl _) (Nat.zero_le _)).mono ?_
        rintro e w6 ⟨rfl, hb6⟩
        have HB6 := hide (HB5.out.trans (hb6.mono HB5.out.size)); clear hb6
        go_wp2_with fail
        refine (awake_any w6 (Utf8Tabs_below HT.out HB6.out) (HM.out.below HB6.out h3) (Nat.le_trans h3 (HB6.out).size)).mono ?_
        rintro e w9 ⟨rfl, hb9⟩
        have HB9 := hide hb9; clear hb9
        go_wp2_with fail
        go_ret
        exact ⟨rfl, (HB6.out).trans (HB9.out.mono (HB6.out).size)⟩
      | ok l ns =>
        unfold ScanRet at hs1
        rw [hS] at hs1
        have hr := HRS.out
        unfold RScanRet at hr
        rw [hS] at hr
        have hn := HNT.out
        unfold NotesRet at hn
        rw [hS] at hn
        simp only at hs1 hr hn
        obtain ⟨hcl, hcn⟩ := HCNT.out l ns hS
        have HS1 := hide hs1
        have HR := hide hr
        have HN := hide hn
        have HB1 := hide hb1
        clear hs1 hr hn hb1 hS
        refine HS1.out.mono ?_
        rintro e w2 ⟨v2, rfl, hrow, hok, hb2⟩
        obtain ⟨A1, c1, hv2, hta1, hc1⟩ := hrow.ta
        subst hv2
        have HTA1 := hide hta1
        have HB2 := hide (HB1.out.trans (hb2.mono HB1.out.size)); clear hb2 hrow hok hta1
        go_wp2_with fail
        refine (HR.out w2 HB2.out).mono ?_
        rintro e w3 ⟨A2, c2, A3, c3, rfl, hta2, hc2, hta3, hc3, hb3⟩
        have HTA1' := hide (HTA1.out.below hb3)
        have HTA2 := hide hta2
        have HTA3 := hide hta3
        have HB3 := hide (HB2.out.trans (hb3.mono HB2.out.size)); clear hb3 hta2 hta3
        go_wp2_with fail
        refine (told_same w3 A1 A2 c1 c2 l HTA1'.out HTA2.out hc1 hc2 (by omega)).mono ?_
        rintro e w4 ⟨rfl, hb4⟩
        have HTA3' := hide (HTA3.out.below hb4)
        have HB4 := hide (HB3.out.trans (hb4.mono HB3.out.size)); clear hb4
        go_wp2_with fail
        refine (HN.out w4 HB4.out).mono ?_
        rintro e w5 ⟨v5, rfl, hrow5, hb5⟩
        obtain ⟨A5, c5, hv5, hta5, hc5⟩ := hrow5.ta
        subst hv5
        have HTA5 := hide hta5
        have HTA6 := hide (HTA3'.out.below hb5)
        have HB5 := hide (HB4.out.trans (hb5.mono HB4.out.size)); clear hb5 hrow5 hta5
        go_wp2_with fail
        refine (told_same w5 A5 A3 c5 c3 ns HTA5.out HTA6.out hc5 hc3 (by omega)).mono ?_
        rintro e w6 ⟨rfl, hb6⟩
        have HB6 := hide (HB5.out.trans (hb6.mono HB5.out.size)); clear hb6
        go_wp2_with fail
        refine (awake_any w6 (Utf8Tabs_below HT.out HB6.out) (HM.out.below HB6.out h3) (Nat.le_trans h3 (HB6.out).size)).mono ?_
        rintro e w9 ⟨rfl, hb9⟩
        have HB9 := hide hb9; clear hb9
        go_wp2_with fail
        go_ret
        exact ⟨rfl, (HB6.out).trans (HB9.out.mono (HB6.out).size)⟩
end Go.Proofs.YtehflgllfkkfoaaDoor
