/- TokenKinds, walked. -/
import Derived.Test.YtehflgllfkkfoaaDoorTq
import Derived.Test.YtehflgllfkkfoaaDoorNm
import Derived.StillTactics
set_option linter.unusedVariables false
set_option linter.unusedSimpArgs false
namespace Go.Proofs.YtehflgllfkkfoaaDoor
open Go.RowKit Go.Proofs.Dm
theorem word_of {t : Tk} (ht : IsT t) : (t.kind = 1 ∧ nameL t.text = true ∧ word t.text = 0) ∨ (t.kind = 2 ∧ nameL t.text = false ∧ word t.text = 1) ∨ (t.kind = 3 ∧ nameL t.text = false ∧ word t.text = 2) ∨
    (t.kind = 4 ∧ nameL t.text = false ∧ word t.text = 0 ∧ ∃ c r, t.text = c :: r ∧ figure c = true) ∨ (t.kind = 5 ∧ nameL t.text = false ∧ word t.text = 0 ∧ ∃ c r, t.text = c :: r ∧ (c = 34 ∨ c = 96)) ∨ (t.kind = 6 ∧ nameL t.text = false ∧ word t.text = 0) := by
  obtain ⟨h1, h6, hn, hw1, hw2, h4, h5⟩ := kind_ok' ht
  have hw := word_le t.text
  rw [decide_eq_decide] at hw1 hw2
  have hk : t.kind = 1 ∨ t.kind = 2 ∨ t.kind = 3 ∨ t.kind = 4 ∨ t.kind = 5 ∨ t.kind = 6 := by omega
  rcases hk with h | h | h | h | h | h
  · exact .inl ⟨h, by rw [hn]; simp [h], by omega⟩
  · exact .inr (.inl ⟨h, by rw [hn]; simp [h], by omega⟩)
  · exact .inr (.inr (.inl ⟨h, by rw [hn]; simp [h], by omega⟩))
  · exact .inr (.inr (.inr (.inl ⟨h, by rw [hn]; simp [h], by omega, h4 h⟩)))
  · exact .inr (.inr (.inr (.inr (.inl ⟨h, by rw [hn]; simp [h], by omega, h5 h⟩))))
  · exact .inr (.inr (.inr (.inr (.inr ⟨h, by rw [hn]; simp [h], by omega⟩))))
theorem toList_data (T : ByteArray) : T.toList = T.data.toList := by rw [← bs_of T]; exact bs_toList _

set_option maxRecDepth 100000 in
set_option maxHeartbeats 12800000 in
theorem kinds_any (w : World) (v : Value) (b : Bs) (hv : BytesAt w v b) (hT : Lib.Utf8Tabs 0 1 w) (hM : MaxLenOk w) (h3 : 3 ≤ w.heap.size) :
    Calls Tryd.prog 9 #[v] w fun e w' => e = .returned (.bool true) ∧ Below w.heap.size w w' := by
  obtain ⟨A, c, rfl⟩ := hv.slice
  by_cases hlong : (1000 : Int) < (b.length : Int)
  · clear hv hT hM
    go_enter Tryd.func9, Tryd.ntmps9
    go_wp2_with fail
    go_ret
    exact ⟨rfl, Below.refl _ _⟩
  have hb : b.length ≤ 1000 := by omega
  have hsc := Scan_any w _ b hv hT hM h3 (by omega)
  have HT := hide hT; clear hT
  have HM := hide hM; clear hM
  have HV := hide hv; clear hv
  unfold ScanRet at hsc
  cases hs : scanS b with
  | bad p k =>
    rw [hs] at hsc
    simp only at hsc
    have hk := bad_code hs
    have k0 : ((k : Int) != 0) = true := by simp; omega
    have k1 : ((k : Int) == 0) = false := by simp; omega
    have HC := hide hsc
    clear hsc hk
    go_enter Tryd.func9, Tryd.ntmps9
    go_wp2_with fail
    refine HC.out.mono ?_
    rintro e w1 ⟨rfl, hb1⟩
    have HB1 := hide hb1; clear hb1 hs
    go_wp2_with fail
    refine (awake_any w1 (Utf8Tabs_below HT.out HB1.out) (HM.out.below HB1.out h3) (Nat.le_trans h3 HB1.out.size)).mono ?_
    rintro e w2 ⟨rfl, hb2⟩
    have HB2 := hide hb2; clear hb2
    go_wp2_with fail
    go_ret
    exact ⟨rfl, HB1.out.trans (HB2.out.mono HB1.out.size)⟩
  | ok l ns =>
    rw [hs] at hsc
    simp only at hsc
    have hL : l.length ≤ 1001 := by have := scan_count hs; omega
    have HC := hide hsc
    clear hsc
    go_enter Tryd.func9, Tryd.ntmps9
    go_wp2_with fail
    refine HC.out.mono ?_
    rintro e w1 ⟨v1, rfl, hrow, hok, hb1⟩
    have HB1 := hide hb1; clear hb1
    have HROW := hide hrow
    obtain ⟨A1, c1, rfl⟩ := hrow.2
    clear hrow hok
    have HKD := hide (scanS_kinds hs)
    clear hs
    go_wp2_with fail
    go_loopw [6] (fun i W => ∃ w', w' = W ∧ ∃ k : Nat, k ≤ l.length ∧ i = .int .i64 k ∧ Below w1.heap.size w1 W) (fun i _ => l.length - (intOf i).toNat)
    case atStart => exact ⟨_, rfl, 0, Nat.zero_le _, rfl, Below.refl _ _⟩
    case round =>
      obtain ⟨W, rfl, k, hk, rfl, hbl⟩ := hrel
      have HBL := hide hbl; clear hbl
      have hk2 : (k : Int) ≤ 200000 := by omega
      have hk0 : (0 : Int) ≤ (k : Int) := by omega
      by_cases hlt : k < l.length
      · have hlt2 : (k : Int) < (l.length : Int) := by omega
        rcases HROW.out.lies with ⟨rfl, _⟩ | ⟨g, c1', hvv, hc1, hg, hr⟩
        · simp at hlt
        injection hvv with hA _ hcc
        subst hA hcc
        have r0 : W.cell? ⟨g, k * 3, none⟩ = some (.int .i64 ((l[k]'hlt).kind : Int)) := (HBL.out.cell (p := ⟨g, k * 3, none⟩) hg).trans (hr k hlt).1
        have r1 : W.cell? ⟨g, k * 3 + 1, none⟩ = some (.string (bs (l[k]'hlt).text)) := (HBL.out.cell (p := ⟨g, k * 3 + 1, none⟩) hg).trans (hr k hlt).2.1
        have hcase := word_of (HKD.out (l[k]'hlt) (List.getElem_mem _))
        obtain ⟨tk, htk⟩ : ∃ tk, l[k]'hlt = tk := ⟨_, rfl⟩
        rw [htk] at r0 r1 hcase
        obtain ⟨T, hTb⟩ : ∃ T, bs tk.text = T := ⟨_, rfl⟩
        rw [hTb] at r1
        have HTB : Hid (T.data.toList = tk.text) := hide (by rw [← hTb]; rfl)
        clear hTb htk hr
        rcases hcase with hcase | hcase | hcase | hcase | hcase | hcase
        · obtain ⟨hkd, hnl, hwz⟩ := hcase
          rw [hkd] at r0
          have r0' : W.cell? ⟨g, k * 3, none⟩ = some (.int .i64 1) := r0
          have hnm := name_any T W.drew
          rw [HTB.out, hnl] at hnm
          have HNM := hide hnm; clear hnm
          have hwd : ∀ W : World, Calls Tryd.prog 24 #[.string T] W fun e w' => e = .returned (.int .i64 0) ∧ W = w' := fun W => by
            have := word_any T W
            rw [toList_data, HTB.out, hwz] at this
            exact this
          have HWD := hide hwd; clear hwd
          clear r0 hnl hwz hkd
          go_wp2_with fail
          go_still (by kernel_rfl)
          rw [drew_lit]
          go_wp2_with (first | (go_at_call 22; refine HNM.out.mono ?_; rintro e w' ⟨rfl, hb5⟩; have HB5 := hide hb5; clear hb5) | (go_at_call 24; refine (HWD.out _).mono ?_; rintro e w6 ⟨rfl, hw6⟩; rw [← hw6]; clear hw6))
          go_roundw
          case rel => exact ⟨_, rfl, k + 1, by omega, by go_num, HBL.out.drew.trans ((HB5.out.mono HBL.out.size))⟩
          case measure => simp [intOf]; omega
        · obtain ⟨hkd, hnl, hwz⟩ := hcase
          rw [hkd] at r0
          have r0' : W.cell? ⟨g, k * 3, none⟩ = some (.int .i64 2) := r0
          have hnm := name_any T W.drew
          rw [HTB.out, hnl] at hnm
          have HNM := hide hnm; clear hnm
          have hwd : ∀ W : World, Calls Tryd.prog 24 #[.string T] W fun e w' => e = .returned (.int .i64 1) ∧ W = w' := fun W => by
            have := word_any T W
            rw [toList_data, HTB.out, hwz] at this
            exact this
          have HWD := hide hwd; clear hwd
          clear r0 hnl hwz hkd
          go_wp2_with fail
          go_still (by kernel_rfl)
          rw [drew_lit]
          go_wp2_with (first | (go_at_call 22; refine HNM.out.mono ?_; rintro e w' ⟨rfl, hb5⟩; have HB5 := hide hb5; clear hb5) | (go_at_call 24; refine (HWD.out _).mono ?_; rintro e w6 ⟨rfl, hw6⟩; rw [← hw6]; clear hw6))
          go_roundw
          case rel => exact ⟨_, rfl, k + 1, by omega, by go_num, HBL.out.drew.trans ((HB5.out.mono HBL.out.size))⟩
          case measure => simp [intOf]; omega
        · obtain ⟨hkd, hnl, hwz⟩ := hcase
          rw [hkd] at r0
          have r0' : W.cell? ⟨g, k * 3, none⟩ = some (.int .i64 3) := r0
          have hnm := name_any T W.drew
          rw [HTB.out, hnl] at hnm
          have HNM := hide hnm; clear hnm
          have hwd : ∀ W : World, Calls Tryd.prog 24 #[.string T] W fun e w' => e = .returned (.int .i64 2) ∧ W = w' := fun W => by
            have := word_any T W
            rw [toList_data, HTB.out, hwz] at this
            exact this
          have HWD := hide hwd; clear hwd
          clear r0 hnl hwz hkd
          go_wp2_with fail
          go_still (by kernel_rfl)
          rw [drew_lit]
          go_wp2_with (first | (go_at_call 22; refine HNM.out.mono ?_; rintro e w' ⟨rfl, hb5⟩; have HB5 := hide hb5; clear hb5) | (go_at_call 24; refine (HWD.out _).mono ?_; rintro e w6 ⟨rfl, hw6⟩; rw [← hw6]; clear hw6))
          go_roundw
          case rel => exact ⟨_, rfl, k + 1, by omega, by go_num, HBL.out.drew.trans ((HB5.out.mono HBL.out.size))⟩
          case measure => simp [intOf]; omega
        · obtain ⟨hkd, hnl, hwz, hfc⟩ := hcase
          rw [hkd] at r0
          have r0' : W.cell? ⟨g, k * 3, none⟩ = some (.int .i64 4) := r0
          have hnm := name_any T W.drew
          rw [HTB.out, hnl] at hnm
          have HNM := hide hnm; clear hnm
          have hwd : ∀ W : World, Calls Tryd.prog 24 #[.string T] W fun e w' => e = .returned (.int .i64 0) ∧ W = w' := fun W => by
            have := word_any T W
            rw [toList_data, HTB.out, hwz] at this
            exact this
          have HWD := hide hwd; clear hwd
          obtain ⟨ch, rs, hcr, hch⟩ := hfc
          have hTs : 0 < T.size := by rw [size_data T, HTB.out, hcr]; simp
          have hsp := byte_at (s := T) (p := 0) (d := ch) (r := rs) hTs (by rw [HTB.out, hcr]; rfl)
          have i0 : (0 : Int) < (T.size : Int) := by omega
          obtain ⟨dd, hdd⟩ : ∃ dd : Int, (ch.toNat : Int) = dd := ⟨_, rfl⟩
          rw [hdd] at hsp
          have hr : 48 ≤ dd ∧ dd ≤ 57 := by
            unfold figure at hch
            simp [UInt8.le_iff_toNat_le] at hch
            omega
          have hr1 := hr.1
          have hr2 := hr.2
          clear hch hcr hdd hr
          clear r0 hnl hwz hkd
          go_wp2_with fail
          go_still (by kernel_rfl)
          rw [drew_lit]
          go_wp2_with (first | (go_at_call 22; refine HNM.out.mono ?_; rintro e w' ⟨rfl, hb5⟩; have HB5 := hide hb5; clear hb5) | (go_at_call 24; refine (HWD.out _).mono ?_; rintro e w6 ⟨rfl, hw6⟩; rw [← hw6]; clear hw6))
          go_roundw
          case rel => exact ⟨_, rfl, k + 1, by omega, by go_num, HBL.out.drew.trans ((HB5.out.mono HBL.out.size))⟩
          case measure => simp [intOf]; omega
        · obtain ⟨hkd, hnl, hwz, hfc⟩ := hcase
          rw [hkd] at r0
          have r0' : W.cell? ⟨g, k * 3, none⟩ = some (.int .i64 5) := r0
          have hnm := name_any T W.drew
          rw [HTB.out, hnl] at hnm
          have HNM := hide hnm; clear hnm
          have hwd : ∀ W : World, Calls Tryd.prog 24 #[.string T] W fun e w' => e = .returned (.int .i64 0) ∧ W = w' := fun W => by
            have := word_any T W
            rw [toList_data, HTB.out, hwz] at this
            exact this
          have HWD := hide hwd; clear hwd
          obtain ⟨ch, rs, hcr, hch⟩ := hfc
          have hTs : 0 < T.size := by rw [size_data T, HTB.out, hcr]; simp
          have hsp := byte_at (s := T) (p := 0) (d := ch) (r := rs) hTs (by rw [HTB.out, hcr]; rfl)
          have i0 : (0 : Int) < (T.size : Int) := by omega
          obtain ⟨dd, hdd⟩ : ∃ dd : Int, (ch.toNat : Int) = dd := ⟨_, rfl⟩
          rw [hdd] at hsp
          have hor : dd = 34 ∨ dd = 96 := by
            rcases hch with rfl | rfl
            · left; rw [← hdd]; rfl
            · right; rw [← hdd]; rfl
          clear hch hcr hdd
          clear r0 hnl hwz hkd
          rcases hor with rfl | rfl
          all_goals
            go_wp2_with fail
            go_still (by kernel_rfl)
            rw [drew_lit]
            go_wp2_with (first | (go_at_call 22; refine HNM.out.mono ?_; rintro e w' ⟨rfl, hb5⟩; have HB5 := hide hb5; clear hb5) | (go_at_call 24; refine (HWD.out _).mono ?_; rintro e w6 ⟨rfl, hw6⟩; rw [← hw6]; clear hw6))
            go_roundw
            case rel => exact ⟨_, rfl, k + 1, by omega, by go_num, HBL.out.drew.trans ((HB5.out.mono HBL.out.size))⟩
            case measure => simp [intOf]; omega
        · obtain ⟨hkd, hnl, hwz⟩ := hcase
          rw [hkd] at r0
          have r0' : W.cell? ⟨g, k * 3, none⟩ = some (.int .i64 6) := r0
          have hnm := name_any T W.drew
          rw [HTB.out, hnl] at hnm
          have HNM := hide hnm; clear hnm
          have hwd : ∀ W : World, Calls Tryd.prog 24 #[.string T] W fun e w' => e = .returned (.int .i64 0) ∧ W = w' := fun W => by
            have := word_any T W
            rw [toList_data, HTB.out, hwz] at this
            exact this
          have HWD := hide hwd; clear hwd
          clear r0 hnl hwz hkd
          go_wp2_with fail
          go_still (by kernel_rfl)
          rw [drew_lit]
          go_wp2_with (first | (go_at_call 22; refine HNM.out.mono ?_; rintro e w' ⟨rfl, hb5⟩; have HB5 := hide hb5; clear hb5) | (go_at_call 24; refine (HWD.out _).mono ?_; rintro e w6 ⟨rfl, hw6⟩; rw [← hw6]; clear hw6))
          go_roundw
          case rel => exact ⟨_, rfl, k + 1, by omega, by go_num, HBL.out.drew.trans ((HB5.out.mono HBL.out.size))⟩
          case measure => simp [intOf]; omega
      · obtain rfl : k = l.length := by omega
        have hlt2 : ¬ (l.length : Int) < (l.length : Int) := by omega
        go_wp2_with fail
        refine (awake_any W (Utf8Tabs_below HT.out (HB1.out.trans (HBL.out.mono HB1.out.size))) (HM.out.below (HB1.out.trans (HBL.out.mono HB1.out.size)) h3) (Nat.le_trans h3 ((HB1.out.trans (HBL.out.mono HB1.out.size))).size)).mono ?_
        rintro e w9 ⟨rfl, hb9⟩
        have HB9 := hide hb9; clear hb9
        go_wp2_with fail
        go_ret
        exact ⟨rfl, ((HB1.out.trans (HBL.out.mono HB1.out.size))).trans (HB9.out.mono ((HB1.out.trans (HBL.out.mono HB1.out.size))).size)⟩
end Go.Proofs.YtehflgllfkkfoaaDoor
