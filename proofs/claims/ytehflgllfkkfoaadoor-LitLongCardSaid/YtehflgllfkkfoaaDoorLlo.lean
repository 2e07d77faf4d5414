/- The law LitLong. -/
import Derived.Test.YtehflgllfkkfoaaDoorLvl
import Derived.Test.YtehflgllfkkfoaaDoorLle
set_option linter.unusedVariables false
set_option linter.unusedSimpArgs false
namespace Go.Proofs.YtehflgllfkkfoaaDoor
open Go.RowKit Go.Proofs.Dm
open Go.ChangeShapes

theorem num_long (s : ByteArray) (hs : s.size ≤ maxLen) (h : numL s.data.toList = .long) (w : World) : Calls Tryd.prog 26 #[.string s] w fun e w' => e = .returned (.tuple #[.string ⟨#[]⟩, .int .i64 12]) ∧ Below w.heap.size w w' := by
  refine (Number_any s hs w).mono ?_
  intro e w' hr
  unfold NumRet at hr
  rw [h] at hr
  exact hr
theorem zeros_at {W : World} {base g : Nat} (n : Nat) (h : W.ownsRow base 5 1 (.slice (some ⟨g, 0, none⟩) n n) n (madeCells (Value.int .u8 0).cells (n * 1)).toList) : BytesAt W (.slice (some ⟨g, 0, none⟩) n n) (List.replicate n 0) :=
  (fill_made h).bytes _ (by simp) (fun k hk => by rw [List.getElem_replicate]; rfl)
theorem zeros_cv {base g : Nat} (n : Nat) (Z : ByteArray) (hZ : bs (List.replicate n 0) = Z) {W : World} (h : W.ownsRow base 5 1 (.slice (some ⟨g, 0, none⟩) n n) n (madeCells (Value.int .u8 0).cells (n * 1)).toList) :
    (convert 22 9 (.slice (some ⟨g, 0, none⟩) n n)).run Tryd.prog W = .ok (.string Z) W := by
  have := (zeros_at n h).cv
  rwa [hZ] at this
theorem rep_fig (K D : Nat) (h0 : 49 ≤ D) (h1 : D ≤ 57) (hK : 1 ≤ K) (hK2 : K ≤ 200) : numL (List.replicate K (UInt8.ofNat D)) = .ok (List.replicate K (UInt8.ofNat D)) := by
  have hn : (UInt8.ofNat D).toNat = D := by rw [UInt8.toNat_ofNat']; omega
  have hf : figure (UInt8.ofNat D) = true := by
    have h9 : ∀ x : Fin 9, figure (UInt8.ofNat (49 + x.val)) = true := by decide
    have := h9 ⟨D - 49, by omega⟩
    rwa [show 49 + (D - 49) = D from by omega] at this
  have h48 : UInt8.ofNat D ≠ 48 := by intro e; have := congrArg UInt8.toNat e; rw [hn] at this; simp at this; omega
  apply numL_plain
  unfold plainL
  obtain ⟨k, rfl⟩ : ∃ k, K = k + 1 := ⟨K - 1, by omega⟩
  have ha : (List.replicate (k + 1) (UInt8.ofNat D)).all figure = true := by rw [List.all_eq_true]; intro x hx; rw [List.eq_of_mem_replicate hx]; exact hf
  rw [ha, List.length_replicate, decide_eq_true hK2, List.replicate_succ]
  simp [h48]
set_option maxRecDepth 100000 in
set_option maxHeartbeats 12800000 in
theorem litlong_any (w : World) (n : Int) (hn : (Lit.int .u16 n).wf = true) (c : Int) (hc : (Lit.int .u8 c).wf = true) (hT : Lib.Utf8Tabs 0 1 w) (hM : MaxLenOk w) (h3 : 3 ≤ w.heap.size) :
    Calls Tryd.prog 10 #[.int .u16 n, .int .u8 c] w fun e w' => e = .returned (.bool true) ∧ Below w.heap.size w w' := by
  obtain ⟨n0, n1⟩ := bounds_u16 hn
  obtain ⟨c0, c1⟩ := bounds_u8 hc
  clear hn hc hM h3
  obtain ⟨m, rfl⟩ := Int.eq_ofNat_of_zero_le n0
  obtain ⟨d, rfl⟩ := Int.eq_ofNat_of_zero_le c0
  obtain ⟨K, hK⟩ : ∃ K : Nat, (K : Int) = (m : Int) % 210 + 1 := ⟨m % 210 + 1, by omega⟩
  have hK1 : 1 ≤ K := by omega
  have hK2 : K ≤ 210 := by omega
  have hK' : (m : Int) % 210 + 1 = (K : Int) := hK.symm
  clear hK
  obtain ⟨D, hD⟩ : ∃ D : Nat, (D : Int) = 49 + (d : Int) % 9 := ⟨49 + d % 9, by omega⟩
  have hD1 : 49 ≤ D := by omega
  have hD2 : D ≤ 57 := by omega
  have hD' : 49 + (d : Int) % 9 = (D : Int) := hD.symm
  clear hD
  have HT := hide hT; clear hT
  obtain ⟨Z, hZ⟩ : ∃ Z, bs (List.replicate 65537 0) = Z := ⟨_, rfl⟩
  have hZs : Z.size = 65537 := by rw [size_data, ← hZ]; show (List.replicate 65537 (0 : UInt8)).length = 65537; rw [List.length_replicate]
  have HZ := hide hZ
  have HZS := hide hZs
  clear hZ hZs
  obtain ⟨i0, hi0, hz0, hz1, hz2⟩ := info_parts byteInfo
  go_enter Tryd.func10, Tryd.ntmps10
  go_wp2_with (at_make; refine wpList_make_full _ rfl _ _ 22 rfl w.heap.size 5 i0 (.int .u8 0) 1 Tryd.underlying22 hi0 hz0 hz1 .i64 .i64 _ _ K rfl rfl (by omega) (by omega) (by rw [hz2]; omega) (by simp only [maxLen]; omega) (Nat.le_refl _) ?_; intro w3 hown3 hgrow3)
  clear hK'
  have hus := fill_made hown3
  have hb3 : Below w.heap.size w w3 := (Below.refl _ w).grown hgrow3 (Nat.le_refl _) (fun k h => by cases h)
  have HB3 := hide hb3
  have HUS := hide hus
  clear hown3 hgrow3 hus hb3
  obtain ⟨gu, hgu⟩ : ∃ gu, w.heap.size = gu := ⟨_, rfl⟩
  have HGU := hide hgu
  rw [hgu] at HUS
  rw [hgu]
  clear hgu
  have k0 : (0 : Int) ≤ (K : Int) := by omega
  have k1 : (K : Int) ≤ 210 := by omega
  have D0 : (0 : Int) ≤ (D : Int) := by omega
  have D1 : (D : Int) ≤ 255 := by omega
  go_loopw [7] (fun i W' => ∃ W, W = W' ∧ ∃ j : Nat, j ≤ K ∧ i = .int .i64 j ∧ FillAt W gu K (fun k => if k < j then (D : Int) else 0) ∧ Below w.heap.size w W) (fun i _ => K - (intOf i).toNat)
  case atStart => exact ⟨_, rfl, 0, Nat.zero_le _, rfl, HUS.out.eq (fun k hk => rfl), HB3.out⟩
  case round =>
    obtain ⟨W, rfl, j, hj, rfl, hfill, hbl⟩ := hrel
    have HF := hide hfill; clear hfill
    have HBL := hide hbl; clear hbl
    have j0 : (0 : Int) ≤ (j : Int) := by omega
    have j1 : (j : Int) ≤ 210 := by omega
    by_cases hlt : j < K
    · have j2 : (j : Int) < (K : Int) := by omega
      have u0 := HF.out.cell j hlt
      have uf := HF.out.free j
      have hset := HF.out.set j hlt (D : Int)
      have HS : Hid (FillAt (W.setCell ⟨gu, j, none⟩ (.int .u8 (D : Int))) gu K (fun k => if k < j + 1 then (D : Int) else 0)) := hide (hset.eq (fun k hk => by
        by_cases h1 : k = j
        · rw [if_pos h1, if_pos (by omega)]
        · rw [if_neg h1]
          by_cases h2 : k < j
          · rw [if_pos h2, if_pos (by omega)]
          · rw [if_neg h2, if_neg (by omega)]))
      have HB : Hid (Below w.heap.size w (W.setCell ⟨gu, j, none⟩ (.int .u8 (D : Int)))) := hide (HBL.out.setCell (p := ⟨gu, j, none⟩) (by show w.heap.size ≤ gu; rw [HGU.out]; exact Nat.le_refl _) _)
      clear hset
      go_wp2_with fail
      go_roundw
      case rel => exact ⟨_, rfl, j + 1, by omega, by go_num, HS.out, HB.out⟩
      case measure => simp [intOf]; omega
    · have j2 : ¬ (j : Int) < (K : Int) := by omega
      have hjK : j = K := by omega
      have hbytes : BytesAt W (.slice (some ⟨gu, 0, none⟩) K K) (List.replicate K (UInt8.ofNat D)) := HF.out.bytes _ (by simp) (fun k hk => by
        have : k < j := by rw [hjK]; simpa using hk
        show (if k < j then (D : Int) else 0) = _
        rw [if_pos this, List.getElem_replicate]
        rw [UInt8.toNat_ofNat']; omega)
      obtain ⟨X, hX⟩ : ∃ X, bs (List.replicate K (UInt8.ofNat D)) = X := ⟨_, rfl⟩
      have hXd : X.data.toList = List.replicate K (UInt8.ofNat D) := by rw [← hX]; rfl
      have hXs : X.size ≤ maxLen := by rw [size_data, hXd, List.length_replicate]; unfold maxLen; omega
      have hcv := hbytes.cv
      rw [hX] at hcv
      have HBY := hide hbytes
      have HX := hide hX
      have HXS := hide hXs
      have HXD := hide hXd
      have eX : (X.toList == X.toList) = true := by simp
      have eE : (((⟨#[]⟩ : ByteArray)).toList == ([] : Bs)) = true := by show ((bs []).toList == ([] : Bs)) = true; rw [toList_bs]; rfl
      have eE2 : ((⟨#[]⟩ : ByteArray)).toList.isEmpty = true := by show (bs []).toList.isEmpty = true; rw [toList_bs]; rfl
      clear hbytes hX hXs hXd hjK hlt
      by_cases hbig : (200 : Int) < (K : Int)
      · have HNL : Hid (numL X.data.toList = .long) := hide (by rw [HXD.out]; unfold numL; rw [if_pos (by rw [List.length_replicate]; omega)])
        go_wp2_with fail
        refine (num_long X HXS.out HNL.out W).mono ?_
        rintro e w1 ⟨rfl, hb1⟩
        have HB1 := hide (HBL.out.trans (hb1.mono HBL.out.size)); clear hb1 hcv
        go_wp2_with (at_make; refine wpList_make_full _ rfl _ _ 22 rfl w1.heap.size 5 i0 (.int .u8 0) 1 Tryd.underlying22 hi0 hz0 hz1 .i64 .i64 _ _ 65537 rfl rfl (by omega) (by omega) (by rw [hz2]; omega) (by simp only [maxLen]; omega) (Nat.le_refl _) ?_; intro w4 hown4 hgrow4; have hcv4 := zeros_cv 65537 Z HZ.out hown4)
        have hb4 : Below w1.heap.size w1 w4 := (Below.refl _ w1).grown hgrow4 (Nat.le_refl _) (fun k h => by cases h)
        have HB4 := hide (HB1.out.trans (hb4.mono HB1.out.size))
        clear hown4 hgrow4 hb4
        refine (text_long Z (by rw [HZS.out]; decide) (by rw [HZS.out]; decide) w4).mono ?_
        rintro e w5 ⟨rfl, hb5⟩
        have HB5 := hide (HB4.out.trans (hb5.mono HB4.out.size)); clear hb5 hcv4
        go_wp2_with fail
        refine (awake3_any w5 (Utf8Tabs_below HT.out HB5.out)).mono ?_
        rintro e w6 ⟨rfl, hb6⟩
        have HB6 := hide (HB5.out.trans (hb6.mono HB5.out.size)); clear hb6
        go_wp2_with fail
        go_ret
        exact ⟨rfl, HB6.out⟩
      · have hb200 : (K : Int) ≤ 200 := by omega
        have HNL : Hid (numL X.data.toList = .ok (List.replicate K (UInt8.ofNat D))) := hide (by rw [HXD.out]; exact rep_fig K D hD1 hD2 hK1 (by omega))
        clear hbig
        go_wp2_with fail
        refine (num_at X _ HXS.out HNL.out W).mono ?_
        rw [HX.out]
        rintro e w1 ⟨rfl, hb1⟩
        have HBY1 := hide (HBY.out.below hb1)
        have HB1 := hide (HBL.out.trans (hb1.mono HBL.out.size)); clear hb1 hcv
        go_wp2_with (at_make; refine wpList_make_full _ rfl _ _ 22 rfl w1.heap.size 5 i0 (.int .u8 0) 1 Tryd.underlying22 hi0 hz0 hz1 .i64 .i64 _ _ 65537 rfl rfl (by omega) (by omega) (by rw [hz2]; omega) (by simp only [maxLen]; omega) (Nat.le_refl _) ?_; intro w4 hown4 hgrow4; have hcv4 := zeros_cv 65537 Z HZ.out hown4)
        have hb4 : Below w1.heap.size w1 w4 := (Below.refl _ w1).grown hgrow4 (Nat.le_refl _) (fun k h => by cases h)
        have HBY4 := hide (HBY1.out.below hb4)
        have HB4 := hide (HB1.out.trans (hb4.mono HB1.out.size))
        clear hown4 hgrow4 hb4
        refine (text_long Z (by rw [HZS.out]; decide) (by rw [HZS.out]; decide) w4).mono ?_
        rintro e w5 ⟨rfl, hb5⟩
        have hcv5 := (HBY4.out.below hb5).cv
        rw [HX.out] at hcv5
        have HB5 := hide (HB4.out.trans (hb5.mono HB4.out.size)); clear hb5 hcv4
        go_wp2_with fail
        refine (awake3_any w5 (Utf8Tabs_below HT.out HB5.out)).mono ?_
        rintro e w6 ⟨rfl, hb6⟩
        have HB6 := hide (HB5.out.trans (hb6.mono HB5.out.size)); clear hb6
        go_wp2_with fail
        go_ret
        exact ⟨rfl, HB6.out⟩
end Go.Proofs.YtehflgllfkkfoaaDoor
