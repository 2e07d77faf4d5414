/- TokenLong, walked. -/
import Derived.Test.YtehflgllfkkfoaaDoorTq
import Derived.Test.YtehflgllfkkfoaaDoorLitP
import Derived.OwnWalk
import Derived.StillTactics
import Derived.OpenShut
set_option linter.unusedVariables false
set_option linter.unusedSimpArgs false
namespace Go.Proofs.YtehflgllfkkfoaaDoor
open Go.RowKit Go.Proofs.Dm
open Go.ChangeShapes
/-- A row of bytes in memory, cell by cell. -/
def FillAt (W : World) (g n : Nat) (f : Nat → Int) : Prop := ∃ cur, W.heap[g]? = some (.cells cur 5 (0, 0)) ∧ ∀ k, k < n → cur[k]? = some (.int .u8 (f k))
theorem FillAt.lt {W : World} {g n : Nat} {f : Nat → Int} (h : FillAt W g n f) : g < W.heap.size := by
  obtain ⟨cur, h1, _⟩ := h
  exact block_lt h1
theorem FillAt.cell {W : World} {g n : Nat} {f : Nat → Int} (h : FillAt W g n f) (k : Nat) (hk : k < n) : W.cell? ⟨g, k, none⟩ = some (.int .u8 (f k)) := by
  obtain ⟨cur, h1, h2⟩ := h
  rw [cells_at h1 k]; exact h2 k hk
theorem FillAt.free {W : World} {g n : Nat} {f : Nat → Int} (h : FillAt W g n f) (k : Nat) : W.frozen? ⟨g, k, none⟩ = false := by
  obtain ⟨cur, h1, _⟩ := h
  exact frozen_at h1 k
theorem FillAt.set {W : World} {g n : Nat} {f : Nat → Int} (h : FillAt W g n f) (k : Nat) (hk : k < n) (c : Int) : FillAt (W.setCell ⟨g, k, none⟩ (.int .u8 c)) g n (fun j => if j = k then c else f j) := by
  obtain ⟨cur, h1, h2⟩ := h
  refine ⟨_, set_at h1 k (.int .u8 c), fun j hj => ?_⟩
  have hsz : k < cur.size := by
    rcases Nat.lt_or_ge k cur.size with hlt | hge
    · exact hlt
    · have := h2 k hk
      rw [Array.getElem?_eq_none hge] at this; cases this
  by_cases hjk : j = k
  · subst hjk
    rw [Array.getElem?_setIfInBounds_self_of_lt hsz]; simp
  · rw [Array.getElem?_setIfInBounds_ne (by omega), h2 j hj]; simp [hjk]
theorem FillAt.eq {W : World} {g n : Nat} {f f' : Nat → Int} (h : FillAt W g n f) (he : ∀ k, k < n → f k = f' k) : FillAt W g n f' := by
  obtain ⟨cur, h1, h2⟩ := h
  exact ⟨cur, h1, fun k hk => by rw [h2 k hk, he k hk]⟩
theorem fill_made {W : World} {base g n : Nat} (h : W.ownsRow base 5 1 (.slice (some ⟨g, 0, none⟩) n n) n (madeCells (Value.int .u8 0).cells (n * 1)).toList) : FillAt W g n (fun _ => 0) := by
  rcases h.2 with ⟨hv, _⟩ | ⟨g', cap, cur, hv, _, hh, _, _, hsz, ht⟩
  · cases hv
  injection hv with hg _ hc
  injection hg with hg
  injection hg with hg _ _
  subst hg hc
  refine ⟨cur, hh, fun k hk => ?_⟩
  have hl : cur.toList = (madeCells (Value.int .u8 0).cells (n * 1)).toList := by
    rw [← ht, List.take_of_length_le (by rw [Array.length_toList, hsz]; omega)]
  rw [← Array.getElem?_toList, hl]
  simp [madeCells, Value.cells]
  exact ⟨k, by simp [hk], by simp [Nat.mod_one]⟩
theorem FillAt.bytes {W : World} {g n : Nat} {f : Nat → Int} (h : FillAt W g n f) (b : Bs) (hn : b.length = n) (hb : ∀ k (hk : k < b.length), f k = ((b[k]'hk).toNat : Int)) : BytesAt W (.slice (some ⟨g, 0, none⟩) n n) b := by
  refine .inr ⟨g, 0, n, by rw [hn], by omega, fun j hj => ?_⟩
  rw [Nat.zero_add, h.cell j (by omega), hb j hj]

set_option maxRecDepth 100000 in
set_option maxHeartbeats 12800000 in
theorem long_any (w : World) (n : Int) (hn : (Lit.int .u16 n).wf = true) (c : Int) (hc : (Lit.int .u8 c).wf = true) (hT : Lib.Utf8Tabs 0 1 w) (hM : MaxLenOk w) (h3 : 3 ≤ w.heap.size) :
    Calls Tryd.prog 7 #[.int .u16 n, .int .u8 c] w fun e w' => e = .returned (.bool true) ∧ Below w.heap.size w w' := by
  obtain ⟨n0, n1⟩ := bounds_u16 hn
  obtain ⟨c0, c1⟩ := bounds_u8 hc
  clear hn hc
  obtain ⟨m, rfl⟩ := Int.eq_ofNat_of_zero_le n0
  obtain ⟨d, rfl⟩ := Int.eq_ofNat_of_zero_le c0
  obtain ⟨K, hK⟩ : ∃ K : Nat, (K : Int) = 65530 + (m : Int) % 12 := ⟨65530 + m % 12, by omega⟩
  have hK1 : 65530 ≤ K := by omega
  have hK2 : K ≤ 65541 := by omega
  have hK' : 65530 + (m : Int) % 12 = (K : Int) := hK.symm
  clear hK
  have HT := hide hT; clear hT
  have HM := hide hM; clear hM
  obtain ⟨i0, hi0, hz0, hz1, hz2⟩ := info_parts byteInfo
  go_enter Tryd.func7, Tryd.ntmps7
  go_wp2_with (at_make; refine wpList_make_full _ rfl _ _ 22 rfl w.heap.size 5 i0 (.int .u8 0) 1 Tryd.underlying22 hi0 hz0 hz1 .i64 .i64 _ _ K rfl rfl (by omega) (by omega) (by rw [hz2]; omega) (by simp only [maxLen]; omega) (Nat.le_refl _) ?_; intro w3 hown3 hgrow3)
  clear hK'
  have hus := fill_made hown3
  have hb3 : Below w.heap.size w w3 := (Below.refl _ w).grown hgrow3 (Nat.le_refl _) (fun k h => by cases h)
  have HB3 := hide hb3
  have HUS := hide hus
  clear hown3 hgrow3 hus hb3
  obtain ⟨gu, hgu⟩ : ∃ gu, w.heap.size = gu := ⟨_, rfl⟩
  have HGU := hide hgu
  rw [hgu] at HUS
  rw [hgu]
  clear hgu
  have k0 : (0 : Int) ≤ (K : Int) := by omega
  have k1 : (K : Int) ≤ 65541 := by omega
  go_loopw [7] (fun i W' => ∃ W, W = W' ∧ ∃ j : Nat, j ≤ K ∧ i = .int .i64 j ∧ FillAt W gu K (fun k => if k < j then (d : Int) else 0) ∧ Below w.heap.size w W) (fun i _ => K - (intOf i).toNat)
  case atStart => exact ⟨_, rfl, 0, Nat.zero_le _, rfl, HUS.out.eq (fun k hk => rfl), HB3.out⟩
  case round =>
    obtain ⟨W, rfl, j, hj, rfl, hfill, hbl⟩ := hrel
    have HF := hide hfill; clear hfill
    have HBL := hide hbl; clear hbl
    have j0 : (0 : Int) ≤ (j : Int) := by omega
    have j1 : (j : Int) ≤ 65541 := by omega
    by_cases hlt : j < K
    · have j2 : (j : Int) < (K : Int) := by omega
      have u0 := HF.out.cell j hlt
      have uf := HF.out.free j
      have hset := HF.out.set j hlt (d : Int)
      have HS : Hid (FillAt (W.setCell ⟨gu, j, none⟩ (.int .u8 (d : Int))) gu K (fun k => if k < j + 1 then (d : Int) else 0)) := hide (hset.eq (fun k hk => by
        by_cases h1 : k = j
        · rw [if_pos h1, if_pos (by omega)]
        · rw [if_neg h1]
          by_cases h2 : k < j
          · rw [if_pos h2, if_pos (by omega)]
          · rw [if_neg h2, if_neg (by omega)]))
      have HB : Hid (Below w.heap.size w (W.setCell ⟨gu, j, none⟩ (.int .u8 (d : Int)))) := hide (HBL.out.setCell (p := ⟨gu, j, none⟩) (by show w.heap.size ≤ gu; rw [HGU.out]; exact Nat.le_refl _) _)
      clear hset
      go_wp2_with fail
      go_roundw
      case rel => exact ⟨_, rfl, j + 1, by omega, by go_num, HS.out, HB.out⟩
      case measure => simp [intOf]; omega
    · have j2 : ¬ (j : Int) < (K : Int) := by omega
      have hjK : j = K := by omega
      have hbytes : BytesAt W (.slice (some ⟨gu, 0, none⟩) K K) (List.replicate K (UInt8.ofNat d)) := HF.out.bytes _ (by simp) (fun k hk => by
        have : k < j := by rw [hjK]; simpa using hk
        show (if k < j then (d : Int) else 0) = _
        rw [if_pos this, List.getElem_replicate]
        rw [UInt8.toNat_ofNat']; omega)
      have hlen : (List.replicate K (UInt8.ofNat d)).length = K := by simp
      have hWs : 3 ≤ W.heap.size := Nat.le_trans h3 HBL.out.size
      have hsc := Scan_any W _ _ hbytes (Utf8Tabs_below HT.out HBL.out) (HM.out.below HBL.out h3) hWs (by rw [hlen]; omega)
      unfold ScanRet at hsc
      by_cases hbig : (65536 : Int) < (K : Int)
      · have hS : scanS (List.replicate K (UInt8.ofNat d)) = .bad 65536 12 := by unfold scanS; rw [if_pos (by rw [hlen]; omega)]
        rw [hS] at hsc
        simp only at hsc
        have hnt : ∀ W' : World, Below W.heap.size W W' → Calls Tryd.prog 21 #[.slice (some ⟨gu, 0, none⟩) K K] W' fun e w' => e = .returned (.slice none 0 0) ∧ Below W'.heap.size W' w' := fun W' hw => by
          have := Notes_any W' _ _ (hbytes.below hw) (Utf8Tabs_below HT.out (HBL.out.trans (hw.mono HBL.out.size))) (HM.out.below (HBL.out.trans (hw.mono HBL.out.size)) h3) (Nat.le_trans hWs hw.size) (by rw [hlen]; omega)
          unfold NotesRet at this
          rw [hS] at this
          exact this
        have HC := hide hsc
        have HNT := hide hnt
        clear hsc hnt hbytes hlen hjK hS
        go_wp2_with fail
        refine HC.out.mono ?_
        rintro e w1 ⟨rfl, hb1⟩
        have HB1 := hide hb1; clear hb1
        go_wp2_with fail
        refine (HNT.out w1 HB1.out).mono ?_
        rintro e w2 ⟨rfl, hb2⟩
        have HB2 := hide (HBL.out.trans ((HB1.out.trans (hb2.mono HB1.out.size)).mono HBL.out.size)); clear hb2
        go_wp2_with fail
        refine (awake_any w2 (Utf8Tabs_below HT.out HB2.out) (HM.out.below HB2.out h3) (Nat.le_trans h3 (HB2.out).size)).mono ?_
        rintro e w9 ⟨rfl, hb9⟩
        have HB9 := hide hb9; clear hb9
        go_wp2_with fail
        go_ret
        exact ⟨rfl, (HB2.out).trans (HB9.out.mono (HB2.out).size)⟩
      · have hd97 : d = 97 → scanS (List.replicate K (UInt8.ofNat d)) = .ok [⟨1, List.replicate K 97, 0⟩, ⟨6, [10], K⟩] [] := by
          intro e
          subst e
          exact scanS_a K (by omega) (by omega)
        cases hS : scanS (List.replicate K (UInt8.ofNat d)) with
        | bad p k =>
          rw [hS] at hsc
          simp only at hsc
          have hk := scanS_not_long (by rw [hlen]; omega) hS
          have hd : d ≠ 97 := fun e => by rw [hd97 e] at hS; cases hS
          have k12 : (((k : Int)) != 12) = true := by rw [bne_iff_ne]; omega
          have d97 : (((d : Int)) != 97) = true := by rw [bne_iff_ne]; omega
          have HC := hide hsc
          clear hsc hbytes hlen hjK hS hd97 hk hd
          go_wp2_with fail
          refine HC.out.mono ?_
          rintro e w1 ⟨rfl, hb1⟩
          have HB2 := hide (HBL.out.trans (hb1.mono HBL.out.size)); clear hb1
          go_wp2_with fail
          refine (awake_any w1 (Utf8Tabs_below HT.out HB2.out) (HM.out.below HB2.out h3) (Nat.le_trans h3 (HB2.out).size)).mono ?_
          rintro e w9 ⟨rfl, hb9⟩
          have HB9 := hide hb9; clear hb9
          go_wp2_with fail
          go_ret
          exact ⟨rfl, (HB2.out).trans (HB9.out.mono (HB2.out).size)⟩
        | ok l ns =>
          rw [hS] at hsc
          simp only at hsc
          have hl2 : d = 97 → l.length = 2 := by
            intro e
            rw [hd97 e] at hS
            injection hS with h1 _
            rw [← h1]; rfl
          have HC := hide hsc
          clear hsc hbytes hlen hjK hS hd97
          by_cases hd : d = 97
          · have hl := hl2 hd
            obtain ⟨L, hL⟩ : ∃ L, l.length = L := ⟨_, rfl⟩
            rw [hL] at hl
            subst hl
            have HL := hide hL; clear hL hl2
            have d97 : (((d : Int)) != 97) = false := by rw [hd]; rfl
            clear hd
            go_wp2_with fail
            refine HC.out.mono ?_
            rintro e w1 ⟨v, rfl, ⟨hrow, A, c, rfl⟩, hok, hb1⟩
            rw [HL.out]
            have HB2 := hide (HBL.out.trans (hb1.mono HBL.out.size)); clear hb1 hrow hok
            go_wp2_with fail
            refine (awake_any w1 (Utf8Tabs_below HT.out HB2.out) (HM.out.below HB2.out h3) (Nat.le_trans h3 (HB2.out).size)).mono ?_
            rintro e w9 ⟨rfl, hb9⟩
            have HB9 := hide hb9; clear hb9
            go_wp2_with fail
            go_ret
            exact ⟨rfl, (HB2.out).trans (HB9.out.mono (HB2.out).size)⟩
          · have d97 : (((d : Int)) != 97) = true := by rw [bne_iff_ne]; omega
            clear hd hl2
            go_wp2_with fail
            refine HC.out.mono ?_
            rintro e w1 ⟨v, rfl, ⟨hrow, A, c, rfl⟩, hok, hb1⟩
            have HB2 := hide (HBL.out.trans (hb1.mono HBL.out.size)); clear hb1 hrow hok
            go_wp2_with fail
            refine (awake_any w1 (Utf8Tabs_below HT.out HB2.out) (HM.out.below HB2.out h3) (Nat.le_trans h3 (HB2.out).size)).mono ?_
            rintro e w9 ⟨rfl, hb9⟩
            have HB9 := hide hb9; clear hb9
            go_wp2_with fail
            go_ret
            exact ⟨rfl, (HB2.out).trans (HB9.out.mono (HB2.out).size)⟩
end Go.Proofs.YtehflgllfkkfoaaDoor
