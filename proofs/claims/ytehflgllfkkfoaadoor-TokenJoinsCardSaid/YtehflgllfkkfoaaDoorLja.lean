/- TokenJoins, walked. -/
import Derived.Test.YtehflgllfkkfoaaDoorTq
set_option linter.unusedVariables false
set_option linter.unusedSimpArgs false
namespace Go.Proofs.YtehflgllfkkfoaaDoor
open Go.RowKit Go.Proofs.Dm

theorem joinTs_take (l : List Tk) (k : Nat) (hk : k < l.length) : joinTs (l.take (k + 1)) = joinTs (l.take k) ++ joinT (l[k]'hk).text := by
  rw [List.take_succ_eq_append_getElem hk]
  unfold joinTs
  rw [List.flatMap_append]
  simp only [List.flatMap_cons, List.flatMap_nil, List.append_nil]
theorem joinTs_le (l : List Tk) (k : Nat) : (joinTs (l.take k)).length ≤ (joinTs l).length := by
  conv => rhs; rw [← List.take_append_drop k l]
  unfold joinTs
  rw [List.flatMap_append, List.length_append]; omega

set_option maxRecDepth 100000 in
set_option maxHeartbeats 12800000 in
theorem joins_any (w : World) (v : Value) (b : Bs) (hv : BytesAt w v b) (hT : Lib.Utf8Tabs 0 1 w) (hM : MaxLenOk w) (h3 : 3 ≤ w.heap.size) :
    Calls Tryd.prog 3 #[v] w fun e w' => e = .returned (.bool true) ∧ Below w.heap.size w w' := by
  obtain ⟨A, c, rfl⟩ := hv.slice
  by_cases hlong : (1000 : Int) < (b.length : Int)
  · clear hv hT hM
    go_enter Tryd.func3, Tryd.ntmps3
    go_wp2_with fail
    go_ret
    exact ⟨rfl, Below.refl _ _⟩
  have hb : b.length ≤ 1000 := by omega
  have hsc := Scan_any w _ b hv hT hM h3 (by omega)
  have HT := hide hT; clear hT
  have HM := hide hM; clear hM
  clear hv
  unfold ScanRet at hsc
  cases hs : scanS b with
  | bad p k =>
    rw [hs] at hsc
    simp only at hsc
    have hk := bad_code hs
    have k0 : ((k : Int) != 0) = true := by simp; omega
    have k1 : ((k : Int) == 0) = false := by simp; omega
    have HC := hide hsc
    clear hsc hs hk
    go_enter Tryd.func3, Tryd.ntmps3
    go_wp2_with fail
    refine HC.out.mono ?_
    rintro e w1 ⟨rfl, hb1⟩
    have HB1 := hide hb1; clear hb1
    go_wp2_with fail
    refine (awake_any w1 (Utf8Tabs_below HT.out HB1.out) (HM.out.below HB1.out h3) (Nat.le_trans h3 HB1.out.size)).mono ?_
    rintro e w2 ⟨rfl, hb2⟩
    have HB2 := hide hb2; clear hb2
    go_wp2_with fail
    go_ret
    exact ⟨rfl, HB1.out.trans (HB2.out.mono HB1.out.size)⟩
  | ok l ns =>
    rw [hs] at hsc
    simp only at hsc
    obtain ⟨hj1, m, hj2, hj3⟩ := scanS_joins hb hs
    have hL : l.length ≤ 1001 := by have := scan_count hs; omega
    have HC := hide hsc
    clear hsc
    go_enter Tryd.func3, Tryd.ntmps3
    go_wp2_with fail
    refine HC.out.mono ?_
    rintro e w1 ⟨v1, rfl, hrow, hok, hb1⟩
    have HB1 := hide hb1; clear hb1
    have HROW := hide hrow
    obtain ⟨A1, c1, rfl⟩ := hrow.2
    clear hrow hok
    obtain ⟨i0, hi0, hz0, hz1, hz2⟩ := info_parts byteInfo
    go_wp2_with fail
    go_loopw [6, 7] (fun v i W => ∃ w', w' = W ∧ ∃ k : Nat, k ≤ l.length ∧ i = .int .i64 k ∧ W.ownsRow w1.heap.size 5 1 v (joinTs (l.take k)).length (bcells (joinTs (l.take k))) ∧ Below w1.heap.size w1 W) (fun _ i _ => l.length - (intOf i).toNat)
    case atStart => exact ⟨_, rfl, 0, Nat.zero_le _, rfl, own_none _ _ _ _, Below.refl _ _⟩
    case round =>
      obtain ⟨W, rfl, k, hk, rfl, hown, hbl⟩ := hrel
      by_cases hlt : k < l.length
      · have hlt2 : (k : Int) < (l.length : Int) := by omega
        have hk2 : (k : Int) ≤ 200000 := by have := hL; omega
        have HBL := hide hbl; clear hbl
        have HOWN := hide hown; clear hown
        rcases HROW.out.lies with ⟨rfl, _⟩ | ⟨g, c1', hvv, hc1, hg, hr⟩
        · simp at hlt
        · injection hvv with hA _ hcc
          subst hA hcc
          have hr := hr k hlt
          have hb1 : Below w1.heap.size w1 W := HBL.out
          have r1 : W.cell? ⟨g, k * 3 + 1, none⟩ = some (.string (bs (l[k]'hlt).text)) := (hb1.cell (p := ⟨g, k * 3 + 1, none⟩) hg).trans hr.2.1
          clear hr hb1
          obtain ⟨t, ht⟩ : ∃ t, (l[k]'hlt).text = t := ⟨_, rfl⟩
          rw [ht] at r1
          have hjt := joinTs_take l k hlt
          rw [ht] at hjt
          have hjl := joinTs_le l (k + 1)
          rw [hjt, List.length_append] at hjl
          have hjx : t.length ≤ (joinT t).length := by unfold joinT; split <;> simp_all
          by_cases h10 : t = [10]
          · have x1 : ((bs t).toList == [10]) = true := by rw [h10, bs_toList]; rfl
            have x2 : ((bs t).toList != [10]) = false := by unfold bne; rw [x1]; rfl
            have hj : joinT t = t := by unfold joinT; rw [if_pos h10, h10]
            rw [hj] at hjt hjl
            have HJT := hide hjt; clear hjt hj h10
            go_wp2_with ((at_builtin; refine Lib.wpList_append_own_string _ rfl _ _ _ _ rfl w1.heap.size 5 i0 Tryd.underlying22 Tryd.underlying9 hi0 hz0 hz1 hz2 _ _ _ rfl HOWN.out (bs t) rfl (by rw [bs_size]; simp only [maxLen]; omega) (by rw [bs_size]; omega) HBL.out.size ?_; intro v2 w2 hown2 hgrow2 hnil2; have B2 := hide ((Below.refl w1.heap.size W).grown hgrow2 HBL.out.size (fun k hk => (own_lt' HOWN.out k hk).2)); have r2 := (B2.out.cell (p := ⟨g, k * 3 + 1, none⟩) hg).trans r1; have E2 := hide hown2; clear hown2 hgrow2 hnil2))
            go_roundw
            case rel =>
              refine ⟨_, rfl, k + 1, by omega, by go_num, ?_, HBL.out.trans B2.out⟩
              have := E2.out
              rw [strCells_bs, ← bcells_append, bs_size, ← List.length_append] at this
              rw [HJT.out]; exact this
            case measure => simp [intOf]; omega
          · have x1 : ((bs t).toList == [10]) = false := by rw [bs_toList]; simpa using h10
            have x2 : ((bs t).toList != [10]) = true := by unfold bne; rw [x1]; rfl
            have hj : joinT t = t ++ [32] := by unfold joinT; rw [if_neg h10]
            rw [hj] at hjt hjl
            have hjl2 : (joinTs (l.take k)).length + (t.length + 1) ≤ (joinTs l).length := by simpa using hjl
            have HJT := hide hjt; clear hjt hj h10
            go_wp2_with (first | (at_builtin; refine Lib.wpList_append_own_string _ rfl _ _ _ _ rfl w1.heap.size 5 i0 Tryd.underlying22 Tryd.underlying9 hi0 hz0 hz1 hz2 _ _ _ rfl HOWN.out (bs t) rfl (by rw [bs_size]; simp only [maxLen]; omega) (by rw [bs_size]; omega) HBL.out.size ?_; intro v2 w2 hown2 hgrow2 hnil2; have B2 := hide ((Below.refl w1.heap.size W).grown hgrow2 HBL.out.size (fun k hk => (own_lt' HOWN.out k hk).2)); have r2 := (B2.out.cell (p := ⟨g, k * 3 + 1, none⟩) hg).trans r1; have E2 := hide hown2; clear hown2 hgrow2 hnil2) | (at_builtin; refine wpList_append_own _ rfl _ _ _ rfl w1.heap.size 5 i0 _ 1 1 Tryd.underlying22 hi0 hz0 hz1 hz2 rfl (by omega) v2 _ _ rfl (E2.out.alloc _) ⟨w2.heap.size, 0, none⟩ 1 1 [.int .u8 32] rfl rfl (World.news_of_block (cs := #[.int .u8 32]) (t := 5) (fr := (0, 0)) (heap_alloc_new w2 _)) (by simp [Value.oneCell']) (by rw [bs_size]; simp only [maxLen]; omega) (by rw [bs_size]; omega) (by have := B2.out.size; have := HBL.out.size; simp; omega) ?_; intro v3 w3 hown3 hgrow3 hnil3; have B3 := hide (((Below.refl w1.heap.size w2).alloc (Nat.le_trans HBL.out.size B2.out.size) _).grown hgrow3 (by have := B2.out.size; have := HBL.out.size; simp; omega) (fun k hk => (own_lt' E2.out k hk).2)); have E3 := hide hown3; clear hown3 hgrow3 hnil3))
            go_roundw
            case rel =>
              refine ⟨_, rfl, k + 1, by omega, by go_num, ?_, (HBL.out.trans B2.out).trans B3.out⟩
              have := E3.out
              rw [strCells_bs, ← bcells_append, bs_size, ← List.length_append, show [Value.int .u8 32] = bcells [32] from rfl, ← bcells_append] at this
              rw [HJT.out, ← List.append_assoc, List.length_append]; exact this
            case measure => simp [intOf]; omega
      · obtain rfl : k = l.length := by omega
        have hlt2 : ¬ (l.length : Int) < (l.length : Int) := by omega
        rw [List.take_length] at hown
        have hbc := own_bytes hown
        have hb01 := HB1.out.trans (hbl.mono HB1.out.size)
        have HB01 := hide hb01
        have hsc2 := Scan_any W _ _ hbc (Utf8Tabs_below HT.out hb01) (HM.out.below hb01 h3) (Nat.le_trans h3 hb01.size) (by omega)
        have HBL := hide hbl
        clear hb01 hbl hown hbc
        unfold ScanRet at hsc2
        rw [hj2] at hsc2
        simp only at hsc2
        have HC2 := hide hsc2; clear hsc2
        have hml : m.length = l.length := by have := congrArg List.length hj3; simpa using this
        have HJ3 := hide hj3; clear hj3
        go_wp2_with fail
        refine HC2.out.mono ?_
        rintro e w2 ⟨v2, rfl, hrow2, hok2, hb2⟩
        have HB2 := hide hb2; clear hb2 hok2
        have HROW2 := hide hrow2
        obtain ⟨A2, c2, rfl⟩ := hrow2.2
        clear hrow2
        rw [hml]
        have ne1 : ((l.length : Int) != (l.length : Int)) = false := by simp
        go_wp2_with fail
        go_loopw [11] (fun i W' => ∃ w', w' = W' ∧ ∃ k : Nat, k ≤ l.length ∧ i = .int .i64 k ∧ Below w2.heap.size w2 W') (fun i _ => l.length - (intOf i).toNat)
        case atStart => exact ⟨_, rfl, 0, Nat.zero_le _, rfl, Below.refl _ _⟩
        case round =>
          obtain ⟨W3, rfl, k, hk, rfl, hb3⟩ := hrel
          have HB3 := hide hb3; clear hb3
          by_cases hlt : k < l.length
          · have hlt2 : (k : Int) < (l.length : Int) := by omega
            have hk2 : (k : Int) ≤ 200000 := by have := hL; omega
            rcases HROW.out.lies with ⟨rfl, _⟩ | ⟨g, c1', hvv, hc1, hg, hr⟩
            · simp at hlt
            rcases HROW2.out.lies with ⟨rfl, _⟩ | ⟨g2, c2', hvv2, hc2, hg2, hr2⟩
            · simp at hml; omega
            injection hvv with hA _ hcc
            injection hvv2 with hA2 _ hcc2
            subst hA hcc hA2 hcc2
            have hkm : k < m.length := by omega
            have hr := hr k hlt
            have hr2 := hr2 k hkm
            have hkey : key (m[k]'hkm) = key (l[k]'hlt) := by
              have h1 : (m.map key)[k]? = (l.map key)[k]? := by rw [HJ3.out]
              rw [List.getElem?_map, List.getElem?_map, List.getElem?_eq_getElem hkm, List.getElem?_eq_getElem hlt] at h1
              simpa using h1
            have ek : (m[k]'hkm).kind = (l[k]'hlt).kind := congrArg Prod.fst hkey
            have et : (m[k]'hkm).text = (l[k]'hlt).text := congrArg Prod.snd hkey
            rw [ek, et] at hr2
            have hb13 : Below w1.heap.size w1 W3 := (HBL.out.trans (HB2.out.mono HBL.out.size)).trans (HB3.out.mono (Nat.le_trans HBL.out.size HB2.out.size))
            have r0 : W3.cell? ⟨g, k * 3, none⟩ = some (.int .i64 ((l[k]'hlt).kind : Int)) := (hb13.cell (p := ⟨g, k * 3, none⟩) hg).trans hr.1
            have r1 : W3.cell? ⟨g, k * 3 + 1, none⟩ = some (.string (bs (l[k]'hlt).text)) := (hb13.cell (p := ⟨g, k * 3 + 1, none⟩) hg).trans hr.2.1
            have s0 : W3.cell? ⟨g2, k * 3, none⟩ = some (.int .i64 ((l[k]'hlt).kind : Int)) := (HB3.out.cell (p := ⟨g2, k * 3, none⟩) hg2).trans hr2.1
            have s1 : W3.cell? ⟨g2, k * 3 + 1, none⟩ = some (.string (bs (l[k]'hlt).text)) := (HB3.out.cell (p := ⟨g2, k * 3 + 1, none⟩) hg2).trans hr2.2.1
            clear hr hr2 hb13 hkey ek et
            obtain ⟨kd, hkd⟩ : ∃ kd : Int, ((l[k]'hlt).kind : Int) = kd := ⟨_, rfl⟩
            obtain ⟨tx, htx⟩ : ∃ tx, bs (l[k]'hlt).text = tx := ⟨_, rfl⟩
            rw [hkd] at r0 s0
            rw [htx] at r1 s1
            have n1 : (kd != kd) = false := by simp
            have n2 : (tx.toList != tx.toList) = false := by simp
            clear hkd htx
            go_wp2_with fail
            go_still (by kernel_rfl)
            rw [drew_lit]
            go_wp2_with fail
            go_roundw
            case rel => exact ⟨_, rfl, k + 1, by omega, by go_num, HB3.out.drew⟩
            case measure => simp [intOf]; omega
          · obtain rfl : k = l.length := by omega
            have hlt2 : ¬ (l.length : Int) < (l.length : Int) := by omega
            have hb03 := HB01.out.trans ((HB2.out.mono HB01.out.size).trans (HB3.out.mono (Nat.le_trans HB01.out.size HB2.out.size)))
            have HB03 := hide hb03; clear hb03
            go_wp2_with fail
            refine (awake_any W3 (Utf8Tabs_below HT.out HB03.out) (HM.out.below HB03.out h3) (Nat.le_trans h3 HB03.out.size)).mono ?_
            rintro e w5 ⟨rfl, hb5⟩
            have HB5 := hide hb5; clear hb5
            go_wp2_with fail
            go_ret
            exact ⟨rfl, HB03.out.trans (HB5.out.mono HB03.out.size)⟩
end Go.Proofs.YtehflgllfkkfoaaDoor
