/- TokenLines, walked. -/
import Derived.Test.YtehflgllfkkfoaaDoorTq
import Derived.Test.YtehflgllfkkfoaaDoorLaw
set_option linter.unusedVariables false
set_option linter.unusedSimpArgs false
namespace Go.Proofs.YtehflgllfkkfoaaDoor
open Go.RowKit Go.Proofs.Dm
theorem bne_lit {t x : Bs} (h : t ≠ x) : ((bs t).toList != x) = true ∧ ((bs t).toList == x) = false := by
  have : ((bs t).toList == x) = false := by rw [bs_toList]; simpa using h
  exact ⟨by unfold bne; rw [this]; rfl, this⟩
theorem ends_six {t : Tk} (h : endsT t.kind t.text = true) (h6 : t.kind = 6) : t.text = [43, 43] ∨ t.text = [45, 45] ∨ t.text = [41] ∨ t.text = [93] ∨ t.text = [125] := by
  unfold endsT at h
  rw [h6] at h
  simpa [endSigns] using h
theorem int_ne {a : Nat} {x : Nat} (h : a ≠ x) : (((a : Int)) == (x : Int)) = false ∧ (((a : Int)) != (x : Int)) = true := by
  have : (((a : Int)) == (x : Int)) = false := by rw [beq_eq_false_iff_ne]; omega
  exact ⟨this, by unfold bne; rw [this]; rfl⟩

set_option maxRecDepth 100000 in
set_option maxHeartbeats 12800000 in
theorem lines_any (w : World) (v : Value) (b : Bs) (hv : BytesAt w v b) (hT : Lib.Utf8Tabs 0 1 w) (hM : MaxLenOk w) (h3 : 3 ≤ w.heap.size) :
    Calls Tryd.prog 4 #[v] w fun e w' => e = .returned (.bool true) ∧ Below w.heap.size w w' := by
  obtain ⟨A, c, rfl⟩ := hv.slice
  by_cases hlong : (1000 : Int) < (b.length : Int)
  · clear hv hT hM
    go_enter Tryd.func4, Tryd.ntmps4
    go_wp2_with fail
    go_ret
    exact ⟨rfl, Below.refl _ _⟩
  have hb : b.length ≤ 1000 := by omega
  have hsc := Scan_any w _ b hv hT hM h3 (by omega)
  have HT := hide hT; clear hT
  have HM := hide hM; clear hM
  have HV := hide hv; clear hv
  unfold ScanRet at hsc
  cases hs : scanS b with
  | bad p k =>
    rw [hs] at hsc
    simp only at hsc
    have hk := bad_code hs
    have k0 : ((k : Int) != 0) = true := by simp; omega
    have k1 : ((k : Int) == 0) = false := by simp; omega
    have HC := hide hsc
    clear hsc hk
    go_enter Tryd.func4, Tryd.ntmps4
    go_wp2_with fail
    refine HC.out.mono ?_
    rintro e w1 ⟨rfl, hb1⟩
    have HB1 := hide hb1; clear hb1 hs
    go_wp2_with fail
    refine (awake_any w1 (Utf8Tabs_below HT.out HB1.out) (HM.out.below HB1.out h3) (Nat.le_trans h3 HB1.out.size)).mono ?_
    rintro e w2 ⟨rfl, hb2⟩
    have HB2 := hide hb2; clear hb2
    go_wp2_with fail
    go_ret
    exact ⟨rfl, HB1.out.trans (HB2.out.mono HB1.out.size)⟩
  | ok l ns =>
    rw [hs] at hsc
    simp only at hsc
    have hL : l.length ≤ 1001 := by have := scan_count hs; omega
    have HC := hide hsc
    clear hsc
    go_enter Tryd.func4, Tryd.ntmps4
    go_wp2_with fail
    refine HC.out.mono ?_
    rintro e w1 ⟨v1, rfl, hrow, hok, hb1⟩
    have HB1 := hide hb1; clear hb1
    have HROW := hide hrow
    obtain ⟨A1, c1, rfl⟩ := hrow.2
    clear hrow hok
    have HLN := hide (scanS_lines hs)
    have HKD := hide (scanS_kinds hs)
    clear hs
    go_wp2_with fail
    go_loopw [6] (fun i W => ∃ w', w' = W ∧ ∃ k : Nat, k ≤ l.length ∧ i = .int .i64 k ∧ Below w1.heap.size w1 W) (fun i _ => l.length - (intOf i).toNat)
    case atStart => exact ⟨_, rfl, 0, Nat.zero_le _, rfl, Below.refl _ _⟩
    case round =>
      obtain ⟨W, rfl, k, hk, rfl, hbl⟩ := hrel
      have HBL := hide hbl; clear hbl
      have hk2 : (k : Int) ≤ 200000 := by omega
      have hk0 : (0 : Int) ≤ (k : Int) := by omega
      rcases HROW.out.lies with ⟨rfl, _⟩ | ⟨g, c1', hvv, hc1, hg, hr⟩
      · -- no token
        obtain rfl : k = 0 := by simpa using hk
        go_wp2_with fail
        refine (awake_any W (Utf8Tabs_below HT.out (HB1.out.trans (HBL.out.mono HB1.out.size))) (HM.out.below (HB1.out.trans (HBL.out.mono HB1.out.size)) h3) (Nat.le_trans h3 ((HB1.out.trans (HBL.out.mono HB1.out.size))).size)).mono ?_
        rintro e w9 ⟨rfl, hb9⟩
        have HB9 := hide hb9; clear hb9
        go_wp2_with fail
        go_ret
        exact ⟨rfl, ((HB1.out.trans (HBL.out.mono HB1.out.size))).trans (HB9.out.mono ((HB1.out.trans (HBL.out.mono HB1.out.size))).size)⟩
      · injection hvv with hA _ hcc
        subst hA hcc
        have hpos : 0 < l.length ∨ l = [] := by cases l <;> simp
        by_cases hlt : k < l.length
        · have hlt2 : (k : Int) < (l.length : Int) := by omega
          have r1 : W.cell? ⟨g, k * 3 + 1, none⟩ = some (.string (bs (l[k]'hlt).text)) := (HBL.out.cell (p := ⟨g, k * 3 + 1, none⟩) hg).trans (hr k hlt).2.1
          by_cases h10 : (l[k]'hlt).text = [10]
          · obtain ⟨j, hj, hkj, he⟩ := HLN.out.1 k hlt h10
            have s0 : W.cell? ⟨g, j * 3, none⟩ = some (.int .i64 ((l[j]'hj).kind : Int)) := (HBL.out.cell (p := ⟨g, j * 3, none⟩) hg).trans (hr j hj).1
            have s1 : W.cell? ⟨g, j * 3 + 1, none⟩ = some (.string (bs (l[j]'hj).text)) := (HBL.out.cell (p := ⟨g, j * 3 + 1, none⟩) hg).trans (hr j hj).2.1
            rw [h10] at r1
            have r1' : W.cell? ⟨g, k * 3 + 1, none⟩ = some (.string ⟨#[10]⟩) := r1
            have jz : ((k : Int) == 0) = false := by rw [beq_eq_false_iff_ne]; omega
            have w0 : (k : Int) - 1 = (j : Int) := by omega
            have w2 : IntKind.i64.wrap ((k : Int) - 1) = (j : Int) := by rw [w0]; exact IntWalk.i64_in _ (by omega)
            have jl : (j : Int) < (l.length : Int) := by omega
            have j0 : (0 : Int) ≤ (j : Int) := by omega
            clear r1 hr hkj
            by_cases h6 : (l[j]'hj).kind = 6
            · have ht := ends_six he h6
              rw [h6] at s0
              clear he h6
              obtain ⟨tx, htx⟩ : ∃ tx, (l[j]'hj).text = tx := ⟨_, rfl⟩
              rw [htx] at ht s1
              clear htx h10
              rcases ht with rfl | rfl | rfl | rfl | rfl
              all_goals
                have s1' := s1
                unfold bs at s1'
                clear s1
                go_wp2_with fail
                go_roundw
                case rel => exact ⟨_, rfl, k + 1, by omega, by go_num, HBL.out⟩
                case measure => simp [intOf]; omega
            · have h6' := (int_ne h6).1
              obtain ⟨kd, hkd⟩ : ∃ kd : Int, ((l[j]'hj).kind : Int) = kd := ⟨_, rfl⟩
              rw [hkd] at s0 h6'
              have h6'' : (kd == 6) = false := h6'
              clear he h6 hkd h10 h6'
              go_wp2_with fail
              go_roundw
              case rel => exact ⟨_, rfl, k + 1, by omega, by go_num, HBL.out⟩
              case measure => simp [intOf]; omega
          · obtain ⟨x1, x2⟩ := bne_lit h10
            obtain ⟨tx, htx⟩ : ∃ tx, (l[k]'hlt).text = tx := ⟨_, rfl⟩
            rw [htx] at r1 x1 x2
            clear htx h10 hr
            go_wp2_with fail
            go_roundw
            case rel => exact ⟨_, rfl, k + 1, by omega, by go_num, HBL.out⟩
            case measure => simp [intOf]; omega
        · obtain rfl : k = l.length := by omega
          have hlt2 : ¬ (l.length : Int) < (l.length : Int) := by omega
          by_cases hz : l.length = 0
          · have z1 : ((l.length : Int) == 0) = true := by rw [hz]; rfl
            clear hz
            go_wp2_with fail
            refine (awake_any W (Utf8Tabs_below HT.out (HB1.out.trans (HBL.out.mono HB1.out.size))) (HM.out.below (HB1.out.trans (HBL.out.mono HB1.out.size)) h3) (Nat.le_trans h3 ((HB1.out.trans (HBL.out.mono HB1.out.size))).size)).mono ?_
            rintro e w9 ⟨rfl, hb9⟩
            have HB9 := hide hb9; clear hb9
            go_wp2_with fail
            go_ret
            exact ⟨rfl, ((HB1.out.trans (HBL.out.mono HB1.out.size))).trans (HB9.out.mono ((HB1.out.trans (HBL.out.mono HB1.out.size))).size)⟩
          · obtain ⟨j, hj⟩ : ∃ j, l.length = j + 1 := ⟨l.length - 1, by omega⟩
            have z1 : ((l.length : Int) == 0) = false := by rw [beq_eq_false_iff_ne]; omega
            have hjl : j < l.length := by omega
            have w0 : (l.length : Int) - 1 = (j : Int) := by omega
            have w2 : IntKind.i64.wrap ((l.length : Int) - 1) = (j : Int) := by rw [w0]; exact IntWalk.i64_in _ (by omega)
            have jl : (j : Int) < (l.length : Int) := by omega
            have j0 : (0 : Int) ≤ (j : Int) := by omega
            have hend : endsT (l[j]'hjl).kind (l[j]'hjl).text = false := by
              have h := HLN.out.2
              unfold ends at h
              have hne : l ≠ [] := fun e => by rw [e] at hj; simp at hj
              rw [List.getLast?_eq_some_getLast hne, List.getLast_eq_getElem] at h
              simp only [show l.length - 1 = j from by omega] at h
              exact h
            obtain ⟨n1, n4, n5, nr, np⟩ := last_ok (HKD.out _ (List.getElem_mem hjl)) hend
            have s0 : W.cell? ⟨g, j * 3, none⟩ = some (.int .i64 ((l[j]'hjl).kind : Int)) := (HBL.out.cell (p := ⟨g, j * 3, none⟩) hg).trans (hr j hjl).1
            have s1 : W.cell? ⟨g, j * 3 + 1, none⟩ = some (.string (bs (l[j]'hjl).text)) := (HBL.out.cell (p := ⟨g, j * 3 + 1, none⟩) hg).trans (hr j hjl).2.1
            have s2 : W.cell? ⟨g, j * 3 + 2, none⟩ = some (.int .i64 ((l[j]'hjl).pos : Int)) := (HBL.out.cell (p := ⟨g, j * 3 + 2, none⟩) hg).trans (hr j hjl).2.2
            have m1 : (((l[j]'hjl).kind : Int) != 1) = true := (int_ne n1).2
            have m4 : (((l[j]'hjl).kind : Int) != 4) = true := (int_ne n4).2
            have m5 : (((l[j]'hjl).kind : Int) != 5) = true := (int_ne n5).2
            have m1' : (((l[j]'hjl).kind : Int) == 1) = false := (int_ne n1).1
            have m4' : (((l[j]'hjl).kind : Int) == 4) = false := (int_ne n4).1
            have m5' : (((l[j]'hjl).kind : Int) == 5) = false := (int_ne n5).1
            have mr := (bne_lit nr).1
            have mp := (bne_lit np).1
            have mr' := (bne_lit nr).2
            have mp' := (bne_lit np).2
            obtain ⟨tx, htx⟩ : ∃ tx, bs (l[j]'hjl).text = tx := ⟨_, rfl⟩
            obtain ⟨kd, hkd⟩ : ∃ kd : Int, ((l[j]'hjl).kind : Int) = kd := ⟨_, rfl⟩
            obtain ⟨ps, hps⟩ : ∃ ps : Int, ((l[j]'hjl).pos : Int) = ps := ⟨_, rfl⟩
            rw [htx] at s1 mr mp mr' mp'
            rw [hkd] at s0 m1 m4 m5 m1' m4' m5'
            rw [hps] at s2
            clear htx hkd hps n1 n4 n5 nr np hend hr hj hz
            have HBA := hide (HB1.out.trans ((HBL.out.mono HB1.out.size).alloc (Nat.le_trans HB1.out.size HBL.out.size) (.cells #[.int .i64 kd, .string tx, .int .i64 ps] 29)))
            go_wp2_with fail
            refine (awake_any _ (Utf8Tabs_below HT.out HBA.out) (HM.out.below HBA.out h3) (Nat.le_trans h3 (HBA.out).size)).mono ?_
            rintro e w9 ⟨rfl, hb9⟩
            have HB9 := hide hb9; clear hb9
            go_wp2_with fail
            go_ret
            exact ⟨rfl, (HBA.out).trans (HB9.out.mono (HBA.out).size)⟩
end Go.Proofs.YtehflgllfkkfoaaDoor
