/- The reference's 'sign' and 'ends'. -/
import Derived.Test.YtehflgllfkkfoaaDoorRg
import Derived.Deep.CutRange
import Derived.Deep.DeepCutAuto
set_option linter.unusedVariables false
set_option linter.unusedSimpArgs false
namespace Go.Proofs.YtehflgllfkkfoaaDoor
open Go.RowKit Go.Proofs.Dm

theorem alloc3_blocks (w : World) (O1 O2 O3 : Obj) : (((w.alloc O1).alloc O2).alloc O3).heap[w.heap.size]? = some O1 ∧ (((w.alloc O1).alloc O2).alloc O3).heap[w.heap.size + 1]? = some O2 ∧ (((w.alloc O1).alloc O2).alloc O3).heap[w.heap.size + 1 + 1]? = some O3 ∧
    Below w.heap.size w (((w.alloc O1).alloc O2).alloc O3) := by
  have s1 : (w.alloc O1).heap.size = w.heap.size + 1 := by simp
  have s2 : ((w.alloc O1).alloc O2).heap.size = w.heap.size + 1 + 1 := by simp
  refine ⟨?_, ?_, ?_, (((Below.refl _ w).alloc (Nat.le_refl _) _).alloc (by rw [s1]; omega) _).alloc (by rw [s2]; omega) _⟩
  · rw [Below.heap_alloc _ _ _ (by rw [s2]; omega), Below.heap_alloc _ _ _ (by rw [s1]; omega)]; exact heap_alloc_new w O1
  · rw [Below.heap_alloc _ _ _ (by rw [s2]; omega), ← s1]; exact heap_alloc_new _ O2
  · rw [← s2]; exact heap_alloc_new _ O3
theorem strs_block {W : World} {g : Nat} {ws : List Bs} {T : TypeId} (h : W.heap[g]? = some (.cells (ws.map fun x => Value.string (bs x)).toArray T (0, 0))) (j : Nat) (hj : j < ws.length) : W.cell? ⟨g, 0 + j, none⟩ = some (.string (bs (ws[j]'hj))) := by
  rw [cells_at h, Nat.zero_add]
  simp [hj]
def signInt (b : Bs) (p : Nat) : Int := match signLen (b.drop p) with | none => 0 | some n => (n : Int)
theorem take_short {b : Bs} {p n : Nat} {ws : List Bs} (hl : ∀ x ∈ ws, x.length = n) (hn : 0 < n) (h : b.length < p + n) : (b.drop p).take n ∉ ws := fun hm => by
  have := hl _ hm
  rw [List.length_take, List.length_drop] at this
  omega

set_option maxRecDepth 100000 in
set_option maxHeartbeats 12800000 in
theorem rsign_any (w : World) (a o cap : Nat) (b : Bs) (hba : BA w a o cap b) (hb : b.length ≤ 65536) (p : Nat) (hp : p < b.length) :
    Calls Tryd.prog 42 #[.slice (some ⟨a, o, none⟩) b.length cap, .int .i64 (p : Int)] w fun e w' => e = .returned (.int .i64 (signInt b p)) ∧ Below w.heap.size w w' := by
  have hcap : (b.length : Int) ≤ (cap : Int) := by have := hba.1; omega
  have HBA := hide hba; clear hba
  obtain ⟨V, hV⟩ : ∃ V, signInt b p = V := ⟨_, rfl⟩
  rw [hV]
  have p0 : (0 : Int) ≤ (p : Int) := by omega
  have p1 : (p : Int) < (b.length : Int) := by omega
  have p2 : (b.length : Int) ≤ 65536 := by omega
  obtain ⟨W, hW⟩ : ∃ W, ((w.alloc (.cells #[.string ⟨#[60, 60, 61]⟩, .string ⟨#[62, 62, 61]⟩, .string ⟨#[38, 94, 61]⟩, .string ⟨#[46, 46, 46]⟩] 9 (0, 0))).alloc (.cells #[.string ⟨#[38, 38]⟩, .string ⟨#[124, 124]⟩, .string ⟨#[61, 61]⟩, .string ⟨#[33, 61]⟩, .string ⟨#[60, 61]⟩, .string ⟨#[62, 61]⟩, .string ⟨#[58, 61]⟩, .string ⟨#[43, 43]⟩, .string ⟨#[45, 45]⟩, .string ⟨#[43, 61]⟩, .string ⟨#[45, 61]⟩, .string ⟨#[42, 61]⟩, .string ⟨#[47, 61]⟩, .string ⟨#[37, 61]⟩, .string ⟨#[38, 61]⟩, .string ⟨#[124, 61]⟩, .string ⟨#[94, 61]⟩, .string ⟨#[60, 60]⟩, .string ⟨#[62, 62]⟩, .string ⟨#[38, 94]⟩, .string ⟨#[60, 45]⟩] 9 (0, 0))).alloc (.cells #[.string ⟨#[43]⟩, .string ⟨#[45]⟩, .string ⟨#[42]⟩, .string ⟨#[47]⟩, .string ⟨#[37]⟩, .string ⟨#[38]⟩, .string ⟨#[124]⟩, .string ⟨#[94]⟩, .string ⟨#[60]⟩, .string ⟨#[62]⟩, .string ⟨#[61]⟩, .string ⟨#[33]⟩, .string ⟨#[40]⟩, .string ⟨#[41]⟩, .string ⟨#[91]⟩, .string ⟨#[93]⟩, .string ⟨#[123]⟩, .string ⟨#[125]⟩, .string ⟨#[44]⟩, .string ⟨#[59]⟩, .string ⟨#[46]⟩, .string ⟨#[58]⟩, .string ⟨#[126]⟩] 9 (0, 0)) = W := ⟨_, rfl⟩
  have hbl := alloc3_blocks w (.cells (signs3.map fun x => Value.string (bs x)).toArray 9 (0, 0)) (.cells (signs2.map fun x => Value.string (bs x)).toArray 9 (0, 0)) (.cells (signs1.map fun x => Value.string (bs x)).toArray 9 (0, 0))
  have hW2 : ((w.alloc (.cells (signs3.map fun x => Value.string (bs x)).toArray 9 (0, 0))).alloc (.cells (signs2.map fun x => Value.string (bs x)).toArray 9 (0, 0))).alloc (.cells (signs1.map fun x => Value.string (bs x)).toArray 9 (0, 0)) = W := hW
  rw [hW2] at hbl
  obtain ⟨hb3, hb2, hb1, hbw⟩ := hbl
  clear hW2
  have HBW := hide hbw; clear hbw
  have HA := hide (HBA.out.below HBW.out)
  have i3 := in_any W ((b.drop p).take 3) w.heap.size 0 4 signs3 4 rfl (strs_block hb3) (Nat.le_refl _) (by decide)
  have i2 := in_any W ((b.drop p).take 2) (w.heap.size + 1) 0 21 signs2 21 rfl (strs_block hb2) (Nat.le_refl _) (by decide)
  have i1 := in_any W ((b.drop p).take 1) (w.heap.size + 1 + 1) 0 23 signs1 23 rfl (strs_block hb1) (Nat.le_refl _) (by decide)
  clear hb3 hb2 hb1
  have cv1 := HA.out.cv p 1 (by omega)
  have hV' : Hid (V = if (b.drop p).take 3 ∈ signs3 then 3 else if (b.drop p).take 2 ∈ signs2 then 2 else if (b.drop p).take 1 ∈ signs1 then 1 else 0) := hide (by
    rw [← hV]; unfold signInt signLen
    by_cases a3 : (b.drop p).take 3 ∈ signs3
    · simp only [a3, if_true]; rfl
    · by_cases a2 : (b.drop p).take 2 ∈ signs2
      · simp only [a3, a2, if_true, if_false]; rfl
      · by_cases a1 : (b.drop p).take 1 ∈ signs1
        · simp only [a3, a2, a1, if_true, if_false]; rfl
        · simp only [a3, a2, a1, if_false])
  clear hV
  by_cases l3 : (p : Int) + 3 ≤ (b.length : Int)
  · have d3 : decide ((p : Int) + 3 ≤ (b.length : Int)) = true := decide_eq_true l3
    have cv3 := HA.out.cv p 3 (by omega)
    by_cases m3 : (b.drop p).take 3 ∈ signs3
    · rw [decide_eq_true m3] at i3
      have I3 := hide i3; clear i3
      go_enter Tryd.func42, Tryd.ntmps42
      go_wp2_with fail
      refine I3.out.mono ?_
      rintro e w' ⟨rfl, rfl⟩
      go_wp2_with fail
      go_ret
      exact ⟨ret_int (by rw [hV'.out, if_pos m3]), HBW.out⟩
    · rw [decide_eq_false m3] at i3
      have I3 := hide i3; clear i3
      by_cases l2 : (p : Int) + 2 ≤ (b.length : Int)
      · have d2 : decide ((p : Int) + 2 ≤ (b.length : Int)) = true := decide_eq_true l2
        have cv2 := HA.out.cv p 2 (by omega)
        by_cases m2 : (b.drop p).take 2 ∈ signs2
        · rw [decide_eq_true m2] at i2
          have I2 := hide i2; clear i2
          go_enter Tryd.func42, Tryd.ntmps42
          go_wp2_with fail
          refine I3.out.mono ?_
          rintro e w' ⟨rfl, rfl⟩
          go_wp2_with fail
          refine I2.out.mono ?_
          rintro e w' ⟨rfl, rfl⟩
          go_wp2_with fail
          go_ret
          exact ⟨ret_int (by rw [hV'.out, if_neg m3, if_pos m2]), HBW.out⟩
        · rw [decide_eq_false m2] at i2
          have I2 := hide i2; clear i2
          by_cases m1 : (b.drop p).take 1 ∈ signs1
          · rw [decide_eq_true m1] at i1
            have I1 := hide i1; clear i1
            go_enter Tryd.func42, Tryd.ntmps42
            go_wp2_with fail
            refine I3.out.mono ?_
            rintro e w' ⟨rfl, rfl⟩
            go_wp2_with fail
            refine I2.out.mono ?_
            rintro e w' ⟨rfl, rfl⟩
            go_wp2_with fail
            refine I1.out.mono ?_
            rintro e w' ⟨rfl, rfl⟩
            go_wp2_with fail
            go_ret
            exact ⟨ret_int (by rw [hV'.out, if_neg m3, if_neg m2, if_pos m1]), HBW.out⟩
          · rw [decide_eq_false m1] at i1
            have I1 := hide i1; clear i1
            go_enter Tryd.func42, Tryd.ntmps42
            go_wp2_with fail
            refine I3.out.mono ?_
            rintro e w' ⟨rfl, rfl⟩
            go_wp2_with fail
            refine I2.out.mono ?_
            rintro e w' ⟨rfl, rfl⟩
            go_wp2_with fail
            refine I1.out.mono ?_
            rintro e w' ⟨rfl, rfl⟩
            go_wp2_with fail
            go_ret
            exact ⟨ret_int (by rw [hV'.out, if_neg m3, if_neg m2, if_neg m1]), HBW.out⟩
      · exact absurd (show (p : Int) + 2 ≤ (b.length : Int) by omega) l2
  · have d3 : decide ((p : Int) + 3 ≤ (b.length : Int)) = false := decide_eq_false l3
    have m3 : (b.drop p).take 3 ∉ signs3 := take_short len3 (by omega) (by omega)
    by_cases l2 : (p : Int) + 2 ≤ (b.length : Int)
    · have d2 : decide ((p : Int) + 2 ≤ (b.length : Int)) = true := decide_eq_true l2
      have cv2 := HA.out.cv p 2 (by omega)
      by_cases m2 : (b.drop p).take 2 ∈ signs2
      · rw [decide_eq_true m2] at i2
        have I2 := hide i2; clear i2
        go_enter Tryd.func42, Tryd.ntmps42
        go_wp2_with fail
        refine I2.out.mono ?_
        rintro e w' ⟨rfl, rfl⟩
        go_wp2_with fail
        go_ret
        exact ⟨ret_int (by rw [hV'.out, if_neg m3, if_pos m2]), HBW.out⟩
      · rw [decide_eq_false m2] at i2
        have I2 := hide i2; clear i2
        by_cases m1 : (b.drop p).take 1 ∈ signs1
        · rw [decide_eq_true m1] at i1
          have I1 := hide i1; clear i1
          go_enter Tryd.func42, Tryd.ntmps42
          go_wp2_with fail
          refine I2.out.mono ?_
          rintro e w' ⟨rfl, rfl⟩
          go_wp2_with fail
          refine I1.out.mono ?_
          rintro e w' ⟨rfl, rfl⟩
          go_wp2_with fail
          go_ret
          exact ⟨ret_int (by rw [hV'.out, if_neg m3, if_neg m2, if_pos m1]), HBW.out⟩
        · rw [decide_eq_false m1] at i1
          have I1 := hide i1; clear i1
          go_enter Tryd.func42, Tryd.ntmps42
          go_wp2_with fail
          refine I2.out.mono ?_
          rintro e w' ⟨rfl, rfl⟩
          go_wp2_with fail
          refine I1.out.mono ?_
          rintro e w' ⟨rfl, rfl⟩
          go_wp2_with fail
          go_ret
          exact ⟨ret_int (by rw [hV'.out, if_neg m3, if_neg m2, if_neg m1]), HBW.out⟩
    · have d2 : decide ((p : Int) + 2 ≤ (b.length : Int)) = false := decide_eq_false l2
      have m2 : (b.drop p).take 2 ∉ signs2 := take_short len2 (by omega) (by omega)
      by_cases m1 : (b.drop p).take 1 ∈ signs1
      · rw [decide_eq_true m1] at i1
        have I1 := hide i1; clear i1
        go_enter Tryd.func42, Tryd.ntmps42
        go_wp2_with fail
        refine I1.out.mono ?_
        rintro e w' ⟨rfl, rfl⟩
        go_wp2_with fail
        go_ret
        exact ⟨ret_int (by rw [hV'.out, if_neg m3, if_neg m2, if_pos m1]), HBW.out⟩
      · rw [decide_eq_false m1] at i1
        have I1 := hide i1; clear i1
        go_enter Tryd.func42, Tryd.ntmps42
        go_wp2_with fail
        refine I1.out.mono ?_
        rintro e w' ⟨rfl, rfl⟩
        go_wp2_with fail
        go_ret
        exact ⟨ret_int (by rw [hV'.out, if_neg m3, if_neg m2, if_neg m1]), HBW.out⟩

theorem rends_nil (w : World) (A : Option Addr) (c : Nat) : Calls Tryd.prog 37 #[.slice A 0 c] w fun e w' => e = .returned (.bool (ends [])) ∧ Below w.heap.size w w' := by
  go_enter Tryd.func37, Tryd.ntmps37
  go_wp2_with fail
  go_ret
  exact ⟨rfl, Below.refl _ _⟩
set_option maxRecDepth 100000 in
set_option maxHeartbeats 12800000 in
theorem rends_some (w : World) (g n m c kind pos : Nat) (text : Bs) (hk : kind = 1 ∨ kind = 2 ∨ kind = 3 ∨ kind = 4 ∨ kind = 5 ∨ kind = 6)
    (k0 : w.cell? ⟨g, n * 3, none⟩ = some (.int .i64 (kind : Int))) (k1 : w.cell? ⟨g, n * 3 + 1, none⟩ = some (.string (bs text))) (k2 : w.cell? ⟨g, n * 3 + 2, none⟩ = some (.int .i64 (pos : Int))) (hm : Hid (m = n + 1)) (hm2 : m ≤ c) (hn : n ≤ 200000) :
    Calls Tryd.prog 37 #[.slice (some ⟨g, 0, none⟩) m c] w fun e w' => e = .returned (.bool (endsT kind text)) ∧ Below w.heap.size w w' := by
  have m1 : (m : Int) - 1 = (n : Int) := by have := hm.out; omega
  have m0 : (0 : Int) < (m : Int) := by have := hm.out; omega
  have m2 : (m : Int) ≤ (c : Int) := by omega
  have m3 : (m : Int) ≤ 200001 := by have := hm.out; omega
  have m4 : (n : Int) < (m : Int) := by have := hm.out; omega
  obtain ⟨W, hW⟩ : ∃ W, w.alloc (.cells #[.int .i64 (kind : Int), .string (bs text), .int .i64 (pos : Int)] 54 (0, 0)) = W := ⟨_, rfl⟩
  have hWb : Below w.heap.size w W := by rw [← hW]; exact (Below.refl _ w).alloc (Nat.le_refl _) _
  have hWn := heap_alloc_new w (.cells #[.int .i64 (kind : Int), .string (bs text), .int .i64 (pos : Int)] 54 (0, 0))
  rw [hW] at hWn
  have x0 : W.cell? ⟨w.heap.size, 0, none⟩ = some (.int .i64 (kind : Int)) := cells_at hWn 0
  have x1 : W.cell? ⟨w.heap.size, 1, none⟩ = some (.string (bs text)) := cells_at hWn 1
  have i4 := in_endWords W text
  have i5 := in_endSigns W text
  have HWB := hide hWb; clear hWb hWn
  obtain ⟨V, hV⟩ : ∃ V, endsT kind text = V := ⟨_, rfl⟩
  rw [hV]
  rcases hk with rfl | rfl | rfl | rfl | rfl | rfl
  · have k0' : w.cell? ⟨g, n * 3, none⟩ = some (.int .i64 1) := k0
    have x0' : W.cell? ⟨w.heap.size, 0, none⟩ = some (.int .i64 1) := x0
    have hW' : w.alloc (.cells #[.int .i64 1, .string (bs text), .int .i64 (pos : Int)] 54 (0, 0)) = W := hW
    clear k0 x0 hW
    have hv : Hid (V = true) := hide (by rw [← hV]; rfl)
    clear hV i4 i5
    go_enter Tryd.func37, Tryd.ntmps37
    go_wp2_with fail
    go_ret
    exact ⟨ret_bool hv.out.symm, HWB.out⟩
  · have k0' : w.cell? ⟨g, n * 3, none⟩ = some (.int .i64 2) := k0
    have x0' : W.cell? ⟨w.heap.size, 0, none⟩ = some (.int .i64 2) := x0
    have hW' : w.alloc (.cells #[.int .i64 2, .string (bs text), .int .i64 (pos : Int)] 54 (0, 0)) = W := hW
    clear k0 x0 hW
    have hv : Hid (V = decide (text ∈ endWords)) := hide (by rw [← hV]; unfold endsT; simp)
    have II := hide i4
    clear hV i4 i5
    go_enter Tryd.func37, Tryd.ntmps37
    go_wp2_with fail
    refine II.out.mono ?_
    rintro e w' ⟨rfl, rfl⟩
    go_wp2_with fail
    go_ret
    exact ⟨ret_bool hv.out.symm, HWB.out.alloc HWB.out.size _⟩
  · have k0' : w.cell? ⟨g, n * 3, none⟩ = some (.int .i64 3) := k0
    have x0' : W.cell? ⟨w.heap.size, 0, none⟩ = some (.int .i64 3) := x0
    have hW' : w.alloc (.cells #[.int .i64 3, .string (bs text), .int .i64 (pos : Int)] 54 (0, 0)) = W := hW
    clear k0 x0 hW
    have hv : Hid (V = decide (text ∈ endWords)) := hide (by rw [← hV]; unfold endsT; simp)
    have II := hide i4
    clear hV i4 i5
    go_enter Tryd.func37, Tryd.ntmps37
    go_wp2_with fail
    refine II.out.mono ?_
    rintro e w' ⟨rfl, rfl⟩
    go_wp2_with fail
    go_ret
    exact ⟨ret_bool hv.out.symm, HWB.out.alloc HWB.out.size _⟩
  · have k0' : w.cell? ⟨g, n * 3, none⟩ = some (.int .i64 4) := k0
    have x0' : W.cell? ⟨w.heap.size, 0, none⟩ = some (.int .i64 4) := x0
    have hW' : w.alloc (.cells #[.int .i64 4, .string (bs text), .int .i64 (pos : Int)] 54 (0, 0)) = W := hW
    clear k0 x0 hW
    have hv : Hid (V = true) := hide (by rw [← hV]; rfl)
    clear hV i4 i5
    go_enter Tryd.func37, Tryd.ntmps37
    go_wp2_with fail
    go_ret
    exact ⟨ret_bool hv.out.symm, HWB.out⟩
  · have k0' : w.cell? ⟨g, n * 3, none⟩ = some (.int .i64 5) := k0
    have x0' : W.cell? ⟨w.heap.size, 0, none⟩ = some (.int .i64 5) := x0
    have hW' : w.alloc (.cells #[.int .i64 5, .string (bs text), .int .i64 (pos : Int)] 54 (0, 0)) = W := hW
    clear k0 x0 hW
    have hv : Hid (V = true) := hide (by rw [← hV]; rfl)
    clear hV i4 i5
    go_enter Tryd.func37, Tryd.ntmps37
    go_wp2_with fail
    go_ret
    exact ⟨ret_bool hv.out.symm, HWB.out⟩
  · have k0' : w.cell? ⟨g, n * 3, none⟩ = some (.int .i64 6) := k0
    have x0' : W.cell? ⟨w.heap.size, 0, none⟩ = some (.int .i64 6) := x0
    have hW' : w.alloc (.cells #[.int .i64 6, .string (bs text), .int .i64 (pos : Int)] 54 (0, 0)) = W := hW
    clear k0 x0 hW
    have hv : Hid (V = decide (text ∈ endSigns)) := hide (by rw [← hV]; unfold endsT; simp)
    have II := hide i5
    clear hV i4 i5
    go_enter Tryd.func37, Tryd.ntmps37
    go_wp2_with fail
    refine II.out.mono ?_
    rintro e w' ⟨rfl, rfl⟩
    go_wp2_with fail
    go_ret
    exact ⟨ret_bool hv.out.symm, HWB.out.alloc HWB.out.size _⟩
end Go.Proofs.YtehflgllfkkfoaaDoor
