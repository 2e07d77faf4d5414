/- Package lit: Text, of a text that is too long, and at the example. -/
import Derived.Test.YtehflgllfkkfoaaDoorNq
import Derived.Lib.ConvBytes
import Derived.Lib.AtoiErrMem
import Derived.StillTailTactics
set_option linter.unusedVariables false
set_option linter.unusedSimpArgs false
namespace Go.Proofs.YtehflgllfkkfoaaDoor
open Go.RowKit Go.Proofs.Dm

set_option maxRecDepth 100000 in
set_option maxHeartbeats 3200000 in
theorem text_idle (x y : Value) (w : World) :
    CallsD Tryd.prog 49 #[x, y] .returning w fun e u' w' => e = .returned (.tuple #[]) ∧ u' = .returning ∧ w' = w := by
  refine callsD_of_wpS Tryd.func49 rfl fun c₀ cs hu => ?_
  simp only [Tryd.ntmps49, List.size_toArray, List.length_cons, List.length_nil, Nat.reduceAdd, Nat.reduceSub, Array.replicate_succ, Array.replicate_zero, List.push_toArray, List.append_toArray, List.nil_append, List.cons_append]
  apply wpS_seq
  apply wpS_region
  simp [wpOpsS, go_sem, recoverD, hu, Exit.thenS]
  refine wpS_of_wp ?_
  go_wp2
  cases c₀
  simp_all [bodyPostS, results, Tryd.results49]
theorem alloc2 (w : World) (x y : Value) (t1 t2 : TypeId) :
    ((w.alloc (.cells #[x] t1)).alloc (.cells #[y] t2)).heap[w.heap.size]? = some (.cells #[x] t1 (0, 0)) ∧
    ((w.alloc (.cells #[x] t1)).alloc (.cells #[y] t2)).heap[w.heap.size + 1]? = some (.cells #[y] t2 (0, 0)) ∧
    ((w.alloc (.cells #[x] t1)).alloc (.cells #[y] t2)).heap.size = w.heap.size + 2 ∧
    Below w.heap.size w ((w.alloc (.cells #[x] t1)).alloc (.cells #[y] t2)) := by
  have s1 : (w.alloc (.cells #[x] t1)).heap.size = w.heap.size + 1 := by simp
  refine ⟨?_, ?_, by simp, ?_⟩
  · rw [Below.heap_alloc _ _ _ (by rw [s1]; omega)]
    exact heap_alloc_new w _
  · rw [← s1]; exact heap_alloc_new _ _
  · exact ((Below.refl _ w).alloc (Nat.le_refl _) _).alloc (by rw [s1]; omega) _
theorem set2 {w : World} {H : Nat} {x y : Value} (hx : w.cell? ⟨H, 0, none⟩ = some x) (hy : w.cell? ⟨H + 1, 0, none⟩ = some y) (x' y' : Value) :
    ((w.setCell ⟨H, 0, none⟩ x').setCell ⟨H + 1, 0, none⟩ y').cell? ⟨H, 0, none⟩ = some x' ∧
    ((w.setCell ⟨H, 0, none⟩ x').setCell ⟨H + 1, 0, none⟩ y').cell? ⟨H + 1, 0, none⟩ = some y' ∧
    Below H w ((w.setCell ⟨H, 0, none⟩ x').setCell ⟨H + 1, 0, none⟩ y') := by
  have e1 : (w.setCell ⟨H, 0, none⟩ x').cell? ⟨H, 0, none⟩ = some x' := set_same hx x'
  have e2 : (w.setCell ⟨H, 0, none⟩ x').cell? ⟨H + 1, 0, none⟩ = some y := (World.cell?_setCell_far _ _ _ _ (by simp)).trans hy
  refine ⟨(World.cell?_setCell_far _ ⟨H + 1, 0, none⟩ _ y' (by simp)).trans e1, set_same e2 y', ?_⟩
  exact ((Below.refl H w).setCell (p := ⟨H, 0, none⟩) (Nat.le_refl _) _).setCell (p := ⟨H + 1, 0, none⟩) (by show H ≤ H + 1; omega) _
set_option maxRecDepth 100000 in
set_option maxHeartbeats 12800000 in
theorem text_long (s : ByteArray) (hs : s.size ≤ 1000000) (hl : 65536 < s.size) (w : World) :
    Calls Tryd.prog 27 #[.string s] w fun e w' => e = .returned (.tuple #[.string ⟨#[]⟩, .int .i64 12]) ∧ Below w.heap.size w w' := by
  have l1 : (65536 : Int) < (s.size : Int) := by omega
  go_enter_defers Tryd.func27, Tryd.ntmps27
  go_wp2_with fail
  obtain ⟨h0, h1, h2, h3⟩ := alloc2 w (.string ⟨#[]⟩) (.int .i64 12) 9 24
  obtain ⟨w3, hw3⟩ : ∃ w3, (w.alloc (.cells #[.string ⟨#[]⟩] 9)).alloc (.cells #[.int .i64 12] 24) = w3 := ⟨_, rfl⟩
  rw [hw3] at h0 h1 h2 h3
  have d0 : w3.cell? ⟨w.heap.size, 0, none⟩ = some (.string ⟨#[]⟩) := cells_at h0 0
  have d1 : w3.cell? ⟨w.heap.size + 1, 0, none⟩ = some (.int .i64 12) := cells_at h1 0
  have H3 := hide h3
  clear h0 h1 h2 h3
  rw [hw3]
  refine leaves_cons (f := 49) (args := #[.pointer (some ⟨w.heap.size, 0, none⟩), .pointer (some ⟨w.heap.size + 1, 0, none⟩)]) (by simp) (by simp [go_sem]) ?_
  refine (text_idle _ _ w3).mono ?_
  rintro e u' w10 ⟨rfl, rfl, rfl⟩
  clear hw3
  simp [Leaves, settle, results, Tryd.results27, go_sem, d0, d1]
  exact H3.out
def exText : Bs := [34, 92, 120, 52, 49, 92, 117, 48, 48, 101, 52, 34]
theorem exText_wrong : wrongInt exText = -1 := by decide +kernel
set_option maxRecDepth 100000 in
set_option maxHeartbeats 12800000 in
theorem text_ex (X : ByteArray) (hX : X = bs exText) (w : World) (hT : Lib.Utf8Tabs 0 1 w) :
    Calls Tryd.prog 27 #[.string X] w fun e w' => e = .returned (.tuple #[.string (bs [65, 195, 164]), .int .i64 0]) ∧ Below w.heap.size w w' := by
  have HT := hide hT; clear hT
  have hz : X.size = 12 := by rw [hX]; rfl
  have i0 : 0 < X.size := by omega
  have e0 : X[0]'i0 = 34 := by subst hX; rfl
  have i1 : 11 < X.size := by omega
  have e1 : X[11]'i1 = 34 := by subst hX; rfl
  have hI : X.extract 1 11 = bs [92, 120, 52, 49, 92, 117, 48, 48, 101, 52] := by subst hX; rfl
  have HX := hide hX; clear hX
  have hwr : IntKind.i64.wrap 11 = 11 := by decide +kernel
  have hcb : ∀ W : World, (convert 9 22 (.string X)).run Tryd.prog W = .ok (.slice (some ⟨W.heap.size, 0, none⟩) 12 (grownCap W 12 0 5)) (Lib.bytesWorld W 5 X) := fun W => by
    have := Lib.run_convert_string_bytes (P := Tryd.prog) W 9 22 5 X Tryd.underlying9 Tryd.underlying22 Tryd.underlying5
    rw [hz] at this
    exact this
  have HWR : Hid (∀ W : World, Lib.Utf8Tabs 0 1 W → Calls Tryd.prog 51 #[.slice (some ⟨W.heap.size, 0, none⟩) 12 (grownCap W 12 0 5)] (Lib.bytesWorld W 5 X) fun e w' => e = .returned (.int .i64 (-1)) ∧ Below W.heap.size W w') := hide (fun W hW => by
    have hba : BytesAt (Lib.bytesWorld W 5 X) (.slice (some ⟨W.heap.size, 0, none⟩) 12 (grownCap W 12 0 5)) exText := .inr ⟨W.heap.size, 0, _, rfl, grownCap_ge W 12 0 _, fun j hj => by
      rw [show (0 : Nat) + j = j from by omega, Lib.bytesWorld_cell W _ X j (by rw [hz]; exact hj)]
      have : X.data.toList.getD j 0 = exText[j]'hj := by rw [HX.out]; show exText.getD j 0 = _; rw [List.getD_eq_getElem?_getD, List.getElem?_eq_getElem hj]; rfl
      rw [this]⟩
    have hbl : Below W.heap.size W (Lib.bytesWorld W 5 X) := Lib.bytesWorld_below W _ X
    refine (wrong_any _ _ exText hba (by decide) (Utf8Tabs_below hW hbl)).mono ?_
    rw [exText_wrong]
    rintro e w' ⟨rfl, hb⟩
    exact ⟨rfl, hbl.trans (hb.mono hbl.size)⟩)
  go_enter_defers Tryd.func27, Tryd.ntmps27
  go_wp2_with fail
  obtain ⟨h0, h1, h2, h3⟩ := alloc2 w (.string ⟨#[]⟩) (.int .i64 0) 9 24
  obtain ⟨w3, hw3⟩ : ∃ w3, (w.alloc (.cells #[.string ⟨#[]⟩] 9)).alloc (.cells #[.int .i64 0] 24) = w3 := ⟨_, rfl⟩
  rw [hw3] at h0 h1 h2 h3
  have H0 := hide h0
  have H1 := hide h1
  have H2 := hide h2
  have H3 := hide h3
  clear h0 h1 h2 h3
  rw [hw3]
  clear hw3
  go_still_tail 15, (by kernel_rfl)
  rw [drew_lit]
  go_wp2_with fail
  refine (HWR.out w3.drew (Utf8Tabs_below HT.out H3.out.drew)).mono ?_
  rintro e w4 ⟨rfl, hb4⟩
  have hw34 : w3.drew.heap.size = w3.heap.size := rfl
  have k0 := (hb4.block w.heap.size (by rw [hw34, H2.out]; omega)).trans H0.out
  have k1 := (hb4.block (w.heap.size + 1) (by rw [hw34, H2.out]; omega)).trans H1.out
  have hs4 : w3.heap.size ≤ w4.heap.size := hb4.size
  have HB4 := hide (H3.out.drew.trans (hb4.mono (by rw [hw34, H2.out]; omega)))
  have K0 := hide k0
  have K1 := hide k1
  have HS4 := hide hs4
  clear hb4 k0 k1 hw34 hs4
  go_wp2_with fail
  refine (need_ok _).mono ?_
  rintro e w' ⟨rfl, rfl⟩
  go_wp2_with fail
  refine (quoted_ex w4).mono ?_
  rintro e w5 ⟨rfl, hb5⟩
  have k0 := (hb5.block w.heap.size (by have := HS4.out; have := H2.out; omega)).trans K0.out
  have k1 := (hb5.block (w.heap.size + 1) (by have := HS4.out; have := H2.out; omega)).trans K1.out
  have HB5 := hide (HB4.out.trans (hb5.mono (HB4.out.size)))
  have e0 : w5.cell? ⟨w.heap.size, 0, none⟩ = some (.string ⟨#[]⟩) := cells_at k0 0
  have e1 : w5.cell? ⟨w.heap.size + 1, 0, none⟩ = some (.int .i64 0) := cells_at k1 0
  have f0 := frozen_at k0 0
  have f1 := frozen_at k1 0
  clear k0 k1 hb5
  obtain ⟨n0, n1, n2⟩ := set2 e0 e1 (.string (bs [65, 195, 164])) (.int .i64 0)
  obtain ⟨w9, hw9⟩ : ∃ w9, (w5.setCell ⟨w.heap.size, 0, none⟩ (.string (bs [65, 195, 164]))).setCell ⟨w.heap.size + 1, 0, none⟩ (.int .i64 0) = w9 := ⟨_, rfl⟩
  rw [hw9] at n0 n1 n2
  have N2 := hide n2; clear n2
  go_wp2_with fail
  refine leaves_cons (f := 49) (args := #[.pointer (some ⟨w.heap.size, 0, none⟩), .pointer (some ⟨w.heap.size + 1, 0, none⟩)]) (by simp) (by simp [go_sem]) ?_
  refine (text_idle _ _ w9).mono ?_
  rintro e u' w10 ⟨rfl, rfl, rfl⟩
  clear hw9
  simp [Leaves, settle, results, Tryd.results27, go_sem, n0, n1]
  exact HB5.out.trans N2.out
end Go.Proofs.YtehflgllfkkfoaaDoor
