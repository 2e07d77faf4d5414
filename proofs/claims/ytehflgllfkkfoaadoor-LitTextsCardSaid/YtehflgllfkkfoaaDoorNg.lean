/- Package lit: part, at what the examples hold. -/
import Derived.Test.YtehflgllfkkfoaaDoorNf
import Derived.Test.YtehflgllfkkfoaaDoorShelfB
import Derived.Deep.RegionWith
set_option linter.unusedVariables false
set_option linter.unusedSimpArgs false
namespace Go.Proofs.YtehflgllfkkfoaaDoor
open Go.RowKit Go.Proofs.Dm

theorem run_look {w : World} {r : Nat} {es : Array MapEntry} {c : Nat} (h : w.heap[r]? = some (.map es c)) (k : Int) (hf : Instr.findNow (.int .u8) (.int .u8 k) es.toList 0 = some none) :
    (Instr.lookup 100 (.map (some r)) (.int .u8 k) true).run Tryd.prog w = .ok (.tuple #[.int .u8 0, .bool false]) w := by
  have hu := @run_underlying Tryd.prog 100 _ underM
  have hk : (Instr.checkKey es.isEmpty 10000 5 (.int .u8 k)).run Tryd.prog w = .ok () w := Go.MapKept.run_checkKey Tryd.underlying5 (by simp [Go.MapKept.IsKey]) es.isEmpty 9999
  have hfk := Go.MapKept.run_findKey (w := w) Tryd.underlying5 hf
  have hz : (zeroValue 5).run Tryd.prog w = .ok (.int .u8 0) w := by kernel_rfl
  simp [Instr.lookup, hu, Go.MapKept.run_getObj_map h, hk, hfk, hz, Result.andThen]
theorem look_single (k : Int) (hf : Instr.findNow (.int .u8) (.int .u8 k) singles.toList 0 = some none) (w : World) :
    (Instr.lookup 100 (.map (some w.heap.size)) (.int .u8 k) true).run Tryd.prog (w.alloc (.map singles 9)) = .ok (.tuple #[.int .u8 0, .bool false]) (w.alloc (.map singles 9)) :=
  run_look (heap_alloc_new w _) k hf
theorem one_byte (V : Nat) (hV : V ≤ 255) (fr : Nat × Nat) (w : World) : (convert 22 9 (.slice (some ⟨w.heap.size, 0, none⟩) 1 1)).run Tryd.prog (w.alloc (.cells #[.int .u8 (V : Int)] 5 fr)) = .ok (.string (bs [UInt8.ofNat V])) (w.alloc (.cells #[.int .u8 (V : Int)] 5 fr)) := by
  have := run_convert_bytes_back (P := Tryd.prog) (w.alloc (.cells #[.int .u8 (V : Int)] 5 fr)) 22 9 5 ⟨w.heap.size, 0, none⟩ 1 [UInt8.ofNat V] Tryd.underlying22 Tryd.underlying5 Tryd.underlying9 (fun j hj => by
    have : j = 0 := by simp at hj; omega
    subst this
    have h1 : (UInt8.ofNat V).toNat = V := by rw [UInt8.toNat_ofNat']; omega
    rw [addr_add, World.cell?_alloc_mark]
    simp [h1])
  exact this
theorem below_x (w : World) (o : Obj) : Below w.heap.size w (w.alloc o) ∧ Below w.heap.size w (w.alloc o).drew ∧ Below w.heap.size w (w.drew.alloc o) ∧ Below w.heap.size w (w.drew.alloc o).drew := by
  have h := (Below.refl w.heap.size w).alloc (Nat.le_refl _) o
  exact ⟨h, h.drew, h.drew, h.drew.drew⟩
theorem byte_at0 {s : ByteArray} {d : UInt8} {r : Bs} (h : s.data.toList = d :: r) : ∃ i0 : 0 < s.size, s[0]'i0 = d := by
  have i0 : 0 < s.size := by rw [size_data, h]; simp
  refine ⟨i0, ?_⟩
  have : s.data.toList[0]'(by rw [h]; simp) = d := by simp [h]
  exact this
set_option maxRecDepth 100000 in
set_option maxHeartbeats 12800000 in
theorem part_x (s : ByteArray) (r : Bs) (hs : s.data.toList = 120 :: r) (hl : s.size ≤ 1000) (h2 : 2 ≤ r.length) (hg : ∀ d ∈ r.take 2, digL d < 16) (w : World) :
    Calls Tryd.prog 63 #[.string s] w fun e w' => e = .returned (.tuple #[.string (bs [UInt8.ofNat (foldD 16 (r.take 2))]), .int .i64 3]) ∧ Below w.heap.size w w' := by
  obtain ⟨i0, e0⟩ := byte_at0 hs
  have j0 : (0 : Int) < (s.size : Int) := by omega
  have j1 : (1 : Int) ≤ (s.size : Int) := by omega
  have j2 : (s.size : Int) ≤ 1000 := by omega
  have e2 : s.toList.isEmpty = false := by rw [toList_bs, hs]; rfl
  have e3 : (s.toList == ([] : Bs)) = false := by rw [toList_bs, hs]; rfl
  have hd1 : s.data.toList.drop 1 = r := by rw [hs]; rfl
  obtain ⟨T, hT⟩ : ∃ T, s.extract 1 s.size = T := ⟨_, rfl⟩
  have hTl : T.data.toList = r := by rw [← hT, extract_from, hd1]; rfl
  have hTs : T.size = r.length := by rw [size_data, hTl]
  have hTz : T.size ≤ 1000 := by rw [hTs]; have := congrArg List.length hs; rw [← size_data] at this; simp at this; omega
  have hdg := fun w => digits_good T 2 16 (by omega) (by omega) (by omega) (by omega) (by rw [hTl]; exact hg) w
  rw [hTl] at hdg
  have hlt := foldD_lt 16 (Nat.le_refl _) _ hg 2 (by rw [List.length_take]; omega)
  obtain ⟨V, hV⟩ : ∃ V, foldD 16 (r.take 2) = V := ⟨_, rfl⟩
  rw [hV] at hdg hlt ⊢
  have HDG := hide hdg
  have v0 : (0 : Int) ≤ (V : Int) := by omega
  have v1 : (V : Int) ≤ 255 := by omega
  have hlk := look_single 120 rfl
  have hlk1 : ∀ w : World, (Instr.lookup 100 (.map (some w.heap.size)) (.int .u8 120) true).run Tryd.prog (w.drew.alloc (.map singles 9)) = _ := fun w => look_single 120 rfl w.drew
  have hlk2 : ∀ w : World, (Instr.lookup 100 (.map (some w.heap.size)) (.int .u8 120) true).run Tryd.prog (w.alloc (.map singles 9)).drew = _ := fun w => run_look (w := (w.alloc (.map singles 9)).drew) (heap_alloc_new w _) 120 rfl
  have hlk3 : ∀ w : World, (Instr.lookup 100 (.map (some w.heap.size)) (.int .u8 120) true).run Tryd.prog (w.drew.alloc (.map singles 9)).drew = _ := fun w => run_look (w := (w.drew.alloc (.map singles 9)).drew) (heap_alloc_new w.drew _) 120 rfl
  have hcv := one_byte V (by omega) (0, 0)
  clear hs hd1 hTl hTs hTz hdg hlt hg hV h2 hl
  go_enter Tryd.func63, Tryd.ntmps63
  go_wp2_with fail
  refine (need_ok _).mono ?_
  rintro e w' ⟨rfl, rfl⟩
  go_wp2_with fail
  go_region_with (go_at_call 81; refine (single_any _).mono ?_; rintro e w1 ⟨rfl, rfl⟩)
  all_goals (go_wp2_with fail)
  all_goals (refine (HDG.out _).mono ?_)
  all_goals (rintro e w2 ⟨rfl, hb2⟩)
  all_goals (have HB2 := hide hb2; clear hb2)
  all_goals (go_wp2_with fail)
  all_goals go_ret2
  all_goals (refine ⟨rfl, ?_⟩)
  all_goals exact (Below.trans (by first | exact (below_x w _).1 | exact (below_x w _).2.1 | exact (below_x w _).2.2.1 | exact (below_x w _).2.2.2) (HB2.out.mono (by first | exact (below_x w (.map singles 9)).1.size | exact (below_x w (.map singles 9)).2.1.size | exact (below_x w (.map singles 9)).2.2.2.size))).alloc (Nat.le_trans (below_x w (.map singles 9)).1.size HB2.out.size) _
set_option maxRecDepth 100000 in
set_option maxHeartbeats 12800000 in
theorem part_u (s : ByteArray) (r : Bs) (hs : s.data.toList = 117 :: r) (hl : s.size ≤ 1000) (h2 : 4 ≤ r.length) (hg : ∀ d ∈ r.take 4, digL d < 16) (hV : foldD 16 (r.take 4) = 228) (w : World) :
    Calls Tryd.prog 63 #[.string s] w fun e w' => e = .returned (.tuple #[.string ⟨#[195, 164]⟩, .int .i64 5]) ∧ Below w.heap.size w w' := by
  obtain ⟨i0, e0⟩ := byte_at0 hs
  have j0 : (0 : Int) < (s.size : Int) := by omega
  have j1 : (1 : Int) ≤ (s.size : Int) := by omega
  have j2 : (s.size : Int) ≤ 1000 := by omega
  have e2 : s.toList.isEmpty = false := by rw [toList_bs, hs]; rfl
  have e3 : (s.toList == ([] : Bs)) = false := by rw [toList_bs, hs]; rfl
  have hd1 : s.data.toList.drop 1 = r := by rw [hs]; rfl
  obtain ⟨T, hT⟩ : ∃ T, s.extract 1 s.size = T := ⟨_, rfl⟩
  have hTl : T.data.toList = r := by rw [← hT, extract_from, hd1]; rfl
  have hTs : T.size = r.length := by rw [size_data, hTl]
  have hTz : T.size ≤ 1000 := by rw [hTs]; have := congrArg List.length hs; rw [← size_data] at this; simp at this; omega
  have hdg := fun w => digits_good T 4 16 (by omega) (by omega) (by omega) (by omega) (by rw [hTl]; exact hg) w
  rw [hTl, hV] at hdg
  have HDG := hide hdg
  have hlt := trivial
  have hcv : ∀ w : World, (convert 21 9 (.int .i32 228)).run Tryd.prog w = .ok (.string ⟨#[195, 164]⟩) w := fun w => by kernel_rfl
  have hlk := look_single 117 rfl
  have hlk1 : ∀ w : World, (Instr.lookup 100 (.map (some w.heap.size)) (.int .u8 117) true).run Tryd.prog (w.drew.alloc (.map singles 9)) = _ := fun w => look_single 117 rfl w.drew
  have hlk2 : ∀ w : World, (Instr.lookup 100 (.map (some w.heap.size)) (.int .u8 117) true).run Tryd.prog (w.alloc (.map singles 9)).drew = _ := fun w => run_look (w := (w.alloc (.map singles 9)).drew) (heap_alloc_new w _) 117 rfl
  have hlk3 : ∀ w : World, (Instr.lookup 100 (.map (some w.heap.size)) (.int .u8 117) true).run Tryd.prog (w.drew.alloc (.map singles 9)).drew = _ := fun w => run_look (w := (w.drew.alloc (.map singles 9)).drew) (heap_alloc_new w.drew _) 117 rfl
  clear hs hd1 hTl hTs hTz hdg hlt hg hV h2 hl
  go_enter Tryd.func63, Tryd.ntmps63
  go_wp2_with fail
  refine (need_ok _).mono ?_
  rintro e w' ⟨rfl, rfl⟩
  go_wp2_with fail
  go_region_with (go_at_call 81; refine (single_any _).mono ?_; rintro e w1 ⟨rfl, rfl⟩)
  all_goals (go_wp2_with fail)
  all_goals (refine (HDG.out _).mono ?_)
  all_goals (rintro e w2 ⟨rfl, hb2⟩)
  all_goals (have HB2 := hide hb2; clear hb2)
  all_goals (go_wp2_with fail)
  all_goals (refine (Tryd.utf8_ValidRune _ _).mono ?_)
  all_goals (rintro e w3 ⟨rfl, rfl⟩)
  all_goals (go_wp2_with fail)
  all_goals (refine (need_ok _).mono ?_)
  all_goals (rintro e w3 ⟨rfl, rfl⟩)
  all_goals (go_wp2_with fail)
  all_goals go_ret2
  all_goals (refine ⟨rfl, ?_⟩)
  all_goals exact (Below.trans (by first | exact (below_x w _).1 | exact (below_x w _).2.1 | exact (below_x w _).2.2.1 | exact (below_x w _).2.2.2) (HB2.out.mono (by first | exact (below_x w (.map singles 9)).1.size | exact (below_x w (.map singles 9)).2.1.size | exact (below_x w (.map singles 9)).2.2.2.size)))
end Go.Proofs.YtehflgllfkkfoaaDoor
