/- strings.Builder: WriteByte (after the shelf's text); lit.part at a sign of its own. -/
import Derived.Test.YtehflgllfkkfoaaDoorNt
set_option linter.unusedVariables false
set_option linter.unusedSimpArgs false
namespace Go.Proofs.YtehflgllfkkfoaaDoor
open Go.RowKit Go.Proofs.Dm

set_option maxHeartbeats 2000000 in
set_option maxRecDepth 100000 in
theorem WriteByte_any (B b : Nat) (bs : List Value) (c : Int) (w : World) (h : Lib.IsBuilderF 86 5 B b bs w) (hlen : bs.length + 1 ≤ 140737488355328) (hBw : B ≤ w.heap.size) :
    Calls Tryd.prog 65 #[.pointer (some ⟨b, 0, none⟩), .int .u8 c] w fun e w' => e = .returned .nilIface ∧ (Lib.BuilderAtF 86 5 B b (.pointer (some ⟨b, 0, none⟩)) (bs ++ [.int .u8 c]) w' ∧ Below B w w') := by
  obtain ⟨i0, hi, hz0, hz1, hz2⟩ := info_parts byteInfo
  go_enter Tryd.func65, Tryd.ntmps65
  go_wp2_with (go_at_call 84; refine (copy_any B b bs _ h).mono ?_)
  rintro e w1 ⟨rfl, h1, hb1⟩
  obtain ⟨hB, v, hbk, hown, hne⟩ := h1
  have c0 : w1.cell? ⟨b, 0, none⟩ = some (.pointer (some ⟨b, 0, none⟩)) := by rw [Lib.cell_of_heap hbk]; rfl
  have c1 : w1.cell? ⟨b, 1, none⟩ = some v := by rw [Lib.cell_of_heap hbk]; rfl
  go_wp2_with (at_builtin; refine wpList_append_ownF _ rfl _ _ 22 rfl B 5 i0 (.int .u8 0) 1 1 Tryd.underlying22 hi hz0 hz1 hz2 rfl (by decide) _ _ _ rfl (hown.alloc _) ⟨w1.heap.size, 0, none⟩ 1 1 [.int .u8 c] rfl rfl ?c1 ?c2 ?c3 ?c4 ?c5 ?_)
  case c1 =>
    intro j u hj
    match j, hj with
    | 0, hj => simp at hj; subst hj; simp [Addr.add]
  case c2 => intro u hu; simp at hu; subst hu; rfl
  case c3 => unfold maxLen; omega
  case c4 => omega
  case c5 => have := hb1.size; simp; omega
  intro v' w2 hown' hgrow _
  have hlt : b < w1.heap.size := by
    rcases Nat.lt_or_ge b w1.heap.size with h' | h'
    · exact h'
    · simp [Array.getElem?_eq_none h'] at hbk
  have hb2 : w2.heap[b]? = some (.cells #[.pointer (some ⟨b, 0, none⟩), v] 86 (0, 0)) := by
    rw [hgrow.block b (by simp; omega) (fun e => hne e.symm), Lib.alloc_old w1 _ b hlt]
    exact hbk
  have d0 : w2.cell? ⟨b, 0, none⟩ = some (.pointer (some ⟨b, 0, none⟩)) := by rw [Lib.cell_of_heap hb2]; rfl
  have d1 : w2.cell? ⟨b, 1, none⟩ = some v := by rw [Lib.cell_of_heap hb2]; rfl
  have f1 : w2.frozen? ⟨b, 1, none⟩ = false := Lib.frozen_of_heap hb2 1
  obtain ⟨g, cap, rfl⟩ : ∃ g cap, v' = .slice (some ⟨g, 0, none⟩) (bs.length + 1) cap := by
    rcases hown'.2 with ⟨_, h0⟩ | ⟨g, cap, cur, fz, hv, _⟩
    · omega
    · exact ⟨g, cap, hv⟩
  go_wp2
  go_ret
  refine ⟨rfl, ?_, ?_⟩
  · exact Lib.BuilderAtF.put (T := 86) (e := 5) hB hb2 (bs' := bs ++ [.int .u8 c]) (by simpa using hown') (by decide)
  · exact ((hb1.alloc (by have := hb1.size; omega) _).grown hgrow (by have := hb1.size; simp; omega) (fun k hk => (hown.lt k hk).1)).setCell (p := ⟨b, 1, none⟩) hB _

theorem run_look_some {w : World} {r : Nat} {es : Array MapEntry} {c : Nat} (h : w.heap[r]? = some (.map es c)) (k : Int) {i : Nat} {v : Value} (hf : Instr.findNow (.int .u8) (.int .u8 k) es.toList 0 = some (some (i, v))) :
    (Instr.lookup 100 (.map (some r)) (.int .u8 k) true).run Tryd.prog w = .ok (.tuple #[v, .bool true]) w := by
  have hu := @run_underlying Tryd.prog 100 _ underM
  have hk : (Instr.checkKey es.isEmpty 10000 5 (.int .u8 k)).run Tryd.prog w = .ok () w := Go.MapKept.run_checkKey Tryd.underlying5 (by simp [Go.MapKept.IsKey]) es.isEmpty 9999
  have hfk := Go.MapKept.run_findKey (w := w) Tryd.underlying5 hf
  simp [Instr.lookup, hu, Go.MapKept.run_getObj_map h, hk, hfk, Result.andThen]
theorem find_single {c b : UInt8} (h : singleL c = some b) : ∃ i, Instr.findNow (.int .u8) (.int .u8 (c.toNat : Int)) singles.toList 0 = some (some (i, .int .u8 (b.toNat : Int))) := by
  unfold singleL at h
  repeat' split at h
  all_goals (first | (injection h with h; subst h; subst_vars; exact ⟨_, rfl⟩) | cases h)
set_option maxRecDepth 100000 in
set_option maxHeartbeats 12800000 in
theorem part_single (s : ByteArray) (c b : UInt8) (r : Bs) (hs : s.data.toList = c :: r) (hl : s.size ≤ 100000) (hcb : singleL c = some b) (w : World) :
    Calls Tryd.prog 63 #[.string s] w fun e w' => e = .returned (.tuple #[.string (bs [b]), .int .i64 1]) ∧ Below w.heap.size w w' := by
  obtain ⟨i0, e0⟩ := byte_at0 hs
  have j0 : (0 : Int) < (s.size : Int) := by omega
  have j1 : (1 : Int) ≤ (s.size : Int) := by omega
  have j2 : (s.size : Int) ≤ 100000 := by omega
  have e2 : s.toList.isEmpty = false := by rw [toList_bs, hs]; rfl
  have e3 : (s.toList == ([] : Bs)) = false := by rw [toList_bs, hs]; rfl
  obtain ⟨i, hfi⟩ := find_single hcb
  have hlk : ∀ w : World, (Instr.lookup 100 (.map (some w.heap.size)) (.int .u8 (c.toNat : Int)) true).run Tryd.prog (w.alloc (.map singles 9)) = _ := fun w => run_look_some (heap_alloc_new w _) _ hfi
  have hlk1 : ∀ w : World, (Instr.lookup 100 (.map (some w.heap.size)) (.int .u8 (c.toNat : Int)) true).run Tryd.prog (w.drew.alloc (.map singles 9)) = _ := fun w => run_look_some (heap_alloc_new w.drew _) _ hfi
  have hlk2 : ∀ w : World, (Instr.lookup 100 (.map (some w.heap.size)) (.int .u8 (c.toNat : Int)) true).run Tryd.prog (w.alloc (.map singles 9)).drew = _ := fun w => run_look_some (w := (w.alloc (.map singles 9)).drew) (heap_alloc_new w _) _ hfi
  have hlk3 : ∀ w : World, (Instr.lookup 100 (.map (some w.heap.size)) (.int .u8 (c.toNat : Int)) true).run Tryd.prog (w.drew.alloc (.map singles 9)).drew = _ := fun w => run_look_some (w := (w.drew.alloc (.map singles 9)).drew) (heap_alloc_new w.drew _) _ hfi
  have hcv0 := one_byte b.toNat (by have := b.toNat_lt; omega) (0, 0)
  rw [show UInt8.ofNat b.toNat = b from by simp] at hcv0
  have hcv : (convert 22 9 (.slice (some ⟨w.heap.size + 1, 0, none⟩) 1 1)).run Tryd.prog ((w.alloc (.map singles 9)).alloc (.cells #[.int .u8 (b.toNat : Int)] 5)).drew = .ok (.string (bs [b])) ((w.alloc (.map singles 9)).alloc (.cells #[.int .u8 (b.toNat : Int)] 5)).drew := by
    have h := hcv0 (w.alloc (.map singles 9)).drew
    have h1 : ((w.alloc (.map singles 9)).drew).heap.size = w.heap.size + 1 := by simp
    rw [h1] at h
    exact h
  clear hs hfi hcb hcv0
  go_enter Tryd.func63, Tryd.ntmps63
  go_wp2_with fail
  refine (need_ok _).mono ?_
  rintro e w' ⟨rfl, rfl⟩
  go_wp2_with fail
  go_region_with (go_at_call 81; refine (single_any _).mono ?_; rintro e w1 ⟨rfl, rfl⟩)
  all_goals (go_wp2_with fail)
  all_goals go_ret2
  all_goals (refine ⟨rfl, ?_⟩)
  all_goals exact (((Below.refl w.heap.size w).alloc (Nat.le_refl _) _).alloc (by simp) _).drew
end Go.Proofs.YtehflgllfkkfoaaDoor
