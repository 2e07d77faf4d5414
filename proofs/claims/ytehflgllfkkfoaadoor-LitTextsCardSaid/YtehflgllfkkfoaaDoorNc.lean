/- Package lit: need, single. -/
import Derived.Test.YtehflgllfkkfoaaDoorNb
import Derived.Maps.OwnOps
import Derived.MapKept
set_option linter.unusedVariables false
set_option linter.unusedSimpArgs false
namespace Go.Proofs.YtehflgllfkkfoaaDoor
open Go.RowKit Go.Proofs.Dm Go.Maps

theorem need_ok (w : World) : Calls Tryd.prog 50 #[.bool true] w fun e w' => e = .returned (.tuple #[]) ∧ w = w' := by
  go_enter Tryd.func50, Tryd.ntmps50
  go_wp2
  go_end0
  exact ⟨rfl, rfl⟩

/-- Block r of w, new since w0, is a map of the entries es. -/
def Put (w0 : World) (r : Nat) (es : Array MapEntry) (c : Nat) (w : World) : Prop := r = w0.heap.size ∧ w = w0.alloc (.map es c)
theorem alloc_turned (w : World) (o o' : Obj) : turned (w.alloc o) w.heap.size o' = w.alloc o' := by
  unfold turned World.alloc
  simp [Array.setIfInBounds, Array.set_push]
theorem underM : Tryd.prog.underlying 100 = some (.map 5 5) := by kernel_rfl
theorem run_put {w0 w : World} {r : Nat} {es : Array MapEntry} {c : Nat} {a b : Int} (h : Put w0 r es c w) (hf : Instr.findNow (.int .u8) (.int .u8 a) es.toList 0 = some none) :
    ∃ w1, (Instr.mapUpdate 100 (.map (some r)) (.int .u8 a) (.int .u8 b)).run Tryd.prog w = .ok () w1 ∧ Put w0 r (es.push { key := .int .u8 a, val := .int .u8 b, born := c }) (c + 1) w1 := by
  obtain ⟨rfl, rfl⟩ := h
  have h1 : (w0.alloc (.map es c)).heap[w0.heap.size]? = some (.map es c) := heap_alloc_new w0 _
  refine ⟨turned (w0.alloc (.map es c)) w0.heap.size (.map (es.push { key := .int .u8 a, val := .int .u8 b, born := c }) (c + 1)), ?_, ?_⟩
  · have hu := @run_underlying Tryd.prog 100 _ underM
    have hu8 := @run_underlying Tryd.prog 5 _ Tryd.underlying5
    have hk := Go.MapKept.run_checkKey (w := w0.alloc (.map es c)) (k := .int .u8 a) Tryd.underlying5 (by simp [Go.MapKept.IsKey]) false 9999
    have hfk := Go.MapKept.run_findKey (w := w0.alloc (.map es c)) Tryd.underlying5 hf
    have hs := Go.MapKept.run_setObj_map (P := Tryd.prog) (.map (es.push { key := .int .u8 a, val := .int .u8 b, born := c }) (c + 1)) h1
    simp [Instr.mapUpdate, hu, Go.MapKept.run_getObj_map h1, hk, hfk, hs, Result.andThen, turned]
  · exact ⟨rfl, alloc_turned w0 _ _⟩
theorem wpList_put {w0 w : World} {ops : Array Oper} {rest : List Oper} {o : Oper} {act : Act} {Q : Exit → Act → World → Prop}
    (hg : o.guard = none) (m x v : Operand) (hop : o.op = Op.insert 100 m x v) (r : Nat) (hm : act.eval m = .map (some r)) (a b : Int) (hx : act.eval x = .int .u8 a) (hv : act.eval v = .int .u8 b)
    {es : Array MapEntry} {c : Nat} (h : Put w0 r es c w) (hf : Instr.findNow (.int .u8) (.int .u8 a) es.toList 0 = some none)
    (hK : ∀ w', Put w0 r (es.push { key := .int .u8 a, val := .int .u8 b, born := c }) (c + 1) w' → wpList Tryd.prog ops Q rest (act.put o.dst undef) w') :
    wpList Tryd.prog ops Q (o :: rest) act w := by
  refine wpList_plain hg fun K' hK' => ?_
  obtain ⟨w1, hrun, hp⟩ := run_put (a := a) (b := b) h hf
  unfold Oper.wp
  simp [execOp, hop, hm, hx, hv, hrun, Result.andThen]
  exact hK' _ _ (hK w1 hp)
def singles : Array MapEntry := #[⟨.int .u8 97, .int .u8 7, 0⟩, ⟨.int .u8 98, .int .u8 8, 1⟩, ⟨.int .u8 102, .int .u8 12, 2⟩, ⟨.int .u8 110, .int .u8 10, 3⟩, ⟨.int .u8 114, .int .u8 13, 4⟩, ⟨.int .u8 116, .int .u8 9, 5⟩, ⟨.int .u8 118, .int .u8 11, 6⟩, ⟨.int .u8 92, .int .u8 92, 7⟩, ⟨.int .u8 34, .int .u8 34, 8⟩]
set_option maxRecDepth 100000 in
set_option maxHeartbeats 3200000 in
theorem single_any (w : World) : Calls Tryd.prog 81 #[] w fun e w' => e = .returned (.map (some w.heap.size)) ∧ w' = w.alloc (.map singles 9) := by
  have hmm := @run_makeMap Tryd.prog
  have h0 : Put w w.heap.size #[] 0 (w.alloc (.map #[] 0)) := ⟨rfl, rfl⟩
  go_enter Tryd.func81, Tryd.ntmps81
  go_wp2_with (refine wpList_put (w0 := w) rfl _ _ _ rfl w.heap.size rfl _ _ rfl rfl (by assumption) rfl ?_; intro w1 h1)
  go_ret
  rename_i w1 h1
  exact ⟨rfl, (show Put w w.heap.size singles 9 w1 from h1).2⟩
end Go.Proofs.YtehflgllfkkfoaaDoor
