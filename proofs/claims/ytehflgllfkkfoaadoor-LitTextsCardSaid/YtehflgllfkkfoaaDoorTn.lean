/- What 'scan' does at its end: the closure that it defers. -/
import Derived.Test.YtehflgllfkkfoaaDoorTl
import Derived.Test.YtehflgllfkkfoaaDoorTm
import Derived.Defers
import Derived.Recover
import Derived.Laws.Pointers
set_option linter.unusedVariables false
namespace Go.Proofs.YtehflgllfkkfoaaDoor
open Go.RowKit Go.Proofs.Dm

set_option maxRecDepth 100000 in
set_option maxHeartbeats 3200000 in
theorem caught_idle (x y z : Value) (w : World) :
    CallsD Tryd.prog 58 #[x, y, z] .returning w fun e u' w' => e = .returned (.tuple #[]) ∧ u' = .returning ∧ w' = w := by
  refine callsD_of_wpS Tryd.func58 rfl fun c₀ cs hu => ?_
  simp only [Tryd.ntmps58, List.size_toArray, List.length_cons, List.length_nil, Nat.reduceAdd, Nat.reduceSub, Array.replicate_succ, Array.replicate_zero, List.push_toArray, List.append_toArray, List.nil_append, List.cons_append]
  apply wpS_seq
  apply wpS_region
  simp [wpOpsS, go_sem, recoverD, hu, Exit.thenS]
  refine wpS_of_wp ?_
  go_wp2
  cases c₀
  simp_all [bodyPostS, results, Tryd.results58]

set_option maxRecDepth 100000 in
set_option maxHeartbeats 3200000 in
theorem caught (x y z : Nat) (p : Int) (w : World) (vx vy vz : Value) (hx : w.cell? ⟨x, 0, none⟩ = some vx) (hy : w.cell? ⟨y, 0, none⟩ = some vy) (hz : w.cell? ⟨z, 0, none⟩ = some vz)
    (fx : w.frozen? ⟨x, 0, none⟩ = false) (fy : w.frozen? ⟨y, 0, none⟩ = false) (fz : w.frozen? ⟨z, 0, none⟩ = false) (hxy : ¬ x = y) (hxz : ¬ x = z) (hyz : ¬ y = z) :
    CallsD Tryd.prog 58 #[.pointer (some ⟨x, 0, none⟩), .pointer (some ⟨y, 0, none⟩), .pointer (some ⟨z, 0, none⟩)] (.panicking ({ v := .iface 77 (.agg #[.int .i64 p]), recovered := false } :: [])) w fun e u' w' =>
      e = .returned (.tuple #[]) ∧ u' = .panicking ({ v := .iface 77 (.agg #[.int .i64 p]), recovered := true } :: []) ∧ w' = ((((w.alloc (.cells #[.int .i64 p] 77)).setCell ⟨x, 0, none⟩ (.pointer none)).setCell ⟨y, 0, none⟩ (.int .i64 p)).setCell ⟨z, 0, none⟩ (.int .i64 3)).drew := by
  have hta : ∀ w, (Instr.typeAssert (.iface 77 (.agg #[.int .i64 p])) 20 77 true).run Tryd.prog w = .ok (.tuple #[.agg #[.int .i64 p], .bool true]) w := fun _ => by kernel_rfl
  refine callsD_of_wpS Tryd.func58 rfl fun c₀ cs hu => ?_
  simp only [Tryd.ntmps58, List.size_toArray, List.length_cons, List.length_nil, Nat.reduceAdd, Nat.reduceSub, Array.replicate_succ, Array.replicate_zero, List.push_toArray, List.append_toArray, List.nil_append, List.cons_append]
  apply wpS_seq
  apply wpS_region
  simp [wpOpsS, go_sem, recoverD, hu, Exit.thenS]
  refine wpS_of_wp ?_
  have hxl := World.block_lt_of_cell? w _ hx
  have hyl := World.block_lt_of_cell? w _ hy
  have hzl := World.block_lt_of_cell? w _ hz
  go_wp2
  obtain ⟨W, hW⟩ : ∃ W, w.alloc (.cells #[.int .i64 p] 77) = W := ⟨_, rfl⟩
  have b0 := fun k h => Below.heap_alloc w (.cells #[.int .i64 p] 77) k h
  have bn := heap_alloc_new w (.cells #[.int .i64 p] 77)
  rw [hW] at b0 bn ⊢
  have gx := (World.cell?_of_block (w := w) (b0 x hxl)).trans hx
  have gy := (World.cell?_of_block (w := w) (b0 y hyl)).trans hy
  have gz := (World.cell?_of_block (w := w) (b0 z hzl)).trans hz
  have ex := (World.frozen?_of_block (w := w) (b0 x hxl)).trans fx
  have ey := (World.frozen?_of_block (w := w) (b0 y hyl)).trans fy
  have ez := (World.frozen?_of_block (w := w) (b0 z hzl)).trans fz
  have gn : W.cell? ⟨w.heap.size, 0, none⟩ = some (.int .i64 p) := cells_at bn 0
  have nx : ¬ w.heap.size = x := Nat.ne_of_gt hxl
  have ny : ¬ w.heap.size = y := Nat.ne_of_gt hyl
  have nz : ¬ w.heap.size = z := Nat.ne_of_gt hzl
  clear bn b0 hx hy hz fx fy fz hxl hyl hzl
  obtain ⟨n, hn⟩ : ∃ n, w.heap.size = n := ⟨_, rfl⟩
  rw [hn] at gn nx ny nz ⊢
  clear hn
  have HWW := hide hW; clear hW
  go_region
  all_goals
    show bodyPostS Tryd.prog Tryd.f58 c₀ cs _ Exit.normal _ _ _
    rw [HWW.out]
    cases c₀
    simp only at hu
    subst hu
    simp [bodyPostS, results, Tryd.results58]
end Go.Proofs.YtehflgllfkkfoaaDoor
