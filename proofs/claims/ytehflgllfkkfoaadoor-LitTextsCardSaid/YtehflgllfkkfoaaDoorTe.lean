/- The scanner's 'line'. -/
import Derived.Test.YtehflgllfkkfoaaDoorTc
import Derived.Test.YtehflgllfkkfoaaDoorTd
set_option linter.unusedVariables false
namespace Go.Proofs.YtehflgllfkkfoaaDoor
open Go.RowKit Go.Proofs.Dm

theorem grow_of0 {w w1 : World} {O : Obj} {row : Option Nat} (h : (w.alloc O).grownBy w1 row) : w.grownBy w1 row :=
  ⟨h.os, h.tape, h.output, Nat.le_trans (by simp) h.size, fun i hi hne => (h.block i (by simp; omega) hne).trans (Below.heap_alloc w O i hi)⟩
theorem MaxLenOk.below {base : Nat} {w w' : World} (h : MaxLenOk w) (hb : Below base w w') (h3 : 3 ≤ base) : MaxLenOk w' := by
  obtain ⟨m, hm⟩ := h
  exact ⟨m, (hb.cell (p := ⟨2, 0, none⟩) (by show 2 < base; omega)).trans hm⟩
theorem nl_ok (q : Nat) : TkOk ⟨6, [10], q⟩ := .inr (.inr (.inr (.inr (.inr ⟨rfl, (by decide : ([10] : Bs) ∈ allSigns)⟩))))

set_option maxRecDepth 100000 in
set_option maxHeartbeats 3200000 in
theorem line_any (base : Nat) (w : World) (B : Nat) (s : ByteArray) (p q : Nat) (l ns : List Tk) (h : Sc base w B s p l ns) (hM : MaxLenOk w) (hl : l.length ≤ 200000) (hbase : base ≤ w.heap.size) :
    Calls Tryd.prog 60 #[.pointer (some ⟨B, 0, none⟩), .int .i64 (q : Int)] w fun e w' => e = .returned (.tuple #[]) ∧ Sc base w' B s p (line l q) ns ∧ Below base w w' := by
  have H0 := hide h
  have HM := hide hM
  have hce := ends_any base w B s p l ns h hM hl
  clear h hM
  cases he : ends l with
  | false =>
    rw [he] at hce
    have HL : Hid (line l q = l) := by unfold line; rw [he]; rfl
    clear he
    have HC := hide hce; clear hce
    go_enter Tryd.func60, Tryd.ntmps60
    go_wp2_with fail
    refine HC.out.mono ?_
    rintro e w1 ⟨rfl, hb1⟩
    have HB := hide hb1; clear hb1
    go_wp2_with fail
    go_end0
    exact ⟨rfl, by rw [HL.out]; exact H0.out.below HB.out, HB.out.mono hbase⟩
  | true =>
    rw [he] at hce
    have HL : Hid (line l q = l ++ [⟨6, [10], q⟩]) := by unfold line; rw [he]; rfl
    clear he
    have HC := hide hce; clear hce
    obtain ⟨i0, hi0, hz0, hz1, hz2⟩ := info_parts tokInfo
    go_enter Tryd.func60, Tryd.ntmps60
    go_wp2_with fail
    refine HC.out.mono ?_
    rintro e w1 ⟨rfl, hb1⟩
    have HB := hide hb1; clear hb1
    have HS := hide (H0.out.below HB.out)
    obtain ⟨A, A', c, c', h1, h2, h3, h4⟩ := HS.out.ex
    have c2 : w1.cell? ⟨B, 2, none⟩ = some (.slice A l.length c) := cells_at h1 2
    have hBl := block_lt h1
    have hfar := row_far h2 h1 (by decide)
    have hb2 : base ≤ w1.heap.size := Nat.le_trans hbase HB.out.size
    have H1 := hide h1; clear h1
    have H2 := hide h2; clear h2
    have H3 := hide h3; clear h3
    have H4 := hide h4; clear h4
    go_wp2_with ((at_builtin; refine wpList_append_lies _ rfl _ _ _ rfl base 29 i0 _ 3 32 Tryd.underlying23 hi0 hz0 hz1 hz2 rfl (by omega) (.slice A l.length c) l.length (toks l) rfl (H2.out.alloc _) ⟨w1.heap.size, 0, none⟩ 1 1 [.int .i64 6, .string ⟨#[10]⟩, .int .i64 q] rfl rfl (World.news_of_block (cs := #[.int .i64 6, .string ⟨#[10]⟩, .int .i64 q]) (t := 29) (fr := (0, 0)) (heap_alloc_new w1 _)) (by simp [Value.oneCell']) (by omega) (by simp only [maxLen]; omega) (by omega) (by simp; omega) (w1.heap.size + 1) (by simp) ?_; intro gg cap w2 hown1 hgrow hat hlt; have hg1 := grow_of0 hgrow; have e1 := (hg1.block B hBl (Ne.symm hfar)).trans H1.out; have z2 : w2.cell? ⟨B, 2, none⟩ = some (.slice A l.length c) := cells_at e1 2; have zf := frozen_at e1 2; have E1 := hide e1; clear e1))
    go_end0
    refine ⟨rfl, ?_⟩
    have hp := Sc.put2 (t := ⟨6, [10], q⟩) H1.out H2.out H3.out H4.out HS.out.base_le hb2 HS.out.ok (nl_ok q) hown1 hg1 (hat.imp id (fun e => by omega)) hlt
    rw [HL.out]
    exact ⟨hp.1, (HB.out.mono hbase).trans hp.2⟩
end Go.Proofs.YtehflgllfkkfoaaDoor
