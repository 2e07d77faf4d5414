/- The scanner's 'add'. -/
import Derived.Test.YtehflgllfkkfoaaDoorTb
namespace Go.Proofs.YtehflgllfkkfoaaDoor
open Go.RowKit Go.Proofs.Dm

theorem grow_of {w w1 : World} {O : Obj} {row : Option Nat} (h : ((w.alloc O).drew).grownBy w1 row) : w.grownBy w1 row :=
  ⟨h.os, h.tape, h.output, Nat.le_trans (by simp) h.size, fun i hi hne => (h.block i (by simp; omega) hne).trans (Below.heap_alloc w O i hi)⟩
/-- What an append of one token leaves of a scanner's rows. -/
theorem Sc.put2 {base : Nat} {w w1 : World} {B : Nat} {s : ByteArray} {p : Nat} {l ns : List Tk} {A A' : Option Addr} {c c' : Nat} {t : Tk} {g cap : Nat}
    (h1 : w.heap[B]? = some (.cells #[.string s, .int .i64 (p : Int), .slice A l.length c, .slice A' ns.length c'] 51 (0, 0)))
    (h2 : w.ownsRow base 29 3 (.slice A l.length c) l.length (toks l)) (h3 : w.ownsRow base 29 3 (.slice A' ns.length c') ns.length (toks ns))
    (h4 : (Value.slice A l.length c).ownBlock = none ∨ (Value.slice A l.length c).ownBlock ≠ (Value.slice A' ns.length c').ownBlock) (hB : base ≤ B) (hbase : base ≤ w.heap.size) (hok : ∀ t ∈ l, TkOk t) (ht : TkOk t)
    (hown : w1.ownsRow base 29 3 (.slice (some ⟨g, 0, none⟩) (l.length + 1) cap) (l.length + 1) (toks l ++ tokCells t)) (hgrow : w.grownBy w1 (Value.slice A l.length c).ownBlock)
    (hat : (Value.slice A l.length c).ownBlock = some g ∨ w.heap.size ≤ g) (_hlt : g < w1.heap.size) :
    Sc base (w1.setCell ⟨B, 2, none⟩ (.slice (some ⟨g, 0, none⟩) (l.length + 1) cap)) B s p (l ++ [t]) ns ∧ Below base w (w1.setCell ⟨B, 2, none⟩ (.slice (some ⟨g, 0, none⟩) (l.length + 1) cap)) := by
  have hBl := block_lt h1
  have hb1 : w1.heap[B]? = some (.cells #[.string s, .int .i64 (p : Int), .slice A l.length c, .slice A' ns.length c'] 51 (0, 0)) :=
    (hgrow.block B hBl (fun e => row_far h2 h1 (by decide) e.symm)).trans h1
  have hn : (Value.slice A' ns.length c').ownBlock = none ∨ (Value.slice A' ns.length c').ownBlock ≠ (Value.slice A l.length c).ownBlock := by
    rcases h4 with h4 | h4
    · cases hq : (Value.slice A' ns.length c').ownBlock with
      | none => exact .inl rfl
      | some k => right; rw [h4]; simp
    · exact .inr (fun e => h4 e.symm)
  have h3' := h3.kept hgrow hn
  have hgB : g ≠ B := by
    intro e
    have := row_far hown hb1 (by decide)
    exact this (by simp [Value.ownBlock, e])
  refine ⟨⟨⟨some ⟨g, 0, none⟩, A', cap, c', ?_, ?_, own_far' h3' (row_far h3' hb1 (by decide)) _, ?_⟩, hB, ?_⟩, ?_⟩
  · have := set_at hb1 2 (.slice (some ⟨g, 0, none⟩) (l.length + 1) cap)
    simpa using this
  · rw [toks_snoc, List.length_append, List.length_singleton]
    exact own_far' hown (row_far hown hb1 (by decide)) _
  · right
    intro e
    rw [List.length_append, List.length_singleton] at e
    have e' : (Value.slice A' ns.length c').ownBlock = some g := by rw [← e]; rfl
    have hlt' := (own_lt' h3 g e').1
    rcases hat with hat | hat
    · rcases h4 with h4 | h4
      · rw [h4] at hat; cases hat
      · exact h4 (hat.trans e'.symm)
    · omega
  · intro x hx
    rcases List.mem_append.1 hx with hx | hx
    · exact hok x hx
    · rw [List.mem_singleton.1 hx]; exact ht
  · exact ((Below.refl base w).grown hgrow hbase (fun k hk => (own_lt' h2 k hk).2)).setCell hB _

theorem tok_cells (s : ByteArray) (from_ p : Nat) (k : Int) (kn : Nat) (h : k = (kn : Int)) :
    [Value.int .i64 k, .string (s.extract from_ p), .int .i64 (from_ : Int)] = tokCells ⟨kn, (s.data.toList.drop from_).take (p - from_), from_⟩ := by
  rw [extract_bs, h]; rfl
set_option maxRecDepth 100000 in
set_option maxHeartbeats 3200000 in
theorem add_any (base : Nat) (w : World) (B : Nat) (s : ByteArray) (p from_ : Nat) (k : Int) (kn : Nat) (l ns : List Tk) (hkn : Hid (k = (kn : Int))) (h : Sc base w B s p l ns) (hf : from_ ≤ p) (hp : p ≤ s.size) (hl : l.length ≤ 200000) (hbase : base ≤ w.heap.size) (ht : TkOk ⟨kn, (s.data.toList.drop from_).take (p - from_), from_⟩) :
    Calls Tryd.prog 75 #[.pointer (some ⟨B, 0, none⟩), .int .i64 k, .int .i64 (from_ : Int)] w fun e w' => e = .returned (.tuple #[]) ∧
      Sc base w' B s p (l ++ [⟨kn, (s.data.toList.drop from_).take (p - from_), from_⟩]) ns ∧ Below base w w' := by
  obtain ⟨A, A', c, c', h1, h2, h3, h4⟩ := h.ex
  have hB := h.base_le
  have HO := hide h.ok
  have HT := hide ht; clear ht
  have H := hide h; clear h
  obtain ⟨i0, hi0, hz0, hz1, hz2⟩ := info_parts tokInfo
  have c0 : w.cell? ⟨B, 0, none⟩ = some (.string s) := cells_at h1 0
  have c1 : w.cell? ⟨B, 1, none⟩ = some (.int .i64 (p : Int)) := cells_at h1 1
  have c2 : w.cell? ⟨B, 2, none⟩ = some (.slice A l.length c) := cells_at h1 2
  have f2 : w.frozen? ⟨B, 2, none⟩ = false := frozen_at h1 2
  have hBl := block_lt h1
  have hfar := row_far h2 h1 (by decide)
  have a0 : (0 : Int) ≤ (from_ : Int) := Int.natCast_nonneg _
  have a1 : (from_ : Int) ≤ (p : Int) := by omega
  have a2 : (p : Int) ≤ (s.size : Int) := by omega
  have H1 := hide h1; clear h1
  have H2 := hide h2; clear h2
  have H3 := hide h3; clear h3
  have H4 := hide h4; clear h4
  go_enter Tryd.func75, Tryd.ntmps75
  go_wp2_with fail
  go_region_law
    ((refine step_append_lies _ (by rfl) _ _ _ (by rfl) base 29 i0 _ 3 32 Tryd.underlying23 hi0 hz0 hz1 hz2 rfl (by omega) (.slice A l.length c) l.length (toks l) (by rfl) ((H2.out.alloc _).drew)
        ⟨w.heap.size, 0, none⟩ 1 1 [.int .i64 k, .string (s.extract from_ p), .int .i64 from_] (by rfl) (by rfl) (World.news_of_block (cs := #[.int .i64 k, .string (s.extract from_ p), .int .i64 from_]) (t := 29) (fr := (0, 0)) (heap_alloc_new w _)) (by simp [Value.oneCell'])
        (by omega) (by simp only [maxLen]; omega) (by omega) (by simp; omega) (w.heap.size + 1) (by simp) ?_; intro gg cap w1 hown1 hgrow hat hlt; have hg1 := grow_of hgrow; have e1 := (hg1.block B hBl (Ne.symm hfar)).trans H1.out; have z2 : w1.cell? ⟨B, 2, none⟩ = some (.slice A l.length c) := cells_at e1 2; have zf := frozen_at e1 2; have E1 := hide e1; clear e1))
  all_goals
    go_wp2
    go_end0
    refine ⟨rfl, ?_⟩
    have htc := tok_cells s from_ p k kn hkn.out
    rw [htc] at hown1
    exact Sc.put2 H1.out H2.out H3.out H4.out hB hbase HO.out HT.out hown1 hg1 (hat.imp id (fun e => by omega)) hlt
end Go.Proofs.YtehflgllfkkfoaaDoor
