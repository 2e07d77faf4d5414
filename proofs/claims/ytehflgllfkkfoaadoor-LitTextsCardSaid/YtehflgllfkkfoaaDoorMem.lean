/- The scanner's state in memory, and what keeps it. -/
import Derived.Test.YtehflgllfkkfoaaDoorProg
import Derived.Test.YtehflgllfkkfoaaDoorTok
import Derived.WalkKit
import Derived.WalkSpells
import Derived.WalkLawsBesides
import Derived.Below
import Derived.Deep.AppendLies
import Derived.Deep.Draws
import Derived.Lib.Strings
import Derived.Lib.IndexBytes
import Derived.KernelRfl
import Derived.Lib.IndexMore
set_option linter.unusedVariables false
namespace Go.Proofs.YtehflgllfkkfoaaDoor
open Go.RowKit Go.Proofs.Dm

theorem hide {p : Prop} (h : p) : Hid p := h
/-- The bytes of a list, as a string has them. -/
def bs (l : Bs) : ByteArray := ⟨l.toArray⟩
theorem bs_data (l : Bs) : (bs l).data.toList = l := rfl
theorem bs_of (s : ByteArray) : bs s.data.toList = s := by cases s; rfl
theorem bs_inj {a b : Bs} (h : bs a = bs b) : a = b := by
  have := congrArg (fun x : ByteArray => x.data.toList) h
  simpa [bs_data] using this
theorem bs_size (l : Bs) : (bs l).size = l.length := rfl
theorem size_data (s : ByteArray) : s.size = s.data.toList.length := by rw [Array.length_toList]; rfl
theorem extract_bs (s : ByteArray) (a b : Nat) : s.extract a b = bs ((s.data.toList.drop a).take (b - a)) := by
  rw [← Lib.extract_data, bs_of]

def tokCells (t : Tk) : List Value := [.int .i64 (t.kind : Int), .string (bs t.text), .int .i64 (t.pos : Int)]
def toks (l : List Tk) : List Value := l.flatMap tokCells
theorem toks_snoc (l : List Tk) (t : Tk) : toks (l ++ [t]) = toks l ++ tokCells t := by simp [toks]
theorem toks_length (l : List Tk) : (toks l).length = l.length * 3 := by
  induction l with
  | nil => rfl
  | cons t l ih => simp [toks, tokCells] at *; omega

theorem tokInfo : (Tryd.prog.info? 29).map (fun i => (i.zero, i.size, i.bytes)) = some (some (.agg #[.int .i64 0, .string ⟨#[]⟩, .int .i64 0]), 3, 32) := by kernel_rfl

/-- The tokens that a scan makes. -/
def allSigns : List Bs := [10] :: (signs3 ++ signs2 ++ signs1)
def TkOk (t : Tk) : Prop := t.kind = 1 ∨ t.kind = 2 ∨ t.kind = 3 ∨ t.kind = 4 ∨ t.kind = 5 ∨ (t.kind = 6 ∧ t.text ∈ allSigns)
/-- A scanner lies in block B: its text, its place, its tokens, its notes; the two rows are the call's own. -/
structure Sc (base : Nat) (w : World) (B : Nat) (s : ByteArray) (p : Nat) (l ns : List Tk) : Prop where
  ex : ∃ (A A' : Option Addr) (c c' : Nat), w.heap[B]? = some (.cells #[.string s, .int .i64 (p : Int), .slice A l.length c, .slice A' ns.length c'] 51 (0, 0)) ∧
    w.ownsRow base 29 3 (.slice A l.length c) l.length (toks l) ∧ w.ownsRow base 29 3 (.slice A' ns.length c') ns.length (toks ns) ∧
    ((Value.slice A l.length c).ownBlock = none ∨ (Value.slice A l.length c).ownBlock ≠ (Value.slice A' ns.length c').ownBlock)
  base_le : base ≤ B
  ok : ∀ t ∈ l, TkOk t

theorem row_far {w : World} {base n : Nat} {e t : TypeId} {size : Nat} {v : Value} {xs : List Value} {g : Nat} {cs : Array Value} (h : w.ownsRow base e size v n xs) (hg : w.heap[g]? = some (.cells cs t (0, 0))) (hne : e ≠ t) : v.ownBlock ≠ some g := by
  rcases h.2 with ⟨rfl, _⟩ | ⟨g', cap, cur, rfl, _, hh, _⟩
  · simp [Value.ownBlock]
  · intro he
    have : g' = g := by simpa [Value.ownBlock] using he
    subst this
    rw [hh] at hg
    injection hg with hg
    injection hg with _ ht
    exact hne ht
theorem block_lt {w : World} {g : Nat} {o : Obj} (h : w.heap[g]? = some o) : g < w.heap.size := by
  rcases Nat.lt_or_ge g w.heap.size with hlt | hge
  · exact hlt
  · rw [Array.getElem?_eq_none hge] at h; cases h
theorem cells_at {w : World} {g : Nat} {cs : Array Value} {t : TypeId} (h : w.heap[g]? = some (.cells cs t (0, 0))) (i : Nat) : w.cell? ⟨g, i, none⟩ = cs[i]? := cell_of_row w g i cs t (0, 0) h
theorem frozen_at {w : World} {g : Nat} {cs : Array Value} {t : TypeId} (h : w.heap[g]? = some (.cells cs t (0, 0))) (i : Nat) : w.frozen? ⟨g, i, none⟩ = false := by simp [World.frozen?, h]
theorem set_at {w : World} {g : Nat} {cs : Array Value} {t : TypeId} (h : w.heap[g]? = some (.cells cs t (0, 0))) (i : Nat) (u : Value) : (w.setCell ⟨g, i, none⟩ u).heap[g]? = some (.cells (cs.setIfInBounds i u) t (0, 0)) := by
  simp [World.setCell, Array.getElem?_modify, h]
theorem own_lt' {w : World} {base n : Nat} {e : TypeId} {size : Nat} {v : Value} {xs : List Value} (h : w.ownsRow base e size v n xs) (k : Nat) (hk : v.ownBlock = some k) : k < w.heap.size ∧ base ≤ k := by
  rcases h.2 with ⟨rfl, _⟩ | ⟨g, cap, cur, rfl, hb, hh, _⟩
  · simp [Value.ownBlock] at hk
  · have : g = k := by simpa [Value.ownBlock] using hk
    subst this
    exact ⟨block_lt hh, hb⟩
theorem grown_of_below' {w w1 : World} (h : Below w.heap.size w w1) (row : Option Nat) : w.grownBy w1 row := ⟨h.os, h.tape, h.output, h.size, fun i hi _ => h.block i hi⟩
theorem own_below' {w w1 : World} {base : Nat} {e : TypeId} {size n : Nat} {v : Value} {xs : List Value} (h : w.ownsRow base e size v n xs) (hb : Below w.heap.size w w1) : w1.ownsRow base e size v n xs :=
  h.kept (grown_of_below' hb none) (by cases v.ownBlock <;> simp)
theorem own_far' {w : World} {base : Nat} {e : TypeId} {size n : Nat} {v : Value} {xs : List Value} (h : w.ownsRow base e size v n xs) {p : Addr} (hp : v.ownBlock ≠ some p.block) (u : Value) : (w.setCell p u).ownsRow base e size v n xs := by
  obtain ⟨h1, h2⟩ := h
  refine ⟨h1, ?_⟩
  rcases h2 with h2 | ⟨g, cap, cur, rfl, hg, hh, r⟩
  · exact Or.inl h2
  · refine Or.inr ⟨g, cap, cur, rfl, hg, ?_, r⟩
    rw [Below.heap_setCell _ _ _ _ (by intro e; apply hp; simp [Value.ownBlock, e])]
    exact hh

section
variable {base : Nat} {w w' : World} {B : Nat} {s : ByteArray} {p : Nat} {l ns : List Tk}
theorem Sc.lt (h : Sc base w B s p l ns) : B < w.heap.size := by
  obtain ⟨A, A', c, c', hb, _⟩ := h.ex
  exact block_lt hb
theorem Sc.below (h : Sc base w B s p l ns) (hb : Below w.heap.size w w') : Sc base w' B s p l ns := by
  obtain ⟨A, A', c, c', h1, h2, h3, h4⟩ := h.ex
  exact ⟨⟨A, A', c, c', (hb.block B (block_lt h1)).trans h1, own_below' h2 hb, own_below' h3 hb, h4⟩, h.base_le, h.ok⟩
theorem Sc.drewN (h : Sc base w B s p l ns) (n : Nat) : Sc base (w.drewN n) B s p l ns := ⟨h.ex, h.base_le, h.ok⟩
theorem Sc.drew (h : Sc base w B s p l ns) : Sc base w.drew B s p l ns := ⟨h.ex, h.base_le, h.ok⟩
/-- The place is written. -/
theorem Sc.move (h : Sc base w B s p l ns) (q : Nat) : Sc base (w.setCell ⟨B, 1, none⟩ (.int .i64 (q : Int))) B s q l ns ∧ Below base w (w.setCell ⟨B, 1, none⟩ (.int .i64 (q : Int))) := by
  obtain ⟨A, A', c, c', h1, h2, h3, h4⟩ := h.ex
  exact ⟨⟨⟨A, A', c, c', set_at h1 1 _, own_far' h2 (row_far h2 h1 (by decide)) _, own_far' h3 (row_far h3 h1 (by decide)) _, h4⟩, h.base_le, h.ok⟩, (Below.refl base w).setCell h.base_le _⟩
end
end Go.Proofs.YtehflgllfkkfoaaDoor
