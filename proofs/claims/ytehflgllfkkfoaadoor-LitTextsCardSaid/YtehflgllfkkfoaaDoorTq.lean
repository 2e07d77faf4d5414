/- What the chapter's laws share: rows of bytes and of tokens. -/
import Derived.Test.YtehflgllfkkfoaaDoorTp
import Derived.Lib.AppendStr
set_option linter.unusedVariables false
set_option linter.unusedSimpArgs false
namespace Go.Proofs.YtehflgllfkkfoaaDoor
open Go.RowKit Go.Proofs.Dm

def bcells (b : Bs) : List Value := b.map (fun c => .int .u8 (c.toNat : Int))
theorem bcells_length (b : Bs) : (bcells b).length = b.length := by simp [bcells]
theorem bcells_append (a b : Bs) : bcells (a ++ b) = bcells a ++ bcells b := by simp [bcells]
theorem strCells_bs (t : Bs) : Lib.strCells (bs t) = bcells t := by
  simp [Lib.strCells, bs, bcells]
theorem own_bytes {w : World} {base : Nat} {v : Value} {b : Bs} (h : w.ownsRow base 5 1 v b.length (bcells b)) : BytesAt w v b := by
  rcases h.2 with ⟨hv, h0⟩ | ⟨g, cap, cur, rfl, _, _, hle, _⟩
  · exact .inl ⟨none, 0, hv, List.eq_nil_of_length_eq_zero h0⟩
  · refine .inr ⟨g, 0, cap, rfl, hle, fun j hj => ?_⟩
    have := h.cells (g := g) rfl j (.int .u8 ((b[j]'hj).toNat : Int)) (by simp [bcells, hj])
    rw [addr_add] at this
    rw [Nat.zero_add]; exact this
theorem byteInfo : (Tryd.prog.info? 5).map (fun i => (i.zero, i.size, i.bytes)) = some (some (.int .u8 0), 1, 1) := by kernel_rfl
theorem own_none (w : World) (base : Nat) (e : TypeId) (size : Nat) : w.ownsRow base e size (.slice none 0 0) 0 [] := ⟨by simp, .inl ⟨rfl, rfl⟩⟩
theorem TokRow.below {base : Nat} {w w' : World} {v : Value} {l : List Tk} (h : TokRow base w v l) (hb : Below w.heap.size w w') : TokRow base w' v l := ⟨own_below' h.1 hb, h.2⟩
/-- A row of tokens, as it lies. -/
theorem TokRow.lies {base : Nat} {w : World} {v : Value} {l : List Tk} (h : TokRow base w v l) : (l = [] ∧ ∃ A c, v = .slice A 0 c) ∨ ∃ g c, v = .slice (some ⟨g, 0, none⟩) l.length c ∧ l.length ≤ c ∧ g < w.heap.size ∧
    ∀ i (hi : i < l.length), w.cell? ⟨g, i * 3, none⟩ = some (.int .i64 ((l[i]'hi).kind : Int)) ∧ w.cell? ⟨g, i * 3 + 1, none⟩ = some (.string (bs (l[i]'hi).text)) ∧ w.cell? ⟨g, i * 3 + 2, none⟩ = some (.int .i64 ((l[i]'hi).pos : Int)) := by
  obtain ⟨h1, A, c, rfl⟩ := h
  by_cases h0 : 0 < l.length
  · right
    obtain ⟨g, rfl, hr⟩ := tok_row_at h1 h0
    have hc : l.length ≤ c := by
      rcases h1.2 with ⟨hv, _⟩ | ⟨g', cap', cur, hv', _, _, h1, _⟩
      · cases hv
      · injection hv' with _ _ hc'; subst hc'; exact h1
    exact ⟨g, c, rfl, hc, World.block_lt_of_cell? w _ (hr 0 h0).1, hr⟩
  · have : l = [] := List.eq_nil_of_length_eq_zero (by omega)
    subst this
    exact .inl ⟨rfl, A, c, rfl⟩
theorem scanL_count (f : Nat) : ∀ (b : Bs) (p : Nat) (l ns l' ns' : List Tk), scanL f b p l ns = .ok (l', ns') → l'.length ≤ l.length + b.length + 1 ∧ ns'.length ≤ ns.length + b.length := by
  induction f with
  | zero =>
    intro b p l ns l' ns' h
    cases b with
    | nil =>
      injection h with h
      injection h with h1 h2
      subst h1 h2
      have := line_length l p
      exact ⟨by simpa using this, by simp⟩
    | cons c r => cases h
  | succ f ih =>
    intro b p l ns l' ns' h
    cases b with
    | nil =>
      injection h with h
      injection h with h1 h2
      subst h1 h2
      have := line_length l p
      exact ⟨by simpa using this, by simp⟩
    | cons c r =>
      have s := step_scan (f := f) (c := c) (r := r) (p := p) (l := l) (ns := ns)
      cases hst : stepL (c :: r) p l ns with
      | none => rw [s.1 hst] at h; cases h
      | some o =>
        obtain ⟨q, l2, ns2⟩ := o
        obtain ⟨h1, h2, h3, h4, h5⟩ := s.2 q l2 ns2 hst
        rw [h5] at h
        have := ih _ _ _ _ _ _ h
        rw [List.length_drop] at this
        omega
theorem scan_count {b : Bs} {l ns : List Tk} (h : scanS b = .ok l ns) : l.length ≤ b.length + 1 ∧ ns.length ≤ b.length := by
  unfold scanS at h
  split at h
  · cases h
  · split at h
    · cases h
    · split at h
      · cases h
      · rename_i he
        injection h with h1 h2
        subst h1 h2
        have := scanL_count _ _ _ _ _ _ _ he
        simpa using this
end Go.Proofs.YtehflgllfkkfoaaDoor
