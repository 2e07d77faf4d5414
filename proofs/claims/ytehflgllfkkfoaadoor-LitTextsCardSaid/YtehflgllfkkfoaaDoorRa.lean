/- What the chapters' rows share: the tables, the witness's world, a slice of bytes that came in. -/
import Derived.Test.YtehflgllfkkfoaaDoorCards
import Derived.Test.YtehflgllfkkfoaaDoorTie
import Derived.Test.YtehflgllfkkfoaaDoorTq
import Derived.ProofKit
import Derived.OpenShut
import Derived.Deep.DeepHandedRow
import Derived.Lib.LaidU8
set_option linter.unusedVariables false
namespace Go.Proofs.YtehflgllfkkfoaaDoor
open Go.ChangeShapes Go.WideShapes Go.ChangeAt Go.RowKit Go.Proofs.Dm

theorem ownLooks : ownKnob Tryd.prog.godebug = none := by kernel_rfl
theorem laidOutAll : laidOutB Tryd.prog = true := by kernel_rfl
theorem cells5 : Tryd.prog.cellsOf 5 = 1 := by kernel_rfl
theorem u8Extra : U8Extra Tryd.prog Tryd.lays260_ren := { n3 := by kernel_rfl, n4 := by kernel_rfl, y3 := by kernel_rfl, y4 := by kernel_rfl, c5 := by kernel_rfl, c119 := by kernel_rfl, c138 := by kernel_rfl }
theorem first_same : Go.Pinned.utf8First = Lib.firstData := by kernel_rfl
theorem accept_same : (Rows.laid_unicode_utf8_acceptRanges : DataW Unit) = Lib.acceptData := by kernel_rfl
theorem tabs_of_laid {w : World} {l : List (String × DataW Unit)} (h : laidMet Tryd.prog l w) (h1 : ("unicode/utf8.first", Rows.laid_unicode_utf8_first) ∈ l) (h2 : ("unicode/utf8.acceptRanges", (Rows.laid_unicode_utf8_acceptRanges : DataW Unit)) ∈ l) :
    Lib.Utf8Tabs 0 1 w := by
  have r1 := Lib.laidMet.reads h h1
  have r2 := Lib.laidMet.reads h h2
  rw [show Rows.laid_unicode_utf8_first = Lib.firstData from first_same] at r1
  rw [accept_same] at r2
  exact utf8Tabs_of_reads Tryd.lays260 u8Extra r1 r2
theorem maxLen_of_shape {w : World} (h : w.ShapedOpen Tryd.prog) : MaxLenOk w :=
  Go.Proofs.cell_of_shapedOpen_int (g := 2) (zero := #[.int .i64 0]) (t := 3) h (of_decide_eq_true (by kernel_rfl)) (by kernel_rfl) rfl (by kernel_rfl) (by kernel_rfl) Tryd.underlying3
theorem size_of_maxLen {w : World} (h : MaxLenOk w) : 3 ≤ w.heap.size := by
  obtain ⟨m, hm⟩ := h
  have := World.block_lt_of_cell? w _ hm
  show 2 < _; exact this

/-- A slice of bytes that came in, as it lies. -/
theorem open_bytes {H : Type} {enc : TypeId × Value → H} {W : World} {base : Nat} {sp : Nat → Bool} {held : Bool} {fuel : Nat} {v : Value} {x : DataW H × List MemPlace} (h : DataW.trod enc Tryd.prog W base sp held fuel 22 [v] = some x) :
    ∃ b, BytesAt W v b := by
  rcases open_ints Tryd.underlying22 Tryd.underlying5 cells5 h with ⟨hcs, hx⟩ | ⟨a, len, cap, zs, hcs, _, hl, hm, hz, hx, hcell, hwz⟩
  · obtain rfl : v = .slice none 0 0 := by simpa using hcs
    exact ⟨[], .inl ⟨none, 0, rfl, rfl⟩⟩
  · obtain rfl : v = .slice (some a) len cap := by simpa using hcs
    have hlen : len ≤ zs.length := by rw [hz]; split <;> omega
    by_cases h0 : len = 0
    · subst h0
      exact ⟨[], .inl ⟨some a, cap, rfl, rfl⟩⟩
    · have hspot : a.spot = none := by
        have hc := hcell 0 (by omega)
        have e : a.add 0 = a := by unfold Addr.add; rfl
        rw [e] at hc
        unfold World.cell? at hc
        split at hc
        · split at hc
          · cases hc
          · rename_i hs; simpa using hs
        · cases hc
      obtain ⟨ab, ao, sp'⟩ := a
      simp only at hspot
      subst hspot
      refine ⟨(zs.take len).map (fun n => UInt8.ofNat n.toNat), .inr ⟨ab, ao, cap, by simp [Nat.min_eq_left hlen], by simp; omega, fun j hj => ?_⟩⟩
      have hj2 : j < len := by simp at hj; omega
      have hc := hcell j (by omega)
      have e : (⟨ab, ao, none⟩ : Addr).add j = ⟨ab, ao + j, none⟩ := by unfold Addr.add; split <;> simp_all
      rw [e] at hc
      rw [hc]
      have hw := hwz (zs[j]'(by omega)) (List.getElem_mem _)
      have hr : 0 ≤ zs[j]'(by omega) ∧ zs[j]'(by omega) < 256 := by
        simp only [Lit.wf, Bool.and_eq_true, decide_eq_true_eq] at hw
        have h1 : (IntKind.u8).min = 0 := rfl
        have h2 : (IntKind.u8).max = 255 := rfl
        rw [h1, h2] at hw
        exact ⟨hw.1, by omega⟩
      congr 2
      simp [List.getD_eq_getElem?_getD, List.getElem?_eq_getElem (show j < zs.length by omega)]
      omega

def layFirst : Obj → Obj
  | .cells _ t frozen => .cells ((List.range 256).map fun c => Value.int .u8 (Lib.firstT c : Int)).toArray t frozen
  | o => o
def layAccept : Obj → Obj
  | .cells _ t frozen => .cells ((List.range 16).flatMap fun i => [Value.int .u8 (Lib.accLo i : Int), Value.int .u8 (Lib.accHi i : Int)]).toArray t frozen
  | o => o
/-- A world for the witness: the settled one, the two tables as their initialisers lay them. -/
noncomputable def laidWorld (os : Os) : World :=
  { World.holding Tryd.prog os ⟨#[], #[], []⟩ with heap := ((World.holding Tryd.prog os ⟨#[], #[], []⟩).heap.modify 0 layFirst).modify 1 layAccept }
end Go.Proofs.YtehflgllfkkfoaaDoor
