/- The law's 'told' at two rows that hold the same. -/
import Derived.Test.YtehflgllfkkfoaaDoorTq
import Derived.Test.YtehflgllfkkfoaaDoorRf
import Derived.StillTactics
set_option linter.unusedVariables false
set_option linter.unusedSimpArgs false
namespace Go.Proofs.YtehflgllfkkfoaaDoor
open Go.RowKit Go.Proofs.Dm

/-- Tokens lie from a block's head on. -/
def TA (w : World) (A : Option Addr) (l : List Tk) : Prop := l = [] ∨ ∃ g, A = some ⟨g, 0, none⟩ ∧ ∀ i (hi : i < l.length), w.cell? ⟨g, i * 3, none⟩ = some (.int .i64 ((l[i]'hi).kind : Int)) ∧ w.cell? ⟨g, i * 3 + 1, none⟩ = some (.string (bs (l[i]'hi).text)) ∧ w.cell? ⟨g, i * 3 + 2, none⟩ = some (.int .i64 ((l[i]'hi).pos : Int))
theorem TA.below {w w' : World} {A : Option Addr} {l : List Tk} (h : TA w A l) (hb : Below w.heap.size w w') : TA w' A l := by
  rcases h with h | ⟨g, hA, hc⟩
  · exact .inl h
  · refine .inr ⟨g, hA, fun i hi => ?_⟩
    obtain ⟨h1, h2, h3⟩ := hc i hi
    have hg := World.block_lt_of_cell? w _ h1
    exact ⟨(hb.cell (p := ⟨g, i * 3, none⟩) hg).trans h1, (hb.cell (p := ⟨g, i * 3 + 1, none⟩) hg).trans h2, (hb.cell (p := ⟨g, i * 3 + 2, none⟩) hg).trans h3⟩

set_option maxRecDepth 100000 in
set_option maxHeartbeats 12800000 in
theorem told_same (w : World) (A1 A2 : Option Addr) (c1 c2 : Nat) (l : List Tk) (h1 : TA w A1 l) (h2 : TA w A2 l) (hc1 : l.length ≤ c1) (hc2 : l.length ≤ c2) (hl : l.length ≤ 100000) :
    Calls Tryd.prog 20 #[.slice A1 l.length c1, .slice A2 l.length c2] w fun e w' => e = .returned (.bool true) ∧ Below w.heap.size w w' := by
  have H1 := hide h1; clear h1
  have H2 := hide h2; clear h2
  have n0 : (l.length : Int) ≤ 100000 := by omega
  have n1 : (l.length : Int) ≤ (c1 : Int) := by omega
  have n2 : (l.length : Int) ≤ (c2 : Int) := by omega
  go_enter Tryd.func20, Tryd.ntmps20
  go_wp2_with fail
  go_loopw [5] (fun i W' => ∃ W, W = W' ∧ Below w.heap.size w W ∧ ∃ k : Nat, k ≤ l.length ∧ i = .int .i64 k) (fun i _ => l.length - (intOf i).toNat)
  case atStart => exact ⟨_, rfl, Below.refl _ _, 0, Nat.zero_le _, rfl⟩
  case round =>
    obtain ⟨W, rfl, hbl, k, hk, rfl⟩ := hrel
    have HB := hide hbl; clear hbl
    have k0 : (0 : Int) ≤ (k : Int) := by omega
    by_cases hlt : k < l.length
    · have k1 : (k : Int) < (l.length : Int) := by omega
      rcases H1.out.below HB.out with hn | ⟨g1, rfl, hc1'⟩
      · rw [hn] at hlt; simp at hlt
      rcases H2.out.below HB.out with hn | ⟨g2, rfl, hc2'⟩
      · rw [hn] at hlt; simp at hlt
      obtain ⟨x0, x1, x2⟩ := hc1' k hlt
      obtain ⟨y0, y1, y2⟩ := hc2' k hlt
      clear hc1' hc2'
      obtain ⟨t, ht⟩ : ∃ t, l[k]'hlt = t := ⟨_, rfl⟩
      rw [ht] at x0 x1 x2 y0 y1 y2
      clear ht
      obtain ⟨T, hT⟩ : ∃ T, bs t.text = T := ⟨_, rfl⟩
      rw [hT] at x1 y1
      clear hT
      obtain ⟨kd, hkd⟩ : ∃ kd : Int, (t.kind : Int) = kd := ⟨_, rfl⟩
      rw [hkd] at x0 y0
      clear hkd
      obtain ⟨ps, hps⟩ : ∃ ps : Int, (t.pos : Int) = ps := ⟨_, rfl⟩
      rw [hps] at x2 y2
      clear hps
      go_wp2_with fail
      go_still (by kernel_rfl)
      rw [drew_lit]
      go_wp2_with fail
      go_roundw
      case rel => exact ⟨_, rfl, HB.out.drew, k + 1, by omega, by go_num⟩
      case measure => simp [intOf]; omega
    · have k1 : ¬ (k : Int) < (l.length : Int) := by omega
      go_wp2_with fail
      go_ret
      exact ⟨rfl, HB.out⟩
end Go.Proofs.YtehflgllfkkfoaaDoor
