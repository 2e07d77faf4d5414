/- The reference's Scan at every slice of bytes that is not too long. -/
import Derived.Test.YtehflgllfkkfoaaDoorRl
set_option linter.unusedVariables false
set_option linter.unusedSimpArgs false
namespace Go.Proofs.YtehflgllfkkfoaaDoor
open Go.RowKit Go.Proofs.Dm

set_option maxRecDepth 100000 in
set_option maxHeartbeats 6400000 in
theorem rscan_nil (w : World) (A : Option Addr) (c : Nat) : Calls Tryd.prog 19 #[.slice A 0 c] w (RScanRet [] w) := by
  have hE := rends_nil w none 0
  have HE : Hid (Calls Tryd.prog 37 #[.slice none 0 0] w fun e w' => e = .returned (.bool false) ∧ Below w.heap.size w w') := hide hE
  have HW := hide (rwrong_nil w A c)
  clear hE
  go_enter Tryd.func19, Tryd.ntmps19
  go_wp2_with fail
  refine HW.out.mono ?_
  rintro e w' ⟨rfl, rfl⟩
  go_wp2_with fail
  refine wp_loop_rounds 1 ?_
  rw [rounds_succ]
  go_wp2_with fail
  refine HE.out.mono ?_
  rintro e w1 ⟨rfl, hb1⟩
  have HB1 := hide hb1
  clear hb1
  go_wp2_with fail
  refine bodyPost_ret (results_tmp4 rfl _ _ _) rfl ?_
  have hs : scanS [] = .ok [] [] := by decide
  unfold RScanRet
  rw [hs]
  exact ⟨none, 0, none, 0, rfl, .inl rfl, Nat.le_refl _, .inl rfl, Nat.le_refl _, HB1.out⟩
set_option maxRecDepth 100000 in
set_option maxHeartbeats 6400000 in
theorem rscan_wrong (w : World) (a o cap : Nat) (b : Bs) (hba : BA w a o cap b) (hlen : b.length ≤ 65536) (p : Nat) (hw : wrongL b.length b 0 = some p) :
    Calls Tryd.prog 19 #[.slice (some ⟨a, o, none⟩) b.length cap] w (RScanRet b w) := by
  have hwr := rwrong_some w a o cap b hba hlen
  rw [wrongInt_some hw] at hwr
  have HWR := hide hwr; clear hwr
  have hs : scanS b = .bad p 2 := by unfold scanS; rw [if_neg (by omega), hw]
  have HFIN := hide (RScanRet.bad (w := w) (w' := w) hs (Below.refl _ _))
  have hcap : (b.length : Int) ≤ (cap : Int) := by have := hba.1; omega
  have l1 : (b.length : Int) ≤ 65536 := by omega
  have p0 : (0 : Int) ≤ (p : Int) := by omega
  clear hw hs hba
  go_enter Tryd.func19, Tryd.ntmps19
  go_wp2_with fail
  refine HWR.out.mono ?_
  rintro e w' ⟨rfl, rfl⟩
  go_wp2_with fail
  refine bodyPost_ret (results_tmp4 rfl _ _ _) rfl ?_
  exact HFIN.out
theorem rscan_any (w : World) (v : Value) (b : Bs) (hv : BytesAt w v b) (hlen : b.length ≤ 65536) : Calls Tryd.prog 19 #[v] w (RScanRet b w) := by
  rcases hv with ⟨A, c, rfl, rfl⟩ | ⟨a, o, cap, rfl, hc, hcell⟩
  · exact rscan_nil w A c
  · by_cases h0 : b = []
    · subst h0; exact rscan_nil w _ _
    · have hba : BA w a o cap b := ⟨hc, hcell⟩
      cases hw : wrongL b.length b 0 with
      | some p => exact rscan_wrong w a o cap b hba hlen p hw
      | none => exact rscan_run w a o cap b hba hlen (List.length_pos_iff.2 h0) hw
end Go.Proofs.YtehflgllfkkfoaaDoor
