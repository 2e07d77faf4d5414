/- The scanner's 'next' at a word, a number, a text and a sign. -/
import Derived.Test.YtehflgllfkkfoaaDoorTk
set_option linter.unusedVariables false
namespace Go.Proofs.YtehflgllfkkfoaaDoor
open Go.RowKit Go.Proofs.Dm

theorem str_word (s : ByteArray) (p q : Nat) : (s.extract p q).toList = (s.data.toList.drop p).take (q - p) := by
  rw [extract_bs, bs_toList]

set_option maxRecDepth 100000 in
set_option maxHeartbeats 12800000 in
theorem next_word (base : Nat) (w : World) (B : Nat) (s : ByteArray) (p : Nat) (l ns : List Tk) (d : UInt8) (r : Bs) (hdr : s.data.toList.drop p = d :: r)
    (h : Sc base w B s p l ns) (hM : MaxLenOk w) (h3 : 3 ≤ base) (hp : p < s.size) (hs : s.size ≤ 65536) (hl : l.length ≤ 200000) (hn : ns.length ≤ 200000) (hbase : base ≤ w.heap.size) (hnm : NoMark p s) (h10 : d ≠ 10) (h32 : d ≠ 32) (h9 : d ≠ 9) (h13 : d ≠ 13) (hno : noteLen (d :: r) = none) (hlet : letter d = true) :
    Calls Tryd.prog 59 #[.pointer (some ⟨B, 0, none⟩)] w (NextEnd (stepL (d :: r) p l ns) p base w B s) := by
  have haln : alnum d = true := by unfold alnum; rw [hlet]; rfl
  have hpc : Hid (stepL (d :: r) p l ns = some (p + span (d :: r), l ++ [⟨1 + word ((d :: r).take (span (d :: r))), (d :: r).take (span (d :: r)), p⟩], ns)) := hide (by
    unfold stepL; rw [not_nl (noMark_piece hnm hdr) h10 h32 h9 h13, hno]
    simp only [hlet, if_true]
    rw [span_cons haln, List.take_succ_cons, take_span])
  have H0 := hide h
  have HM := hide hM; clear hM
  obtain ⟨A, A', c, c', h1, h2, hh3, h4⟩ := h.ex
  have c0 : w.cell? ⟨B, 0, none⟩ = some (.string s) := cells_at h1 0
  have c1 : w.cell? ⟨B, 1, none⟩ = some (.int .i64 (p : Int)) := cells_at h1 1
  have f1 : w.frozen? ⟨B, 1, none⟩ = false := frozen_at h1 1
  have z1 : ∀ v, (w.setCell ⟨B, 1, none⟩ v).cell? ⟨B, 1, none⟩ = some v := fun v => set_same c1 v
  clear h h1 h2 hh3 h4
  have a0 : (0 : Int) ≤ (p : Int) := by omega
  have a1 : (p : Int) < (s.size : Int) := by omega
  have a2 : (p : Int) ≤ (s.size : Int) := by omega
  have a3 : (s.size : Int) ≤ 65536 := by omega
  have a4 : (p : Int) ≤ 65536 := by omega
  have hsp := byte_at hp hdr
  have hd256 := d.toNat_lt
  obtain ⟨dd, hdd⟩ : ∃ dd : Int, (d.toNat : Int) = dd := ⟨_, rfl⟩
  have b0 : (0 : Int) ≤ dd := by omega
  have b1 : dd < 256 := by omega
  rw [hdd] at hsp
  have HP0 := Tryd.strings_HasPrefix s ⟨#[239, 187, 191]⟩ w
  rw [show (⟨#[239, 187, 191]⟩ : ByteArray).data.toList = [239, 187, 191] from rfl] at HP0
  have e10 : (dd == 10) = false := by have := byte_int 10 10 h10; rw [hdd] at this; exact this
  have e32 : (dd == 32) = false := by have := byte_int 32 32 h32; rw [hdd] at this; exact this
  have e9 : (dd == 9) = false := by have := byte_int 9 9 h9; rw [hdd] at this; exact this
  have e13 : (dd == 13) = false := by have := byte_int 13 13 h13; rw [hdd] at this; exact this
  have HN := hide (note_any base w B s p l ns H0.out HM.out h3 (by omega) hs hl hn hbase)
  rw [hdr] at HN
  unfold NoteEnd at HN
  rw [hno] at HN
  have HLT := hide (letR_byte d)
  have HFG := hide (figR_byte d)
  rw [hdd] at HLT HFG
  have HDR := hide hdr
  have HHM := hide (HM.out)
  rw [hlet] at HLT
  have hsr : span (d :: r) ≤ (d :: r).length := span_le _
  obtain ⟨k, hk⟩ : ∃ k, span (d :: r) = k := ⟨_, rfl⟩
  rw [hk] at hpc hsr
  have hlen : (d :: r).length + p = s.size := by rw [← hdr, List.length_drop, ← size_data]; omega
  have hkp : p + k ≤ s.size := by omega
  obtain ⟨q, hq⟩ : ∃ q, p + k = q := ⟨_, rfl⟩
  have hqs : q ≤ s.size := by omega
  have hpq : p ≤ q := by omega
  have hqk : q - p = k := by omega
  have k0 : (p : Int) ≤ (q : Int) := by omega
  have k1 : (q : Int) ≤ (s.size : Int) := by omega
  have k2 : (0 : Int) ≤ (q : Int) := by omega
  rw [hq] at hpc
  clear hkp
  have HQ := hide hq; clear hq
  have HQK := hide hqk; clear hqk
  have HK := hide hk; clear hk
  obtain ⟨m, hm⟩ : ∃ m, word ((d :: r).take k) = m := ⟨_, rfl⟩
  have hm3 := word_le ((d :: r).take k)
  have htok : TkOk ⟨1 + m, (d :: r).take k, p⟩ := by rw [hm] at hm3; exact kind_ok m _ p hm3
  have HTK := hide htok; clear htok
  rw [hm] at hpc hm3
  have hwd : Hid (∀ W : World, Calls Tryd.prog 24 #[.string (s.extract p q)] W fun e w' => e = .returned (.int .i64 (m : Int)) ∧ w' = W) := hide (by
    intro W
    have := word_any (s.extract p q) W
    rw [str_word, hdr, HQK.out, hm] at this
    exact this.mono fun e w' h => ⟨h.1, h.2.symm⟩)
  clear hm hlen hsr
  rcases hm3 with rfl | rfl | rfl
  · cases hz : ((p : Int) == 0) with
      | true =>
        have hb : Lib.hasPrefix s.data.toList [239, 187, 191] = false := by
          rcases hnm with h | h
          · rw [hz] at h; cases h
          · exact h
        rw [hb] at HP0
        have HP := hide HP0; clear HP0 hb hnm
        have HZ := hide hz
        go_enter Tryd.func59, Tryd.ntmps59
        go_wp2_with (first | (go_at_call 71; refine HP.out.mono ?_; rintro e w' ⟨rfl, hw⟩; rw [hw]; clear hw))
        refine HN.out.mono ?_
        rintro e w1 ⟨rfl, hs1, hb1⟩
        have HS1 := hide hs1; clear hs1
        have HB1 := hide hb1; clear hb1
        have hbase1 : base ≤ w1.heap.size := Nat.le_trans hbase HB1.out.size
        clear c0 c1 f1 z1
        go_wp2_with (first | (go_at_call 43; refine (letter_any _ _).mono ?_; rintro e w' ⟨rfl, hw⟩; rw [← hw]; clear hw; rw [HLT.out]))
        refine (while_any base w1 B s p l ns 74 next1_any (fun args w => by kernel_rfl) HS1.out (Nat.le_of_lt hp) hs hbase1).mono ?_
        rintro e w2 ⟨rfl, hs2, hb2⟩
        rw [HDR.out, HK.out, HQ.out] at hs2
        have hbase2 : base ≤ w2.heap.size := Nat.le_trans hbase1 hb2.size
        obtain ⟨A, A', c, c', h1, h2, hh3, h4⟩ := hs2.ex
        have c0 : w2.cell? ⟨B, 0, none⟩ = some (.string s) := cells_at h1 0
        have c1 : w2.cell? ⟨B, 1, none⟩ = some (.int .i64 (q : Int)) := cells_at h1 1
        clear h1 h2 hh3 h4
        have HS2 := hide hs2; clear hs2
        have HB2 := hide hb2; clear hb2
        have i3 : ∀ w, (Instr.index 98 (.agg #[.int .i64 1, .int .i64 2, .int .i64 3]) (.int .i64 0)).run Tryd.prog w = .ok (.int .i64 (1 + 0)) w := fun _ => by kernel_rfl
        have hw2 : Hid (∀ W : World, Calls Tryd.prog 24 #[.string (s.extract p q)] W fun e w' => e = .returned (.int .i64 0) ∧ w' = W) := hide (fun W => hwd.out W)
        go_wp2_with fail
        go_still_tail 15, (by kernel_rfl)
        still_call (hw2.out _)
        repeat still_step
        refine wpStill_nil ?_
        rw [drew_lit]
        go_wp2_with fail
        refine (add_any base _ B s q p _ (1 + 0) l ns (hide rfl) HS2.out.drew hpq hqs hl hbase2 (by have := HTK.out; rw [HDR.out, HQK.out]; exact this)).mono ?_
        rintro e w3 ⟨rfl, hs3, hb3⟩
        rw [HDR.out, HQK.out] at hs3
        have HS3 := hide hs3; clear hs3
        have HB3 := hide hb3; clear hb3
        go_wp2_with fail
        first | go_end0 | refine bodyPost_ret (results_none rfl _ _ _) rfl ?_
        exact NextEnd.good hpc.out HS3.out (((HB1.out.trans HB2.out).drew).trans HB3.out)
      | false =>
        have HP := hide HP0; clear HP0 hnm
        have HZ := hide hz
        go_enter Tryd.func59, Tryd.ntmps59
        go_wp2_with (first | (go_at_call 71; refine HP.out.mono ?_; rintro e w' ⟨rfl, hw⟩; rw [hw]; clear hw))
        refine HN.out.mono ?_
        rintro e w1 ⟨rfl, hs1, hb1⟩
        have HS1 := hide hs1; clear hs1
        have HB1 := hide hb1; clear hb1
        have hbase1 : base ≤ w1.heap.size := Nat.le_trans hbase HB1.out.size
        clear c0 c1 f1 z1
        go_wp2_with (first | (go_at_call 43; refine (letter_any _ _).mono ?_; rintro e w' ⟨rfl, hw⟩; rw [← hw]; clear hw; rw [HLT.out]))
        refine (while_any base w1 B s p l ns 74 next1_any (fun args w => by kernel_rfl) HS1.out (Nat.le_of_lt hp) hs hbase1).mono ?_
        rintro e w2 ⟨rfl, hs2, hb2⟩
        rw [HDR.out, HK.out, HQ.out] at hs2
        have hbase2 : base ≤ w2.heap.size := Nat.le_trans hbase1 hb2.size
        obtain ⟨A, A', c, c', h1, h2, hh3, h4⟩ := hs2.ex
        have c0 : w2.cell? ⟨B, 0, none⟩ = some (.string s) := cells_at h1 0
        have c1 : w2.cell? ⟨B, 1, none⟩ = some (.int .i64 (q : Int)) := cells_at h1 1
        clear h1 h2 hh3 h4
        have HS2 := hide hs2; clear hs2
        have HB2 := hide hb2; clear hb2
        have i3 : ∀ w, (Instr.index 98 (.agg #[.int .i64 1, .int .i64 2, .int .i64 3]) (.int .i64 0)).run Tryd.prog w = .ok (.int .i64 (1 + 0)) w := fun _ => by kernel_rfl
        have hw2 : Hid (∀ W : World, Calls Tryd.prog 24 #[.string (s.extract p q)] W fun e w' => e = .returned (.int .i64 0) ∧ w' = W) := hide (fun W => hwd.out W)
        go_wp2_with fail
        go_still_tail 15, (by kernel_rfl)
        still_call (hw2.out _)
        repeat still_step
        refine wpStill_nil ?_
        rw [drew_lit]
        go_wp2_with fail
        refine (add_any base _ B s q p _ (1 + 0) l ns (hide rfl) HS2.out.drew hpq hqs hl hbase2 (by have := HTK.out; rw [HDR.out, HQK.out]; exact this)).mono ?_
        rintro e w3 ⟨rfl, hs3, hb3⟩
        rw [HDR.out, HQK.out] at hs3
        have HS3 := hide hs3; clear hs3
        have HB3 := hide hb3; clear hb3
        go_wp2_with fail
        first | go_end0 | refine bodyPost_ret (results_none rfl _ _ _) rfl ?_
        exact NextEnd.good hpc.out HS3.out (((HB1.out.trans HB2.out).drew).trans HB3.out)
  · cases hz : ((p : Int) == 0) with
      | true =>
        have hb : Lib.hasPrefix s.data.toList [239, 187, 191] = false := by
          rcases hnm with h | h
          · rw [hz] at h; cases h
          · exact h
        rw [hb] at HP0
        have HP := hide HP0; clear HP0 hb hnm
        have HZ := hide hz
        go_enter Tryd.func59, Tryd.ntmps59
        go_wp2_with (first | (go_at_call 71; refine HP.out.mono ?_; rintro e w' ⟨rfl, hw⟩; rw [hw]; clear hw))
        refine HN.out.mono ?_
        rintro e w1 ⟨rfl, hs1, hb1⟩
        have HS1 := hide hs1; clear hs1
        have HB1 := hide hb1; clear hb1
        have hbase1 : base ≤ w1.heap.size := Nat.le_trans hbase HB1.out.size
        clear c0 c1 f1 z1
        go_wp2_with (first | (go_at_call 43; refine (letter_any _ _).mono ?_; rintro e w' ⟨rfl, hw⟩; rw [← hw]; clear hw; rw [HLT.out]))
        refine (while_any base w1 B s p l ns 74 next1_any (fun args w => by kernel_rfl) HS1.out (Nat.le_of_lt hp) hs hbase1).mono ?_
        rintro e w2 ⟨rfl, hs2, hb2⟩
        rw [HDR.out, HK.out, HQ.out] at hs2
        have hbase2 : base ≤ w2.heap.size := Nat.le_trans hbase1 hb2.size
        obtain ⟨A, A', c, c', h1, h2, hh3, h4⟩ := hs2.ex
        have c0 : w2.cell? ⟨B, 0, none⟩ = some (.string s) := cells_at h1 0
        have c1 : w2.cell? ⟨B, 1, none⟩ = some (.int .i64 (q : Int)) := cells_at h1 1
        clear h1 h2 hh3 h4
        have HS2 := hide hs2; clear hs2
        have HB2 := hide hb2; clear hb2
        have i3 : ∀ w, (Instr.index 98 (.agg #[.int .i64 1, .int .i64 2, .int .i64 3]) (.int .i64 1)).run Tryd.prog w = .ok (.int .i64 (1 + 1)) w := fun _ => by kernel_rfl
        have hw2 : Hid (∀ W : World, Calls Tryd.prog 24 #[.string (s.extract p q)] W fun e w' => e = .returned (.int .i64 1) ∧ w' = W) := hide (fun W => hwd.out W)
        go_wp2_with fail
        go_still_tail 15, (by kernel_rfl)
        still_call (hw2.out _)
        repeat still_step
        refine wpStill_nil ?_
        rw [drew_lit]
        go_wp2_with fail
        refine (add_any base _ B s q p _ (1 + 1) l ns (hide rfl) HS2.out.drew hpq hqs hl hbase2 (by have := HTK.out; rw [HDR.out, HQK.out]; exact this)).mono ?_
        rintro e w3 ⟨rfl, hs3, hb3⟩
        rw [HDR.out, HQK.out] at hs3
        have HS3 := hide hs3; clear hs3
        have HB3 := hide hb3; clear hb3
        go_wp2_with fail
        first | go_end0 | refine bodyPost_ret (results_none rfl _ _ _) rfl ?_
        exact NextEnd.good hpc.out HS3.out (((HB1.out.trans HB2.out).drew).trans HB3.out)
      | false =>
        have HP := hide HP0; clear HP0 hnm
        have HZ := hide hz
        go_enter Tryd.func59, Tryd.ntmps59
        go_wp2_with (first | (go_at_call 71; refine HP.out.mono ?_; rintro e w' ⟨rfl, hw⟩; rw [hw]; clear hw))
        refine HN.out.mono ?_
        rintro e w1 ⟨rfl, hs1, hb1⟩
        have HS1 := hide hs1; clear hs1
        have HB1 := hide hb1; clear hb1
        have hbase1 : base ≤ w1.heap.size := Nat.le_trans hbase HB1.out.size
        clear c0 c1 f1 z1
        go_wp2_with (first | (go_at_call 43; refine (letter_any _ _).mono ?_; rintro e w' ⟨rfl, hw⟩; rw [← hw]; clear hw; rw [HLT.out]))
        refine (while_any base w1 B s p l ns 74 next1_any (fun args w => by kernel_rfl) HS1.out (Nat.le_of_lt hp) hs hbase1).mono ?_
        rintro e w2 ⟨rfl, hs2, hb2⟩
        rw [HDR.out, HK.out, HQ.out] at hs2
        have hbase2 : base ≤ w2.heap.size := Nat.le_trans hbase1 hb2.size
        obtain ⟨A, A', c, c', h1, h2, hh3, h4⟩ := hs2.ex
        have c0 : w2.cell? ⟨B, 0, none⟩ = some (.string s) := cells_at h1 0
        have c1 : w2.cell? ⟨B, 1, none⟩ = some (.int .i64 (q : Int)) := cells_at h1 1
        clear h1 h2 hh3 h4
        have HS2 := hide hs2; clear hs2
        have HB2 := hide hb2; clear hb2
        have i3 : ∀ w, (Instr.index 98 (.agg #[.int .i64 1, .int .i64 2, .int .i64 3]) (.int .i64 1)).run Tryd.prog w = .ok (.int .i64 (1 + 1)) w := fun _ => by kernel_rfl
        have hw2 : Hid (∀ W : World, Calls Tryd.prog 24 #[.string (s.extract p q)] W fun e w' => e = .returned (.int .i64 1) ∧ w' = W) := hide (fun W => hwd.out W)
        go_wp2_with fail
        go_still_tail 15, (by kernel_rfl)
        still_call (hw2.out _)
        repeat still_step
        refine wpStill_nil ?_
        rw [drew_lit]
        go_wp2_with fail
        refine (add_any base _ B s q p _ (1 + 1) l ns (hide rfl) HS2.out.drew hpq hqs hl hbase2 (by have := HTK.out; rw [HDR.out, HQK.out]; exact this)).mono ?_
        rintro e w3 ⟨rfl, hs3, hb3⟩
        rw [HDR.out, HQK.out] at hs3
        have HS3 := hide hs3; clear hs3
        have HB3 := hide hb3; clear hb3
        go_wp2_with fail
        first | go_end0 | refine bodyPost_ret (results_none rfl _ _ _) rfl ?_
        exact NextEnd.good hpc.out HS3.out (((HB1.out.trans HB2.out).drew).trans HB3.out)
  · cases hz : ((p : Int) == 0) with
      | true =>
        have hb : Lib.hasPrefix s.data.toList [239, 187, 191] = false := by
          rcases hnm with h | h
          · rw [hz] at h; cases h
          · exact h
        rw [hb] at HP0
        have HP := hide HP0; clear HP0 hb hnm
        have HZ := hide hz
        go_enter Tryd.func59, Tryd.ntmps59
        go_wp2_with (first | (go_at_call 71; refine HP.out.mono ?_; rintro e w' ⟨rfl, hw⟩; rw [hw]; clear hw))
        refine HN.out.mono ?_
        rintro e w1 ⟨rfl, hs1, hb1⟩
        have HS1 := hide hs1; clear hs1
        have HB1 := hide hb1; clear hb1
        have hbase1 : base ≤ w1.heap.size := Nat.le_trans hbase HB1.out.size
        clear c0 c1 f1 z1
        go_wp2_with (first | (go_at_call 43; refine (letter_any _ _).mono ?_; rintro e w' ⟨rfl, hw⟩; rw [← hw]; clear hw; rw [HLT.out]))
        refine (while_any base w1 B s p l ns 74 next1_any (fun args w => by kernel_rfl) HS1.out (Nat.le_of_lt hp) hs hbase1).mono ?_
        rintro e w2 ⟨rfl, hs2, hb2⟩
        rw [HDR.out, HK.out, HQ.out] at hs2
        have hbase2 : base ≤ w2.heap.size := Nat.le_trans hbase1 hb2.size
        obtain ⟨A, A', c, c', h1, h2, hh3, h4⟩ := hs2.ex
        have c0 : w2.cell? ⟨B, 0, none⟩ = some (.string s) := cells_at h1 0
        have c1 : w2.cell? ⟨B, 1, none⟩ = some (.int .i64 (q : Int)) := cells_at h1 1
        clear h1 h2 hh3 h4
        have HS2 := hide hs2; clear hs2
        have HB2 := hide hb2; clear hb2
        have i3 : ∀ w, (Instr.index 98 (.agg #[.int .i64 1, .int .i64 2, .int .i64 3]) (.int .i64 2)).run Tryd.prog w = .ok (.int .i64 (1 + 2)) w := fun _ => by kernel_rfl
        have hw2 : Hid (∀ W : World, Calls Tryd.prog 24 #[.string (s.extract p q)] W fun e w' => e = .returned (.int .i64 2) ∧ w' = W) := hide (fun W => hwd.out W)
        go_wp2_with fail
        go_still_tail 15, (by kernel_rfl)
        still_call (hw2.out _)
        repeat still_step
        refine wpStill_nil ?_
        rw [drew_lit]
        go_wp2_with fail
        refine (add_any base _ B s q p _ (1 + 2) l ns (hide rfl) HS2.out.drew hpq hqs hl hbase2 (by have := HTK.out; rw [HDR.out, HQK.out]; exact this)).mono ?_
        rintro e w3 ⟨rfl, hs3, hb3⟩
        rw [HDR.out, HQK.out] at hs3
        have HS3 := hide hs3; clear hs3
        have HB3 := hide hb3; clear hb3
        go_wp2_with fail
        first | go_end0 | refine bodyPost_ret (results_none rfl _ _ _) rfl ?_
        exact NextEnd.good hpc.out HS3.out (((HB1.out.trans HB2.out).drew).trans HB3.out)
      | false =>
        have HP := hide HP0; clear HP0 hnm
        have HZ := hide hz
        go_enter Tryd.func59, Tryd.ntmps59
        go_wp2_with (first | (go_at_call 71; refine HP.out.mono ?_; rintro e w' ⟨rfl, hw⟩; rw [hw]; clear hw))
        refine HN.out.mono ?_
        rintro e w1 ⟨rfl, hs1, hb1⟩
        have HS1 := hide hs1; clear hs1
        have HB1 := hide hb1; clear hb1
        have hbase1 : base ≤ w1.heap.size := Nat.le_trans hbase HB1.out.size
        clear c0 c1 f1 z1
        go_wp2_with (first | (go_at_call 43; refine (letter_any _ _).mono ?_; rintro e w' ⟨rfl, hw⟩; rw [← hw]; clear hw; rw [HLT.out]))
        refine (while_any base w1 B s p l ns 74 next1_any (fun args w => by kernel_rfl) HS1.out (Nat.le_of_lt hp) hs hbase1).mono ?_
        rintro e w2 ⟨rfl, hs2, hb2⟩
        rw [HDR.out, HK.out, HQ.out] at hs2
        have hbase2 : base ≤ w2.heap.size := Nat.le_trans hbase1 hb2.size
        obtain ⟨A, A', c, c', h1, h2, hh3, h4⟩ := hs2.ex
        have c0 : w2.cell? ⟨B, 0, none⟩ = some (.string s) := cells_at h1 0
        have c1 : w2.cell? ⟨B, 1, none⟩ = some (.int .i64 (q : Int)) := cells_at h1 1
        clear h1 h2 hh3 h4
        have HS2 := hide hs2; clear hs2
        have HB2 := hide hb2; clear hb2
        have i3 : ∀ w, (Instr.index 98 (.agg #[.int .i64 1, .int .i64 2, .int .i64 3]) (.int .i64 2)).run Tryd.prog w = .ok (.int .i64 (1 + 2)) w := fun _ => by kernel_rfl
        have hw2 : Hid (∀ W : World, Calls Tryd.prog 24 #[.string (s.extract p q)] W fun e w' => e = .returned (.int .i64 2) ∧ w' = W) := hide (fun W => hwd.out W)
        go_wp2_with fail
        go_still_tail 15, (by kernel_rfl)
        still_call (hw2.out _)
        repeat still_step
        refine wpStill_nil ?_
        rw [drew_lit]
        go_wp2_with fail
        refine (add_any base _ B s q p _ (1 + 2) l ns (hide rfl) HS2.out.drew hpq hqs hl hbase2 (by have := HTK.out; rw [HDR.out, HQK.out]; exact this)).mono ?_
        rintro e w3 ⟨rfl, hs3, hb3⟩
        rw [HDR.out, HQK.out] at hs3
        have HS3 := hide hs3; clear hs3
        have HB3 := hide hb3; clear hb3
        go_wp2_with fail
        first | go_end0 | refine bodyPost_ret (results_none rfl _ _ _) rfl ?_
        exact NextEnd.good hpc.out HS3.out (((HB1.out.trans HB2.out).drew).trans HB3.out)

set_option maxRecDepth 100000 in
set_option maxHeartbeats 12800000 in
theorem next_number (base : Nat) (w : World) (B : Nat) (s : ByteArray) (p : Nat) (l ns : List Tk) (d : UInt8) (r : Bs) (hdr : s.data.toList.drop p = d :: r)
    (h : Sc base w B s p l ns) (hM : MaxLenOk w) (h3 : 3 ≤ base) (hp : p < s.size) (hs : s.size ≤ 65536) (hl : l.length ≤ 200000) (hn : ns.length ≤ 200000) (hbase : base ≤ w.heap.size) (hnm : NoMark p s) (h10 : d ≠ 10) (h32 : d ≠ 32) (h9 : d ≠ 9) (h13 : d ≠ 13) (hno : noteLen (d :: r) = none) (hlet : letter d = false) (hfig : figure d = true) :
    Calls Tryd.prog 59 #[.pointer (some ⟨B, 0, none⟩)] w (NextEnd (stepL (d :: r) p l ns) p base w B s) := by
  have haln : alnum d = true := by unfold alnum; rw [hfig, hlet]; rfl
  have hpc : Hid (stepL (d :: r) p l ns = some (p + span (d :: r), l ++ [⟨4, (d :: r).take (span (d :: r)), p⟩], ns)) := hide (by
    unfold stepL; rw [not_nl (noMark_piece hnm hdr) h10 h32 h9 h13, hno]
    simp only [hlet, hfig, if_true, Bool.false_eq_true, if_false]
    rw [span_cons haln])
  have H0 := hide h
  have HM := hide hM; clear hM
  obtain ⟨A, A', c, c', h1, h2, hh3, h4⟩ := h.ex
  have c0 : w.cell? ⟨B, 0, none⟩ = some (.string s) := cells_at h1 0
  have c1 : w.cell? ⟨B, 1, none⟩ = some (.int .i64 (p : Int)) := cells_at h1 1
  have f1 : w.frozen? ⟨B, 1, none⟩ = false := frozen_at h1 1
  have z1 : ∀ v, (w.setCell ⟨B, 1, none⟩ v).cell? ⟨B, 1, none⟩ = some v := fun v => set_same c1 v
  clear h h1 h2 hh3 h4
  have a0 : (0 : Int) ≤ (p : Int) := by omega
  have a1 : (p : Int) < (s.size : Int) := by omega
  have a2 : (p : Int) ≤ (s.size : Int) := by omega
  have a3 : (s.size : Int) ≤ 65536 := by omega
  have a4 : (p : Int) ≤ 65536 := by omega
  have hsp := byte_at hp hdr
  have hd256 := d.toNat_lt
  obtain ⟨dd, hdd⟩ : ∃ dd : Int, (d.toNat : Int) = dd := ⟨_, rfl⟩
  have b0 : (0 : Int) ≤ dd := by omega
  have b1 : dd < 256 := by omega
  rw [hdd] at hsp
  have HP0 := Tryd.strings_HasPrefix s ⟨#[239, 187, 191]⟩ w
  rw [show (⟨#[239, 187, 191]⟩ : ByteArray).data.toList = [239, 187, 191] from rfl] at HP0
  have e10 : (dd == 10) = false := by have := byte_int 10 10 h10; rw [hdd] at this; exact this
  have e32 : (dd == 32) = false := by have := byte_int 32 32 h32; rw [hdd] at this; exact this
  have e9 : (dd == 9) = false := by have := byte_int 9 9 h9; rw [hdd] at this; exact this
  have e13 : (dd == 13) = false := by have := byte_int 13 13 h13; rw [hdd] at this; exact this
  have HN := hide (note_any base w B s p l ns H0.out HM.out h3 (by omega) hs hl hn hbase)
  rw [hdr] at HN
  unfold NoteEnd at HN
  rw [hno] at HN
  have HLT := hide (letR_byte d)
  have HFG := hide (figR_byte d)
  rw [hdd] at HLT HFG
  have HDR := hide hdr
  have HHM := hide (HM.out)
  rw [hlet] at HLT
  rw [hfig] at HFG
  have hsr : span (d :: r) ≤ (d :: r).length := span_le _
  obtain ⟨k, hk⟩ : ∃ k, span (d :: r) = k := ⟨_, rfl⟩
  rw [hk] at hpc hsr
  have hlen : (d :: r).length + p = s.size := by rw [← hdr, List.length_drop, ← size_data]; omega
  have hkp : p + k ≤ s.size := by omega
  have HK := hide hk; clear hk
  obtain ⟨q, hq⟩ : ∃ q, p + k = q := ⟨_, rfl⟩
  have hqs : q ≤ s.size := by omega
  have hpq : p ≤ q := by omega
  have hqk : q - p = k := by omega
  rw [hq] at hpc
  clear hkp
  have HQ := hide hq; clear hq
  have HQK := hide hqk; clear hqk
  clear hlen hsr
  cases hz : ((p : Int) == 0) with
  | true =>
    have hb : Lib.hasPrefix s.data.toList [239, 187, 191] = false := by
      rcases hnm with h | h
      · rw [hz] at h; cases h
      · exact h
    rw [hb] at HP0
    have HP := hide HP0; clear HP0 hb hnm
    have HZ := hide hz
    go_enter Tryd.func59, Tryd.ntmps59
    go_wp2_with (first | (go_at_call 71; refine HP.out.mono ?_; rintro e w' ⟨rfl, hw⟩; rw [hw]; clear hw))
    refine HN.out.mono ?_
    rintro e w1 ⟨rfl, hs1, hb1⟩
    have HS1 := hide hs1; clear hs1
    have HB1 := hide hb1; clear hb1
    have hbase1 : base ≤ w1.heap.size := Nat.le_trans hbase HB1.out.size
    clear c0 c1 f1 z1
    go_wp2_with (first | (go_at_call 43; refine (letter_any _ _).mono ?_; rintro e w' ⟨rfl, hw⟩; rw [← hw]; clear hw; rw [HLT.out]) | (go_at_call 44; refine (figure_any _ _).mono ?_; rintro e w' ⟨rfl, hw⟩; rw [← hw]; clear hw; rw [HFG.out]))
    refine (while_any base w1 B s p l ns 76 next2_any (fun args w => by kernel_rfl) HS1.out (Nat.le_of_lt hp) hs hbase1).mono ?_
    rintro e w2 ⟨rfl, hs2, hb2⟩
    rw [HDR.out, HK.out, HQ.out] at hs2
    have hbase2 : base ≤ w2.heap.size := Nat.le_trans hbase1 hb2.size
    have HS2 := hide hs2; clear hs2
    have HB2 := hide hb2; clear hb2
    go_wp2_with fail
    refine (add_any base _ B s q p _ 4 l ns (hide rfl) HS2.out hpq hqs hl hbase2 (num_ok _ _)).mono ?_
    rintro e w3 ⟨rfl, hs3, hb3⟩
    rw [HDR.out, HQK.out] at hs3
    have HS3 := hide hs3; clear hs3
    have HB3 := hide hb3; clear hb3
    go_wp2_with fail
    first | go_end0 | refine bodyPost_ret (results_none rfl _ _ _) rfl ?_
    exact NextEnd.good hpc.out HS3.out ((HB1.out.trans HB2.out).trans HB3.out)
  | false =>
    have HP := hide HP0; clear HP0 hnm
    have HZ := hide hz
    go_enter Tryd.func59, Tryd.ntmps59
    go_wp2_with (first | (go_at_call 71; refine HP.out.mono ?_; rintro e w' ⟨rfl, hw⟩; rw [hw]; clear hw))
    refine HN.out.mono ?_
    rintro e w1 ⟨rfl, hs1, hb1⟩
    have HS1 := hide hs1; clear hs1
    have HB1 := hide hb1; clear hb1
    have hbase1 : base ≤ w1.heap.size := Nat.le_trans hbase HB1.out.size
    clear c0 c1 f1 z1
    go_wp2_with (first | (go_at_call 43; refine (letter_any _ _).mono ?_; rintro e w' ⟨rfl, hw⟩; rw [← hw]; clear hw; rw [HLT.out]) | (go_at_call 44; refine (figure_any _ _).mono ?_; rintro e w' ⟨rfl, hw⟩; rw [← hw]; clear hw; rw [HFG.out]))
    refine (while_any base w1 B s p l ns 76 next2_any (fun args w => by kernel_rfl) HS1.out (Nat.le_of_lt hp) hs hbase1).mono ?_
    rintro e w2 ⟨rfl, hs2, hb2⟩
    rw [HDR.out, HK.out, HQ.out] at hs2
    have hbase2 : base ≤ w2.heap.size := Nat.le_trans hbase1 hb2.size
    have HS2 := hide hs2; clear hs2
    have HB2 := hide hb2; clear hb2
    go_wp2_with fail
    refine (add_any base _ B s q p _ 4 l ns (hide rfl) HS2.out hpq hqs hl hbase2 (num_ok _ _)).mono ?_
    rintro e w3 ⟨rfl, hs3, hb3⟩
    rw [HDR.out, HQK.out] at hs3
    have HS3 := hide hs3; clear hs3
    have HB3 := hide hb3; clear hb3
    go_wp2_with fail
    first | go_end0 | refine bodyPost_ret (results_none rfl _ _ _) rfl ?_
    exact NextEnd.good hpc.out HS3.out ((HB1.out.trans HB2.out).trans HB3.out)

set_option maxRecDepth 100000 in
set_option maxHeartbeats 12800000 in
theorem next_dq (base : Nat) (w : World) (B : Nat) (s : ByteArray) (p : Nat) (l ns : List Tk) (d : UInt8) (r : Bs) (hdr : s.data.toList.drop p = d :: r)
    (h : Sc base w B s p l ns) (hM : MaxLenOk w) (h3 : 3 ≤ base) (hp : p < s.size) (hs : s.size ≤ 65536) (hl : l.length ≤ 200000) (hn : ns.length ≤ 200000) (hbase : base ≤ w.heap.size) (hnm : NoMark p s) (h10 : d ≠ 10) (h32 : d ≠ 32) (h9 : d ≠ 9) (h13 : d ≠ 13) (hno : noteLen (d :: r) = none) (hlet : letter d = false) (hfig : figure d = false) (hq : d = 34) :
    Calls Tryd.prog 59 #[.pointer (some ⟨B, 0, none⟩)] w (NextEnd (stepL (d :: r) p l ns) p base w B s) := by
  have hpc : stepL (d :: r) p l ns = (quotedLen d false r).map (fun n => (p + (n + 1), l ++ [⟨5, (d :: r).take (n + 1), p⟩], ns)) := by
    unfold stepL; rw [not_nl (noMark_piece hnm hdr) h10 h32 h9 h13, hno]
    simp only [hlet, hfig, Bool.false_eq_true, if_false]
    rw [if_pos (by rw [hq]; decide)]
    cases quotedLen d false r <;> rfl
  have HPC := hide hpc; clear hpc
  have H0 := hide h
  have HM := hide hM; clear hM
  obtain ⟨A, A', c, c', h1, h2, hh3, h4⟩ := h.ex
  have c0 : w.cell? ⟨B, 0, none⟩ = some (.string s) := cells_at h1 0
  have c1 : w.cell? ⟨B, 1, none⟩ = some (.int .i64 (p : Int)) := cells_at h1 1
  have f1 : w.frozen? ⟨B, 1, none⟩ = false := frozen_at h1 1
  have z1 : ∀ v, (w.setCell ⟨B, 1, none⟩ v).cell? ⟨B, 1, none⟩ = some v := fun v => set_same c1 v
  clear h h1 h2 hh3 h4
  have a0 : (0 : Int) ≤ (p : Int) := by omega
  have a1 : (p : Int) < (s.size : Int) := by omega
  have a2 : (p : Int) ≤ (s.size : Int) := by omega
  have a3 : (s.size : Int) ≤ 65536 := by omega
  have a4 : (p : Int) ≤ 65536 := by omega
  have hsp := byte_at hp hdr
  have hd256 := d.toNat_lt
  obtain ⟨dd, hdd⟩ : ∃ dd : Int, (d.toNat : Int) = dd := ⟨_, rfl⟩
  have b0 : (0 : Int) ≤ dd := by omega
  have b1 : dd < 256 := by omega
  rw [hdd] at hsp
  have HP0 := Tryd.strings_HasPrefix s ⟨#[239, 187, 191]⟩ w
  rw [show (⟨#[239, 187, 191]⟩ : ByteArray).data.toList = [239, 187, 191] from rfl] at HP0
  have e10 : (dd == 10) = false := by have := byte_int 10 10 h10; rw [hdd] at this; exact this
  have e32 : (dd == 32) = false := by have := byte_int 32 32 h32; rw [hdd] at this; exact this
  have e9 : (dd == 9) = false := by have := byte_int 9 9 h9; rw [hdd] at this; exact this
  have e13 : (dd == 13) = false := by have := byte_int 13 13 h13; rw [hdd] at this; exact this
  have HN := hide (note_any base w B s p l ns H0.out HM.out h3 (by omega) hs hl hn hbase)
  rw [hdr] at HN
  unfold NoteEnd at HN
  rw [hno] at HN
  have HLT := hide (letR_byte d)
  have HFG := hide (figR_byte d)
  rw [hdd] at HLT HFG
  have HDR := hide hdr
  have HHM := hide (HM.out)
  rw [hlet] at HLT
  rw [hfig] at HFG
  obtain rfl : dd = 34 := by rw [← hdd, hq]; rfl
  have hd1 : s.data.toList.drop (p + 1) = r := by rw [← List.drop_drop, hdr]; rfl
  have hqd : s.data.toList.drop p = d :: s.data.toList.drop (p + 1) := by rw [hd1, hdr]
  have HQD := hide hqd; clear hqd
  have HD1 := hide hd1; clear hd1
  have HQQ := hide hq; clear hq
  cases hz : ((p : Int) == 0) with
  | true =>
    have hb : Lib.hasPrefix s.data.toList [239, 187, 191] = false := by
      rcases hnm with h | h
      · rw [hz] at h; cases h
      · exact h
    rw [hb] at HP0
    have HP := hide HP0; clear HP0 hb hnm
    have HZ := hide hz
    go_enter Tryd.func59, Tryd.ntmps59
    go_wp2_with (first | (go_at_call 71; refine HP.out.mono ?_; rintro e w' ⟨rfl, hw⟩; rw [hw]; clear hw))
    refine HN.out.mono ?_
    rintro e w1 ⟨rfl, hs1, hb1⟩
    have HS1 := hide hs1; clear hs1
    have HB1 := hide hb1; clear hb1
    have hbase1 : base ≤ w1.heap.size := Nat.le_trans hbase HB1.out.size
    clear c0 c1 f1 z1
    go_wp2_with (first | (go_at_call 43; refine (letter_any _ _).mono ?_; rintro e w' ⟨rfl, hw⟩; rw [← hw]; clear hw; rw [HLT.out]) | (go_at_call 44; refine (figure_any _ _).mono ?_; rintro e w' ⟨rfl, hw⟩; rw [← hw]; clear hw; rw [HFG.out]))
    refine (quoted_any base w1 B s p l ns d (by have := HQQ.out; simp [this]) HQD.out HS1.out hp hs hl hbase1).mono ?_
    rw [HD1.out, HDR.out]
    cases hql : quotedLen d false r with
    | none =>
      rintro e w2 ⟨rfl, hb2⟩
      exact ⟨rfl, NextEnd.bad (by rw [HPC.out, hql]; rfl) (HB1.out.trans hb2)⟩
    | some n =>
      rintro e w2 ⟨rfl, hs2, hb2⟩
      have HST : Hid (stepL (d :: r) p l ns = some (p + (n + 1), l ++ [⟨5, (d :: r).take (n + 1), p⟩], ns)) := hide (by rw [HPC.out, hql]; rfl)
      clear hql
      have HS2 := hide hs2; clear hs2
      have HB2 := hide hb2; clear hb2
      go_wp2_with fail
      first | go_end0 | refine bodyPost_ret (results_none rfl _ _ _) rfl ?_
      exact NextEnd.good HST.out HS2.out (HB1.out.trans HB2.out)
  | false =>
    have HP := hide HP0; clear HP0 hnm
    have HZ := hide hz
    go_enter Tryd.func59, Tryd.ntmps59
    go_wp2_with (first | (go_at_call 71; refine HP.out.mono ?_; rintro e w' ⟨rfl, hw⟩; rw [hw]; clear hw))
    refine HN.out.mono ?_
    rintro e w1 ⟨rfl, hs1, hb1⟩
    have HS1 := hide hs1; clear hs1
    have HB1 := hide hb1; clear hb1
    have hbase1 : base ≤ w1.heap.size := Nat.le_trans hbase HB1.out.size
    clear c0 c1 f1 z1
    go_wp2_with (first | (go_at_call 43; refine (letter_any _ _).mono ?_; rintro e w' ⟨rfl, hw⟩; rw [← hw]; clear hw; rw [HLT.out]) | (go_at_call 44; refine (figure_any _ _).mono ?_; rintro e w' ⟨rfl, hw⟩; rw [← hw]; clear hw; rw [HFG.out]))
    refine (quoted_any base w1 B s p l ns d (by have := HQQ.out; simp [this]) HQD.out HS1.out hp hs hl hbase1).mono ?_
    rw [HD1.out, HDR.out]
    cases hql : quotedLen d false r with
    | none =>
      rintro e w2 ⟨rfl, hb2⟩
      exact ⟨rfl, NextEnd.bad (by rw [HPC.out, hql]; rfl) (HB1.out.trans hb2)⟩
    | some n =>
      rintro e w2 ⟨rfl, hs2, hb2⟩
      have HST : Hid (stepL (d :: r) p l ns = some (p + (n + 1), l ++ [⟨5, (d :: r).take (n + 1), p⟩], ns)) := hide (by rw [HPC.out, hql]; rfl)
      clear hql
      have HS2 := hide hs2; clear hs2
      have HB2 := hide hb2; clear hb2
      go_wp2_with fail
      first | go_end0 | refine bodyPost_ret (results_none rfl _ _ _) rfl ?_
      exact NextEnd.good HST.out HS2.out (HB1.out.trans HB2.out)

set_option maxRecDepth 100000 in
set_option maxHeartbeats 12800000 in
theorem next_bq (base : Nat) (w : World) (B : Nat) (s : ByteArray) (p : Nat) (l ns : List Tk) (d : UInt8) (r : Bs) (hdr : s.data.toList.drop p = d :: r)
    (h : Sc base w B s p l ns) (hM : MaxLenOk w) (h3 : 3 ≤ base) (hp : p < s.size) (hs : s.size ≤ 65536) (hl : l.length ≤ 200000) (hn : ns.length ≤ 200000) (hbase : base ≤ w.heap.size) (hnm : NoMark p s) (h10 : d ≠ 10) (h32 : d ≠ 32) (h9 : d ≠ 9) (h13 : d ≠ 13) (hno : noteLen (d :: r) = none) (hlet : letter d = false) (hfig : figure d = false) (hq : d = 96) :
    Calls Tryd.prog 59 #[.pointer (some ⟨B, 0, none⟩)] w (NextEnd (stepL (d :: r) p l ns) p base w B s) := by
  have hpc : stepL (d :: r) p l ns = (quotedLen d false r).map (fun n => (p + (n + 1), l ++ [⟨5, (d :: r).take (n + 1), p⟩], ns)) := by
    unfold stepL; rw [not_nl (noMark_piece hnm hdr) h10 h32 h9 h13, hno]
    simp only [hlet, hfig, Bool.false_eq_true, if_false]
    rw [if_pos (by rw [hq]; decide)]
    cases quotedLen d false r <;> rfl
  have HPC := hide hpc; clear hpc
  have H0 := hide h
  have HM := hide hM; clear hM
  obtain ⟨A, A', c, c', h1, h2, hh3, h4⟩ := h.ex
  have c0 : w.cell? ⟨B, 0, none⟩ = some (.string s) := cells_at h1 0
  have c1 : w.cell? ⟨B, 1, none⟩ = some (.int .i64 (p : Int)) := cells_at h1 1
  have f1 : w.frozen? ⟨B, 1, none⟩ = false := frozen_at h1 1
  have z1 : ∀ v, (w.setCell ⟨B, 1, none⟩ v).cell? ⟨B, 1, none⟩ = some v := fun v => set_same c1 v
  clear h h1 h2 hh3 h4
  have a0 : (0 : Int) ≤ (p : Int) := by omega
  have a1 : (p : Int) < (s.size : Int) := by omega
  have a2 : (p : Int) ≤ (s.size : Int) := by omega
  have a3 : (s.size : Int) ≤ 65536 := by omega
  have a4 : (p : Int) ≤ 65536 := by omega
  have hsp := byte_at hp hdr
  have hd256 := d.toNat_lt
  obtain ⟨dd, hdd⟩ : ∃ dd : Int, (d.toNat : Int) = dd := ⟨_, rfl⟩
  have b0 : (0 : Int) ≤ dd := by omega
  have b1 : dd < 256 := by omega
  rw [hdd] at hsp
  have HP0 := Tryd.strings_HasPrefix s ⟨#[239, 187, 191]⟩ w
  rw [show (⟨#[239, 187, 191]⟩ : ByteArray).data.toList = [239, 187, 191] from rfl] at HP0
  have e10 : (dd == 10) = false := by have := byte_int 10 10 h10; rw [hdd] at this; exact this
  have e32 : (dd == 32) = false := by have := byte_int 32 32 h32; rw [hdd] at this; exact this
  have e9 : (dd == 9) = false := by have := byte_int 9 9 h9; rw [hdd] at this; exact this
  have e13 : (dd == 13) = false := by have := byte_int 13 13 h13; rw [hdd] at this; exact this
  have HN := hide (note_any base w B s p l ns H0.out HM.out h3 (by omega) hs hl hn hbase)
  rw [hdr] at HN
  unfold NoteEnd at HN
  rw [hno] at HN
  have HLT := hide (letR_byte d)
  have HFG := hide (figR_byte d)
  rw [hdd] at HLT HFG
  have HDR := hide hdr
  have HHM := hide (HM.out)
  rw [hlet] at HLT
  rw [hfig] at HFG
  obtain rfl : dd = 96 := by rw [← hdd, hq]; rfl
  have hd1 : s.data.toList.drop (p + 1) = r := by rw [← List.drop_drop, hdr]; rfl
  have hqd : s.data.toList.drop p = d :: s.data.toList.drop (p + 1) := by rw [hd1, hdr]
  have HQD := hide hqd; clear hqd
  have HD1 := hide hd1; clear hd1
  have HQQ := hide hq; clear hq
  cases hz : ((p : Int) == 0) with
  | true =>
    have hb : Lib.hasPrefix s.data.toList [239, 187, 191] = false := by
      rcases hnm with h | h
      · rw [hz] at h; cases h
      · exact h
    rw [hb] at HP0
    have HP := hide HP0; clear HP0 hb hnm
    have HZ := hide hz
    go_enter Tryd.func59, Tryd.ntmps59
    go_wp2_with (first | (go_at_call 71; refine HP.out.mono ?_; rintro e w' ⟨rfl, hw⟩; rw [hw]; clear hw))
    refine HN.out.mono ?_
    rintro e w1 ⟨rfl, hs1, hb1⟩
    have HS1 := hide hs1; clear hs1
    have HB1 := hide hb1; clear hb1
    have hbase1 : base ≤ w1.heap.size := Nat.le_trans hbase HB1.out.size
    clear c0 c1 f1 z1
    go_wp2_with (first | (go_at_call 43; refine (letter_any _ _).mono ?_; rintro e w' ⟨rfl, hw⟩; rw [← hw]; clear hw; rw [HLT.out]) | (go_at_call 44; refine (figure_any _ _).mono ?_; rintro e w' ⟨rfl, hw⟩; rw [← hw]; clear hw; rw [HFG.out]))
    refine (quoted_any base w1 B s p l ns d (by have := HQQ.out; simp [this]) HQD.out HS1.out hp hs hl hbase1).mono ?_
    rw [HD1.out, HDR.out]
    cases hql : quotedLen d false r with
    | none =>
      rintro e w2 ⟨rfl, hb2⟩
      exact ⟨rfl, NextEnd.bad (by rw [HPC.out, hql]; rfl) (HB1.out.trans hb2)⟩
    | some n =>
      rintro e w2 ⟨rfl, hs2, hb2⟩
      have HST : Hid (stepL (d :: r) p l ns = some (p + (n + 1), l ++ [⟨5, (d :: r).take (n + 1), p⟩], ns)) := hide (by rw [HPC.out, hql]; rfl)
      clear hql
      have HS2 := hide hs2; clear hs2
      have HB2 := hide hb2; clear hb2
      go_wp2_with fail
      first | go_end0 | refine bodyPost_ret (results_none rfl _ _ _) rfl ?_
      exact NextEnd.good HST.out HS2.out (HB1.out.trans HB2.out)
  | false =>
    have HP := hide HP0; clear HP0 hnm
    have HZ := hide hz
    go_enter Tryd.func59, Tryd.ntmps59
    go_wp2_with (first | (go_at_call 71; refine HP.out.mono ?_; rintro e w' ⟨rfl, hw⟩; rw [hw]; clear hw))
    refine HN.out.mono ?_
    rintro e w1 ⟨rfl, hs1, hb1⟩
    have HS1 := hide hs1; clear hs1
    have HB1 := hide hb1; clear hb1
    have hbase1 : base ≤ w1.heap.size := Nat.le_trans hbase HB1.out.size
    clear c0 c1 f1 z1
    go_wp2_with (first | (go_at_call 43; refine (letter_any _ _).mono ?_; rintro e w' ⟨rfl, hw⟩; rw [← hw]; clear hw; rw [HLT.out]) | (go_at_call 44; refine (figure_any _ _).mono ?_; rintro e w' ⟨rfl, hw⟩; rw [← hw]; clear hw; rw [HFG.out]))
    refine (quoted_any base w1 B s p l ns d (by have := HQQ.out; simp [this]) HQD.out HS1.out hp hs hl hbase1).mono ?_
    rw [HD1.out, HDR.out]
    cases hql : quotedLen d false r with
    | none =>
      rintro e w2 ⟨rfl, hb2⟩
      exact ⟨rfl, NextEnd.bad (by rw [HPC.out, hql]; rfl) (HB1.out.trans hb2)⟩
    | some n =>
      rintro e w2 ⟨rfl, hs2, hb2⟩
      have HST : Hid (stepL (d :: r) p l ns = some (p + (n + 1), l ++ [⟨5, (d :: r).take (n + 1), p⟩], ns)) := hide (by rw [HPC.out, hql]; rfl)
      clear hql
      have HS2 := hide hs2; clear hs2
      have HB2 := hide hb2; clear hb2
      go_wp2_with fail
      first | go_end0 | refine bodyPost_ret (results_none rfl _ _ _) rfl ?_
      exact NextEnd.good HST.out HS2.out (HB1.out.trans HB2.out)

set_option maxRecDepth 100000 in
set_option maxHeartbeats 12800000 in
theorem next_sign (base : Nat) (w : World) (B : Nat) (s : ByteArray) (p : Nat) (l ns : List Tk) (d : UInt8) (r : Bs) (hdr : s.data.toList.drop p = d :: r)
    (h : Sc base w B s p l ns) (hM : MaxLenOk w) (h3 : 3 ≤ base) (hp : p < s.size) (hs : s.size ≤ 65536) (hl : l.length ≤ 200000) (hn : ns.length ≤ 200000) (hbase : base ≤ w.heap.size) (hnm : NoMark p s) (h10 : d ≠ 10) (h32 : d ≠ 32) (h9 : d ≠ 9) (h13 : d ≠ 13) (hno : noteLen (d :: r) = none) (hlet : letter d = false) (hfig : figure d = false) (h34 : d ≠ 34) (h96 : d ≠ 96) :
    Calls Tryd.prog 59 #[.pointer (some ⟨B, 0, none⟩)] w (NextEnd (stepL (d :: r) p l ns) p base w B s) := by
  have hpc : stepL (d :: r) p l ns = (signLen (d :: r)).map (fun n => (p + n, l ++ [⟨6, (d :: r).take n, p⟩], ns)) := by
    unfold stepL; rw [not_nl (noMark_piece hnm hdr) h10 h32 h9 h13, hno]
    simp only [hlet, hfig, Bool.false_eq_true, if_false]
    rw [if_neg (by simp [h34, h96])]
    cases signLen (d :: r) <;> rfl
  have HPC := hide hpc; clear hpc
  have H0 := hide h
  have HM := hide hM; clear hM
  obtain ⟨A, A', c, c', h1, h2, hh3, h4⟩ := h.ex
  have c0 : w.cell? ⟨B, 0, none⟩ = some (.string s) := cells_at h1 0
  have c1 : w.cell? ⟨B, 1, none⟩ = some (.int .i64 (p : Int)) := cells_at h1 1
  have f1 : w.frozen? ⟨B, 1, none⟩ = false := frozen_at h1 1
  have z1 : ∀ v, (w.setCell ⟨B, 1, none⟩ v).cell? ⟨B, 1, none⟩ = some v := fun v => set_same c1 v
  clear h h1 h2 hh3 h4
  have a0 : (0 : Int) ≤ (p : Int) := by omega
  have a1 : (p : Int) < (s.size : Int) := by omega
  have a2 : (p : Int) ≤ (s.size : Int) := by omega
  have a3 : (s.size : Int) ≤ 65536 := by omega
  have a4 : (p : Int) ≤ 65536 := by omega
  have hsp := byte_at hp hdr
  have hd256 := d.toNat_lt
  obtain ⟨dd, hdd⟩ : ∃ dd : Int, (d.toNat : Int) = dd := ⟨_, rfl⟩
  have b0 : (0 : Int) ≤ dd := by omega
  have b1 : dd < 256 := by omega
  rw [hdd] at hsp
  have HP0 := Tryd.strings_HasPrefix s ⟨#[239, 187, 191]⟩ w
  rw [show (⟨#[239, 187, 191]⟩ : ByteArray).data.toList = [239, 187, 191] from rfl] at HP0
  have e10 : (dd == 10) = false := by have := byte_int 10 10 h10; rw [hdd] at this; exact this
  have e32 : (dd == 32) = false := by have := byte_int 32 32 h32; rw [hdd] at this; exact this
  have e9 : (dd == 9) = false := by have := byte_int 9 9 h9; rw [hdd] at this; exact this
  have e13 : (dd == 13) = false := by have := byte_int 13 13 h13; rw [hdd] at this; exact this
  have HN := hide (note_any base w B s p l ns H0.out HM.out h3 (by omega) hs hl hn hbase)
  rw [hdr] at HN
  unfold NoteEnd at HN
  rw [hno] at HN
  have HLT := hide (letR_byte d)
  have HFG := hide (figR_byte d)
  rw [hdd] at HLT HFG
  have HDR := hide hdr
  have HHM := hide (HM.out)
  rw [hlet] at HLT
  rw [hfig] at HFG
  have e34 : (dd == 34) = false := by have := byte_int 34 34 h34; rw [hdd] at this; exact this
  have e96 : (dd == 96) = false := by have := byte_int 96 96 h96; rw [hdd] at this; exact this
  cases hz : ((p : Int) == 0) with
  | true =>
    have hb : Lib.hasPrefix s.data.toList [239, 187, 191] = false := by
      rcases hnm with h | h
      · rw [hz] at h; cases h
      · exact h
    rw [hb] at HP0
    have HP := hide HP0; clear HP0 hb hnm
    have HZ := hide hz
    go_enter Tryd.func59, Tryd.ntmps59
    go_wp2_with (first | (go_at_call 71; refine HP.out.mono ?_; rintro e w' ⟨rfl, hw⟩; rw [hw]; clear hw))
    refine HN.out.mono ?_
    rintro e w1 ⟨rfl, hs1, hb1⟩
    have HS1 := hide hs1; clear hs1
    have HB1 := hide hb1; clear hb1
    have hbase1 : base ≤ w1.heap.size := Nat.le_trans hbase HB1.out.size
    clear c0 c1 f1 z1
    have HM1 := hide (HHM.out.below HB1.out h3)
    go_wp2_with (first | (go_at_call 43; refine (letter_any _ _).mono ?_; rintro e w' ⟨rfl, hw⟩; rw [← hw]; clear hw; rw [HLT.out]) | (go_at_call 44; refine (figure_any _ _).mono ?_; rintro e w' ⟨rfl, hw⟩; rw [← hw]; clear hw; rw [HFG.out]))
    refine (sign_any base w1 B s p l ns HS1.out HM1.out h3 hp hs hl hbase1).mono ?_
    rw [HDR.out]
    cases hql : signLen (d :: r) with
    | none =>
      rintro e w2 ⟨rfl, hb2⟩
      exact ⟨rfl, NextEnd.bad (by rw [HPC.out, hql]; rfl) (HB1.out.trans hb2)⟩
    | some n =>
      rintro e w2 ⟨rfl, hs2, hb2⟩
      have HST : Hid (stepL (d :: r) p l ns = some (p + n, l ++ [⟨6, (d :: r).take n, p⟩], ns)) := hide (by rw [HPC.out, hql]; rfl)
      clear hql
      have HS2 := hide hs2; clear hs2
      have HB2 := hide hb2; clear hb2
      go_wp2_with fail
      first | go_end0 | refine bodyPost_ret (results_none rfl _ _ _) rfl ?_
      exact NextEnd.good HST.out HS2.out (HB1.out.trans HB2.out)
  | false =>
    have HP := hide HP0; clear HP0 hnm
    have HZ := hide hz
    go_enter Tryd.func59, Tryd.ntmps59
    go_wp2_with (first | (go_at_call 71; refine HP.out.mono ?_; rintro e w' ⟨rfl, hw⟩; rw [hw]; clear hw))
    refine HN.out.mono ?_
    rintro e w1 ⟨rfl, hs1, hb1⟩
    have HS1 := hide hs1; clear hs1
    have HB1 := hide hb1; clear hb1
    have hbase1 : base ≤ w1.heap.size := Nat.le_trans hbase HB1.out.size
    clear c0 c1 f1 z1
    have HM1 := hide (HHM.out.below HB1.out h3)
    go_wp2_with (first | (go_at_call 43; refine (letter_any _ _).mono ?_; rintro e w' ⟨rfl, hw⟩; rw [← hw]; clear hw; rw [HLT.out]) | (go_at_call 44; refine (figure_any _ _).mono ?_; rintro e w' ⟨rfl, hw⟩; rw [← hw]; clear hw; rw [HFG.out]))
    refine (sign_any base w1 B s p l ns HS1.out HM1.out h3 hp hs hl hbase1).mono ?_
    rw [HDR.out]
    cases hql : signLen (d :: r) with
    | none =>
      rintro e w2 ⟨rfl, hb2⟩
      exact ⟨rfl, NextEnd.bad (by rw [HPC.out, hql]; rfl) (HB1.out.trans hb2)⟩
    | some n =>
      rintro e w2 ⟨rfl, hs2, hb2⟩
      have HST : Hid (stepL (d :: r) p l ns = some (p + n, l ++ [⟨6, (d :: r).take n, p⟩], ns)) := hide (by rw [HPC.out, hql]; rfl)
      clear hql
      have HS2 := hide hs2; clear hs2
      have HB2 := hide hb2; clear hb2
      go_wp2_with fail
      first | go_end0 | refine bodyPost_ret (results_none rfl _ _ _) rfl ?_
      exact NextEnd.good HST.out HS2.out (HB1.out.trans HB2.out)

/-- 'next' at every place of a text. -/
theorem next_any (base : Nat) (w : World) (B : Nat) (s : ByteArray) (p : Nat) (l ns : List Tk) (d : UInt8) (r : Bs) (hdr : s.data.toList.drop p = d :: r)
    (h : Sc base w B s p l ns) (hM : MaxLenOk w) (h3 : 3 ≤ base) (hp : p < s.size) (hs : s.size ≤ 65536) (hl : l.length ≤ 200000) (hn : ns.length ≤ 200000) (hbase : base ≤ w.heap.size) :
    Calls Tryd.prog 59 #[.pointer (some ⟨B, 0, none⟩)] w (NextEnd (stepL (d :: r) p l ns) p base w B s) := by
  by_cases hnm : NoMark p s
  · by_cases h10 : d = 10
    · exact next_nl base w B s p l ns d r hdr h hM h3 hp hs hl hn hbase hnm h10
    by_cases h32 : d = 32
    · exact next_sp base w B s p l ns d r hdr h hM h3 hp hs hl hn hbase hnm h32
    by_cases h9 : d = 9
    · exact next_tab base w B s p l ns d r hdr h hM h3 hp hs hl hn hbase hnm h9
    by_cases h13 : d = 13
    · exact next_cr base w B s p l ns d r hdr h hM h3 hp hs hl hn hbase hnm h13
    cases hno : noteLen (d :: r) with
    | some o =>
      cases o with
      | some k => exact next_note base w B s p l ns d r hdr h hM h3 hp hs hl hn hbase hnm h10 h32 h9 h13 k hno
      | none => exact next_open base w B s p l ns d r hdr h hM h3 hp hs hl hn hbase hnm h10 h32 h9 h13 hno
    | none =>
      cases hlet : letter d with
      | true => exact next_word base w B s p l ns d r hdr h hM h3 hp hs hl hn hbase hnm h10 h32 h9 h13 hno hlet
      | false =>
        cases hfig : figure d with
        | true => exact next_number base w B s p l ns d r hdr h hM h3 hp hs hl hn hbase hnm h10 h32 h9 h13 hno hlet hfig
        | false =>
          by_cases h34 : d = 34
          · exact next_dq base w B s p l ns d r hdr h hM h3 hp hs hl hn hbase hnm h10 h32 h9 h13 hno hlet hfig h34
          by_cases h96 : d = 96
          · exact next_bq base w B s p l ns d r hdr h hM h3 hp hs hl hn hbase hnm h10 h32 h9 h13 hno hlet hfig h96
          exact next_sign base w B s p l ns d r hdr h hM h3 hp hs hl hn hbase hnm h10 h32 h9 h13 hno hlet hfig h34 h96
  · unfold NoMark at hnm
    simp only [not_or, Bool.not_eq_false] at hnm
    have hz : p = 0 := by have := hnm.1; rw [beq_iff_eq] at this; omega
    exact next_mark base w B s p l ns d r hdr h hM h3 hp hs hl hn hbase hz hnm.2
end Go.Proofs.YtehflgllfkkfoaaDoor
