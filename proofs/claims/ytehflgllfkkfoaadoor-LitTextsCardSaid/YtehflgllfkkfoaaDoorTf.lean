/- The scanner's 'while'. -/
import Derived.Test.YtehflgllfkkfoaaDoorTe
import Derived.StillTailTactics
set_option linter.unusedVariables false
namespace Go.Proofs.YtehflgllfkkfoaaDoor
open Go.RowKit Go.Proofs.Dm

theorem drew_lit (w : World) : ({ heap := w.heap, tape := w.tape, drawn := w.drawn + 1, os := w.os, output := w.output } : World) = w.drew := rfl
theorem iter_cell {w : World} {T : ByteArray} {a : Addr} {v : Value} (h : w.cell? a = some v) (k : Nat) : (w.iter T k).cell? a = some v := by
  have hb := World.block_lt_of_cell? w a h
  exact (World.cell?_of_block (Below.heap_alloc w (.stringIter T k) a.block hb)).trans h
theorem iter_frozen {w : World} {T : ByteArray} {a : Addr} (hb : a.block < w.heap.size) (k : Nat) : (w.iter T k).frozen? a = w.frozen? a :=
  World.frozen?_of_block (Below.heap_alloc w (.stringIter T k) a.block hb)
theorem iter_below (w : World) (T : ByteArray) (k : Nat) : Below w.heap.size w (w.iter T k) := (Below.refl _ w).alloc (Nat.le_refl _) _

theorem span_all (l : Bs) (k : Nat) (hk : k ≤ l.length) (h : ∀ c ∈ l.take k, alnum c = true) : k ≤ span l ∧ (k = l.length → span l = k) ∧ (∀ c r, l.drop k = c :: r → alnum c = false → span l = k) := by
  induction l generalizing k with
  | nil =>
    have : k = 0 := by simpa using hk
    subst this
    exact ⟨Nat.zero_le _, fun _ => rfl, fun c r h => by simp at h⟩
  | cons d l ih =>
    cases k with
    | zero =>
      refine ⟨Nat.zero_le _, fun h => by simp at h, fun c r h hc => ?_⟩
      rw [List.drop_zero] at h
      injection h with h _
      subst h
      unfold span
      rw [List.takeWhile_cons, if_neg (by simp [hc])]; rfl
    | succ k =>
      have hd : alnum d = true := h d (by simp)
      have := ih k (by simpa using hk) (fun c hc => h c (by simp [hc]))
      have e : span (d :: l) = span l + 1 := by unfold span; rw [List.takeWhile_cons, if_pos hd]; rfl
      rw [e]
      refine ⟨by omega, fun h => by have := this.2.1 (by simpa using h); omega, fun c r h hc => by have := this.2.2 c r (by simpa using h) hc; omega⟩

set_option maxRecDepth 100000 in
set_option maxHeartbeats 3200000 in
theorem while_any (base : Nat) (w : World) (B : Nat) (s : ByteArray) (p : Nat) (l ns : List Tk) (g : Nat) (hg : ∀ (c : Int) (w : World), Calls Tryd.prog g #[.int .i32 c] w fun e w' => e = .returned (.bool (alnR c)) ∧ w = w')
    (eg : ∀ args w, (callFunc g args).run Tryd.prog w = .ok (.enter g args) w)
    (h : Sc base w B s p l ns) (hp : p ≤ s.size) (hs : s.size ≤ 65536) (hbase : base ≤ w.heap.size) :
    Calls Tryd.prog 73 #[.pointer (some ⟨B, 0, none⟩), .func (.func g) #[] #[]] w fun e w' => e = .returned (.tuple #[]) ∧ Sc base w' B s (p + span (s.data.toList.drop p)) l ns ∧ Below base w w' := by
  have H0 := hide h
  have HG := hide hg; clear hg
  obtain ⟨A, A', c, c', h1, h2, h3, h4⟩ := h.ex
  have c0 : w.cell? ⟨B, 0, none⟩ = some (.string s) := cells_at h1 0
  have c1 : w.cell? ⟨B, 1, none⟩ = some (.int .i64 (p : Int)) := cells_at h1 1
  have f1 : w.frozen? ⟨B, 1, none⟩ = false := frozen_at h1 1
  have hBl := block_lt h1
  clear h h1 h2 h3 h4
  have a2 : (p : Int) ≤ (s.size : Int) := by omega
  have a0 : (0 : Int) ≤ (p : Int) := by omega
  obtain ⟨T, hT⟩ : ∃ T, s.extract p s.size = T := ⟨_, rfl⟩
  have hTd : T.data.toList = s.data.toList.drop p := by rw [← hT]; exact Lib.extract_to_end s p
  have hTs : T.size + p = s.size := by rw [size_data T, hTd, List.length_drop, ← size_data]; omega
  have HTD := hide hTd; clear hTd
  have hTs1 : (T.size : Int) + (p : Int) ≤ (s.size : Int) := by omega
  have hTs2 : (s.size : Int) ≤ (T.size : Int) + (p : Int) := by omega
  have HTS := hide hTs; clear hTs
  go_enter Tryd.func73, Tryd.ntmps73
  go_wp2_with fail
  go_still_tail 9, (by kernel_rfl)
  rw [drew_lit]
  obtain ⟨W, hW⟩ : ∃ W, w.drew = W := ⟨_, rfl⟩
  have H1 : Hid (Sc base W B s p l ns) := by rw [← hW]; exact H0.out.drew
  have HB : Hid (Below base w W) := by rw [← hW]; exact (Below.refl _ w).drew
  have d0 : W.cell? ⟨B, 0, none⟩ = some (.string s) := by rw [← hW]; exact c0
  have d1 : W.cell? ⟨B, 1, none⟩ = some (.int .i64 (p : Int)) := by rw [← hW]; exact c1
  have g1 : W.frozen? ⟨B, 1, none⟩ = false := by rw [← hW]; exact f1
  have hBW : B < W.heap.size := by rw [← hW]; exact hBl
  have hbW : base ≤ W.heap.size := by rw [← hW]; exact hbase
  rw [hW]
  clear hW c0 c1 f1 H0
  go_wp2_with fail
  clear hT
  go_loopw [4] (fun _ w' => ∃ k : Nat, w' = W.iter T k ∧ k ≤ T.size ∧ ∀ c ∈ T.data.toList.take k, alnum c = true) (fun _ w' => T.size - w'.iterPos W.heap.size)
  case atStart => exact ⟨0, rfl, Nat.zero_le _, by simp⟩
  case round =>
    obtain ⟨k, rfl, hk, hall⟩ := hrel
    have HALL := hide hall; clear hall
    have i0 := iter_cell (T := T) d0 k
    by_cases hlt : k < T.size
    · obtain ⟨d, r, hdr⟩ : ∃ d r, T.data.toList.drop k = d :: r := by
        cases hq : T.data.toList.drop k with
        | nil => have := congrArg List.length hq; rw [List.length_drop, ← size_data] at this; simp at this; omega
        | cons d r => exact ⟨d, r, rfl⟩
      have hv : alnR ((Utf8.decode T k).1 : Int) = alnum d := by rw [alnR_eq, decode_eq]; exact (aln_sign _ d r hdr).1
      have hw1 : alnum d = true → (Utf8.decode T k).2 = 1 := by rw [decode_eq]; exact (aln_sign _ d r hdr).2
      have hsp := span_all T.data.toList k (by rw [← size_data]; exact hk) HALL.out
      have HSP := hide hsp; clear hsp
      have HDR := hide hdr; clear hdr
      have hpk : (p : Int) + (k : Int) ≤ 65536 := by omega
      have hnx : ∀ ty, (Instr.next (.pointer (some ⟨W.heap.size, 0, none⟩)) true ty).run Tryd.prog (W.iter T k) = _ := fun ty => run_next_any W T k ty hlt
      obtain ⟨n, hn⟩ : ∃ n, (Utf8.decode T k).2 = n := ⟨_, rfl⟩
      obtain ⟨q, hq⟩ : ∃ q : Int, ((Utf8.decode T k).1 : Int) = q := ⟨_, rfl⟩
      rw [hn] at hw1 hnx
      rw [hq] at hv hnx
      clear hn hq
      cases hd : alnum d with
      | false =>
        rw [hd] at hv hw1
        have hc : ∀ W' : World, Calls Tryd.prog g #[.int .i32 q] W' fun e w' => e = .returned (.bool false) ∧ W' = w' := fun W' => (HG.out q W').mono fun e w' ⟨he, hw⟩ => ⟨by rw [he, hv], hw⟩
        have HC := hide hc; clear hc hv hw1
        have HD := hide hd; clear hd
        have j1 := iter_cell (T := T) d1 (k + n)
        have jf := (iter_frozen (T := T) (a := ⟨B, 1, none⟩) hBW (k + n)).trans g1
        go_wp2_with fail
        refine (HC.out _).mono ?_
        rintro e w' ⟨rfl, rfl⟩
        go_wp2_with fail
        first | go_end0 | refine bodyPost_ret (results_none rfl _ _ _) rfl ?_
        have hm := (H1.out.below (iter_below W T (k + n))).move (p + k)
        rw [Int.natCast_add] at hm
        have e : span (s.data.toList.drop p) = k := by rw [← HTD.out]; exact HSP.out.2.2 d r HDR.out HD.out
        rw [e]
        exact ⟨rfl, hm.1, (HB.out.trans ((iter_below W T (k + n)).mono hbW)).trans hm.2⟩
      | true =>
        rw [hd] at hv
        obtain rfl : n = 1 := hw1 hd
        have hc : ∀ W' : World, Calls Tryd.prog g #[.int .i32 q] W' fun e w' => e = .returned (.bool true) ∧ W' = w' := fun W' => (HG.out q W').mono fun e w' ⟨he, hw⟩ => ⟨by rw [he, hv], hw⟩
        have HC := hide hc; clear hc hv hw1
        have HD := hide hd; clear hd
        go_wp2_with fail
        refine (HC.out _).mono ?_
        rintro e w' ⟨rfl, rfl⟩
        go_wp2_with fail
        go_roundw
        case rel =>
          refine ⟨k + 1, rfl, by omega, fun c hc => ?_⟩
          rw [List.take_succ_eq_append_getElem (by rw [← size_data]; exact hlt)] at hc
          rcases List.mem_append.1 hc with hc | hc
          · exact HALL.out c hc
          · have : T.data.toList[k]'(by rw [← size_data]; exact hlt) = d := by
              have := List.drop_eq_getElem_cons (l := T.data.toList) (i := k) (by rw [← size_data]; exact hlt)
              rw [HDR.out] at this
              injection this with h1 _
              exact h1.symm
            rw [List.mem_singleton.1 hc, this]
            exact HD.out
        case measure => simp; omega
    · have hnx : ∀ ty, (Instr.next (.pointer (some ⟨W.heap.size, 0, none⟩)) true ty).run Tryd.prog (W.iter T k) = _ := fun ty => run_next_end W T k ty hlt
      have hkT : k = T.size := by omega
      have e : Hid (span (s.data.toList.drop p) = k) := by
        have hsp := span_all T.data.toList k (by rw [← size_data]; exact hk) HALL.out
        rw [← HTD.out]
        exact hsp.2.1 (by rw [← size_data]; exact hkT)
      have HKT := hide hkT; clear hkT
      have j1 := iter_cell (T := T) d1 k
      have jf := (iter_frozen (T := T) (a := ⟨B, 1, none⟩) hBW k).trans g1
      go_wp2_with fail
      go_end0
      have hm := (H1.out.below (iter_below W T k)).move s.size
      have e2 : p + k = s.size := by have := HTS.out; have := HKT.out; omega
      rw [e.out, e2]
      exact ⟨rfl, hm.1, (HB.out.trans ((iter_below W T k).mono hbW)).trans hm.2⟩
end Go.Proofs.YtehflgllfkkfoaaDoor
