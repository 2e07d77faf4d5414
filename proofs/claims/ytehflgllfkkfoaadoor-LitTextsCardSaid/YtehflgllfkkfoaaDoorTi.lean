/- The scanner's 'sign'. -/
import Derived.Test.YtehflgllfkkfoaaDoorTh
set_option linter.unusedVariables false
namespace Go.Proofs.YtehflgllfkkfoaaDoor
open Go.RowKit Go.Proofs.Dm

theorem add_bs {P : Program} (a b : Bs) (h : a.length + b.length ≤ 1000000) (W : World) : (Op.stringOp .add (bs a) (bs b)).run P W = .ok (.string (bs (a ++ b))) W := by
  rw [run_string_add_sum W _ _ (by rw [bs_size, bs_size]; omega), bs_add]

theorem rowA3 {P : Program} (W : World) : (Op.stringOp .add ⟨#[32]⟩ ⟨#[60, 60, 61, 32, 62, 62, 61, 32, 38, 94, 61, 32, 46, 46, 46]⟩).run P W = .ok (.string (bs [32, 60, 60, 61, 32, 62, 62, 61, 32, 38, 94, 61, 32, 46, 46, 46])) W := add_bs [32] [60, 60, 61, 32, 62, 62, 61, 32, 38, 94, 61, 32, 46, 46, 46] (by decide) W
theorem rowB3 {P : Program} (W : World) : (Op.stringOp .add (bs [32, 60, 60, 61, 32, 62, 62, 61, 32, 38, 94, 61, 32, 46, 46, 46]) ⟨#[32]⟩).run P W = .ok (.string (bs row3)) W := add_bs [32, 60, 60, 61, 32, 62, 62, 61, 32, 38, 94, 61, 32, 46, 46, 46] [32] (by decide) W
theorem rowA2 {P : Program} (W : World) : (Op.stringOp .add ⟨#[32]⟩ ⟨#[38, 38, 32, 124, 124, 32, 61, 61, 32, 33, 61, 32, 60, 61, 32, 62, 61, 32, 58, 61, 32, 43, 43, 32, 45, 45, 32, 43, 61, 32, 45, 61, 32, 42, 61, 32, 47, 61, 32, 37, 61, 32, 38, 61, 32, 124, 61, 32, 94, 61, 32, 60, 60, 32, 62, 62, 32, 38, 94, 32, 60, 45]⟩).run P W = .ok (.string (bs [32, 38, 38, 32, 124, 124, 32, 61, 61, 32, 33, 61, 32, 60, 61, 32, 62, 61, 32, 58, 61, 32, 43, 43, 32, 45, 45, 32, 43, 61, 32, 45, 61, 32, 42, 61, 32, 47, 61, 32, 37, 61, 32, 38, 61, 32, 124, 61, 32, 94, 61, 32, 60, 60, 32, 62, 62, 32, 38, 94, 32, 60, 45])) W := add_bs [32] [38, 38, 32, 124, 124, 32, 61, 61, 32, 33, 61, 32, 60, 61, 32, 62, 61, 32, 58, 61, 32, 43, 43, 32, 45, 45, 32, 43, 61, 32, 45, 61, 32, 42, 61, 32, 47, 61, 32, 37, 61, 32, 38, 61, 32, 124, 61, 32, 94, 61, 32, 60, 60, 32, 62, 62, 32, 38, 94, 32, 60, 45] (by decide) W
theorem rowB2 {P : Program} (W : World) : (Op.stringOp .add (bs [32, 38, 38, 32, 124, 124, 32, 61, 61, 32, 33, 61, 32, 60, 61, 32, 62, 61, 32, 58, 61, 32, 43, 43, 32, 45, 45, 32, 43, 61, 32, 45, 61, 32, 42, 61, 32, 47, 61, 32, 37, 61, 32, 38, 61, 32, 124, 61, 32, 94, 61, 32, 60, 60, 32, 62, 62, 32, 38, 94, 32, 60, 45]) ⟨#[32]⟩).run P W = .ok (.string (bs row2)) W := add_bs [32, 38, 38, 32, 124, 124, 32, 61, 61, 32, 33, 61, 32, 60, 61, 32, 62, 61, 32, 58, 61, 32, 43, 43, 32, 45, 45, 32, 43, 61, 32, 45, 61, 32, 42, 61, 32, 47, 61, 32, 37, 61, 32, 38, 61, 32, 124, 61, 32, 94, 61, 32, 60, 60, 32, 62, 62, 32, 38, 94, 32, 60, 45] [32] (by decide) W
theorem rowA1 {P : Program} (W : World) : (Op.stringOp .add ⟨#[32]⟩ ⟨#[43, 32, 45, 32, 42, 32, 47, 32, 37, 32, 38, 32, 124, 32, 94, 32, 60, 32, 62, 32, 61, 32, 33, 32, 40, 32, 41, 32, 91, 32, 93, 32, 123, 32, 125, 32, 44, 32, 59, 32, 46, 32, 58, 32, 126]⟩).run P W = .ok (.string (bs [32, 43, 32, 45, 32, 42, 32, 47, 32, 37, 32, 38, 32, 124, 32, 94, 32, 60, 32, 62, 32, 61, 32, 33, 32, 40, 32, 41, 32, 91, 32, 93, 32, 123, 32, 125, 32, 44, 32, 59, 32, 46, 32, 58, 32, 126])) W := add_bs [32] [43, 32, 45, 32, 42, 32, 47, 32, 37, 32, 38, 32, 124, 32, 94, 32, 60, 32, 62, 32, 61, 32, 33, 32, 40, 32, 41, 32, 91, 32, 93, 32, 123, 32, 125, 32, 44, 32, 59, 32, 46, 32, 58, 32, 126] (by decide) W
theorem rowB1 {P : Program} (W : World) : (Op.stringOp .add (bs [32, 43, 32, 45, 32, 42, 32, 47, 32, 37, 32, 38, 32, 124, 32, 94, 32, 60, 32, 62, 32, 61, 32, 33, 32, 40, 32, 41, 32, 91, 32, 93, 32, 123, 32, 125, 32, 44, 32, 59, 32, 46, 32, 58, 32, 126]) ⟨#[32]⟩).run P W = .ok (.string (bs row1)) W := add_bs [32, 43, 32, 45, 32, 42, 32, 47, 32, 37, 32, 38, 32, 124, 32, 94, 32, 60, 32, 62, 32, 61, 32, 33, 32, 40, 32, 41, 32, 91, 32, 93, 32, 123, 32, 125, 32, 44, 32, 59, 32, 46, 32, 58, 32, 126] [32] (by decide) W
theorem pieceA {P : Program} (T : ByteArray) (n : Nat) (L : Bs) (hT : T.data.toList = L) (hn : n ≤ 3) (W : World) : (Op.stringOp .add ⟨#[32]⟩ (T.extract 0 n)).run P W = .ok (.string (bs (32 :: L.take n))) W := by
  have e : T.extract 0 n = bs (L.take n) := by rw [extract_bs, hT]; rfl
  rw [e]
  exact add_bs [32] _ (by rw [List.length_take]; simp; omega) W
theorem pieceB {P : Program} (n : Nat) (L : Bs) (hn : n ≤ 3) (W : World) : (Op.stringOp .add (bs (32 :: L.take n)) ⟨#[32]⟩).run P W = .ok (.string (bs (32 :: (L.take n ++ [32])))) W :=
  add_bs (32 :: L.take n) [32] (by simp [List.length_take]; omega) W
theorem find_at (n : Nat) (hn : n = 3 ∨ n = 2 ∨ n = 1) (row : Bs) (ws : List Bs) (hr : ∀ x : Bs, x.length = n → Lib.contains row (32 :: (x ++ [32])) = decide (x ∈ ws)) (hrow : row.length ≤ 1000) (L : Bs) (hL : n ≤ L.length) (b : Bool) (hb : decide (L.take n ∈ ws) = b) (W : World) (hM : MaxLenOk W) :
    Calls Tryd.prog 92 #[.string (bs row), .string (bs (32 :: (L.take n ++ [32])))] W fun e w' => e = .returned (.bool b) ∧ W = w' := by
  obtain ⟨m, hm⟩ := hM
  refine (Tryd.strings_Contains _ _ m W (by rw [bs_size]; omega) hm).mono ?_
  rintro e w' ⟨rfl, rfl⟩
  rw [bs_data, bs_data, hr _ (by rw [List.length_take]; omega), hb]
  exact ⟨rfl, rfl⟩
theorem sign_ok {r : Bs} {n : Nat} (h : signLen r = some n) (q : Nat) : TkOk ⟨6, r.take n, q⟩ := by
  refine .inr (.inr (.inr (.inr (.inr ⟨rfl, ?_⟩))))
  show r.take n ∈ allSigns
  unfold signLen at h
  unfold allSigns
  by_cases h3 : r.take 3 ∈ signs3
  · rw [if_pos h3] at h; cases h; simp [h3]
  rw [if_neg h3] at h
  by_cases h2 : r.take 2 ∈ signs2
  · rw [if_pos h2] at h; cases h; simp [h2]
  rw [if_neg h2] at h
  by_cases h1 : r.take 1 ∈ signs1
  · rw [if_pos h1] at h; cases h; simp [h1]
  rw [if_neg h1] at h; cases h
theorem set_same {w : World} {a : Addr} {u : Value} (h : w.cell? a = some u) (v : Value) : (w.setCell a v).cell? a = some v := by
  exact World.cell?_setCell_same' w a v (by rw [h]; rfl)
theorem short_not {r : Bs} {n : Nat} {ws : List Bs} (hl : ∀ x ∈ ws, x.length = n) (h : r.length < n) : r.take n ∉ ws := fun hm => by
  have := hl _ hm
  rw [List.length_take] at this; omega

set_option maxRecDepth 100000 in
set_option maxHeartbeats 12800000 in
theorem sign_any (base : Nat) (w : World) (B : Nat) (s : ByteArray) (p : Nat) (l ns : List Tk)
    (h : Sc base w B s p l ns) (hM : MaxLenOk w) (h3 : 3 ≤ base) (hp : p < s.size) (hs : s.size ≤ 65536) (hl : l.length ≤ 200000) (hbase : base ≤ w.heap.size) :
    Calls Tryd.prog 78 #[.pointer (some ⟨B, 0, none⟩)] w
      (OrWrong (signLen (s.data.toList.drop p)) p base w fun n w' => Sc base w' B s (p + n) (l ++ [⟨6, (s.data.toList.drop p).take n, p⟩]) ns) := by
  have H0 := hide h
  have HM := hide hM; clear hM
  obtain ⟨A, A', c, c', h1, h2, hh3, h4⟩ := h.ex
  have c0 : w.cell? ⟨B, 0, none⟩ = some (.string s) := cells_at h1 0
  have c1 : w.cell? ⟨B, 1, none⟩ = some (.int .i64 (p : Int)) := cells_at h1 1
  clear h h1 h2 hh3 h4
  have a0 : (0 : Int) ≤ (p : Int) := by omega
  have a1 : (p : Int) ≤ (s.size : Int) := by omega
  have a3 : (s.size : Int) ≤ 65536 := by omega
  have a4 : (p : Int) ≤ 65536 := by omega
  obtain ⟨T, hT⟩ : ∃ T, s.extract p s.size = T := ⟨_, rfl⟩
  have hTd : T.data.toList = s.data.toList.drop p := by rw [← hT]; exact Lib.extract_to_end s p
  have hTs : T.size + p = s.size := by rw [size_data T, hTd, List.length_drop, ← size_data]; omega
  have HTD := hide hTd; clear hTd
  have HTS := hide hTs; clear hTs
  go_enter Tryd.func78, Tryd.ntmps78
  go_wp2_with fail
  go_still_tail 9, (by kernel_rfl)
  rw [drew_lit]
  go_wp2_with fail
  refine (signs_any _).mono ?_
  rintro e W ⟨rfl, hbW⟩
  have HB : Hid (Below base w W) := (Below.drew (Below.refl base w)).trans (hbW.mono hbase)
  have HS : Hid (Sc base W B s p l ns) := H0.out.drew.below hbW
  have HMW : Hid (MaxLenOk W) := HM.out.below HB.out h3
  have hbW2 : base ≤ W.heap.size := Nat.le_trans hbase HB.out.size
  clear hbW
  obtain ⟨A, A', c, c', h1, h2, hh3, h4⟩ := HS.out.ex
  have d1 : W.cell? ⟨B, 1, none⟩ = some (.int .i64 (p : Int)) := cells_at h1 1
  have g1 : W.frozen? ⟨B, 1, none⟩ = false := frozen_at h1 1
  clear h1 h2 hh3 h4 hT c0 c1 H0 HM
  obtain ⟨L, hL⟩ : ∃ L, s.data.toList.drop p = L := ⟨_, rfl⟩
  have hLT : T.data.toList = L := by rw [HTD.out, hL]
  have hLn : L.length = T.size := by rw [size_data T, hLT]
  have qA3 : ∀ W : World, _ := pieceA (P := Tryd.prog) T 3 L hLT (by omega)
  have qA2 : ∀ W : World, _ := pieceA (P := Tryd.prog) T 2 L hLT (by omega)
  have qA1 : ∀ W : World, _ := pieceA (P := Tryd.prog) T 1 L hLT (by omega)
  have qB3 : ∀ W : World, _ := pieceB (P := Tryd.prog) 3 L (by omega)
  have qB2 : ∀ W : World, _ := pieceB (P := Tryd.prog) 2 L (by omega)
  have qB1 : ∀ W : World, _ := pieceB (P := Tryd.prog) 1 L (by omega)
  have rA3 : ∀ W : World, _ := rowA3 (P := Tryd.prog)
  have rA2 : ∀ W : World, _ := rowA2 (P := Tryd.prog)
  have rA1 : ∀ W : World, _ := rowA1 (P := Tryd.prog)
  have rB3 : ∀ W : World, _ := rowB3 (P := Tryd.prog)
  have rB2 : ∀ W : World, _ := rowB2 (P := Tryd.prog)
  have rB1 : ∀ W : World, _ := rowB1 (P := Tryd.prog)
  have HL := hide hL; clear hL
  have HLN := hide hLn; clear hLn
  have HLT := hide hLT; clear hLT
  have i0 : ∀ w, (Instr.index 107 signsV (.int .i64 0)).run Tryd.prog w = .ok (.string ⟨#[60, 60, 61, 32, 62, 62, 61, 32, 38, 94, 61, 32, 46, 46, 46]⟩) w := fun _ => by kernel_rfl
  have i1 : ∀ w, (Instr.index 107 signsV (.int .i64 1)).run Tryd.prog w = .ok (.string ⟨#[38, 38, 32, 124, 124, 32, 61, 61, 32, 33, 61, 32, 60, 61, 32, 62, 61, 32, 58, 61, 32, 43, 43, 32, 45, 45, 32, 43, 61, 32, 45, 61, 32, 42, 61, 32, 47, 61, 32, 37, 61, 32, 38, 61, 32, 124, 61, 32, 94, 61, 32, 60, 60, 32, 62, 62, 32, 38, 94, 32, 60, 45]⟩) w := fun _ => by kernel_rfl
  have i2 : ∀ w, (Instr.index 107 signsV (.int .i64 2)).run Tryd.prog w = .ok (.string ⟨#[43, 32, 45, 32, 42, 32, 47, 32, 37, 32, 38, 32, 124, 32, 94, 32, 60, 32, 62, 32, 61, 32, 33, 32, 40, 32, 41, 32, 91, 32, 93, 32, 123, 32, 125, 32, 44, 32, 59, 32, 46, 32, 58, 32, 126]⟩) w := fun _ => by kernel_rfl
  have hpos : 1 ≤ T.size := by have := HTS.out; omega
  go_wp2_with fail
  by_cases s3 : 3 ≤ T.size
  · have b3 : (3 : Int) ≤ (T.size : Int) := by omega
    have b2 : (2 : Int) ≤ (T.size : Int) := by omega
    have b1 : (1 : Int) ≤ (T.size : Int) := by omega
    by_cases m3 : L.take 3 ∈ signs3
    · have M3 := hide m3
      have K3 := hide (find_at 3 (by omega) row3 signs3 row3_find (by decide) L (by rw [HLN.out]; omega) true (by simpa using m3) W HMW.out)
      clear m3
      have hsl : Hid (signLen L = some 3) := hide (by unfold signLen; rw [if_pos M3.out])
      have hm := HS.out.move (p + 3)
      rw [show ((p + 3 : Nat) : Int) = (p : Int) + 3 from by omega] at hm
      have HMV := hide hm; clear hm
      have z1 : ∀ v, (W.setCell ⟨B, 1, none⟩ v).cell? ⟨B, 1, none⟩ = some v := fun v => set_same d1 v
      refine wp_loop_rounds 4 ?_
      rw [rounds_succ]
      go_wp2_with (go_at_call 92; refine K3.out.mono ?_; rintro e w' ⟨rfl, rfl⟩)
      refine (add_any base _ B s (p + 3) p 6 6 l ns rfl HMV.out.1 (by omega) (by have := HTS.out; omega) hl (by simp [World.setCell]; omega) (by have := sign_ok hsl.out p; rw [show p + 3 - p = 3 from by omega, HL.out]; exact this)).mono ?_
      rintro e w' ⟨rfl, hsc, hbl⟩
      have HS2 := hide hsc; clear hsc
      have HB2 := hide hbl; clear hbl
      go_wp2_with fail
      refine bodyPost_ret (results_none rfl _ _ _) rfl ?_
      refine OrWrong.good (n := 3) (by rw [HL.out]; exact hsl.out) ?_ (HB.out.trans (HMV.out.2.trans HB2.out))
      have hsc := HS2.out
      rw [show p + 3 - p = 3 from by omega] at hsc
      exact hsc
    have K3 := hide (find_at 3 (by omega) row3 signs3 row3_find (by decide) L (by rw [HLN.out]; omega) false (by simpa using m3) W HMW.out)
    have M3 := hide m3; clear m3
    by_cases m2 : L.take 2 ∈ signs2
    · have M2 := hide m2
      have K2 := hide (find_at 2 (by omega) row2 signs2 row2_find (by decide) L (by rw [HLN.out]; omega) true (by simpa using m2) W HMW.out)
      clear m2
      have hsl : Hid (signLen L = some 2) := hide (by unfold signLen; rw [if_neg M3.out, if_pos M2.out])
      have hm := HS.out.move (p + 2)
      rw [show ((p + 2 : Nat) : Int) = (p : Int) + 2 from by omega] at hm
      have HMV := hide hm; clear hm
      have z1 : ∀ v, (W.setCell ⟨B, 1, none⟩ v).cell? ⟨B, 1, none⟩ = some v := fun v => set_same d1 v
      refine wp_loop_rounds 4 ?_
      rw [rounds_succ]
      go_wp2_with (go_at_call 92; refine K3.out.mono ?_; rintro e w' ⟨rfl, rfl⟩)
      rw [rounds_succ]
      go_wp2_with (go_at_call 92; refine K2.out.mono ?_; rintro e w' ⟨rfl, rfl⟩)
      refine (add_any base _ B s (p + 2) p 6 6 l ns rfl HMV.out.1 (by omega) (by have := HTS.out; omega) hl (by simp [World.setCell]; omega) (by have := sign_ok hsl.out p; rw [show p + 2 - p = 2 from by omega, HL.out]; exact this)).mono ?_
      rintro e w' ⟨rfl, hsc, hbl⟩
      have HS2 := hide hsc; clear hsc
      have HB2 := hide hbl; clear hbl
      go_wp2_with fail
      refine bodyPost_ret (results_none rfl _ _ _) rfl ?_
      refine OrWrong.good (n := 2) (by rw [HL.out]; exact hsl.out) ?_ (HB.out.trans (HMV.out.2.trans HB2.out))
      have hsc := HS2.out
      rw [show p + 2 - p = 2 from by omega] at hsc
      exact hsc
    have K2 := hide (find_at 2 (by omega) row2 signs2 row2_find (by decide) L (by rw [HLN.out]; omega) false (by simpa using m2) W HMW.out)
    have M2 := hide m2; clear m2
    by_cases m1 : L.take 1 ∈ signs1
    · have M1 := hide m1
      have K1 := hide (find_at 1 (by omega) row1 signs1 row1_find (by decide) L (by rw [HLN.out]; omega) true (by simpa using m1) W HMW.out)
      clear m1
      have hsl : Hid (signLen L = some 1) := hide (by unfold signLen; rw [if_neg M3.out, if_neg M2.out, if_pos M1.out])
      have hm := HS.out.move (p + 1)
      rw [show ((p + 1 : Nat) : Int) = (p : Int) + 1 from by omega] at hm
      have HMV := hide hm; clear hm
      have z1 : ∀ v, (W.setCell ⟨B, 1, none⟩ v).cell? ⟨B, 1, none⟩ = some v := fun v => set_same d1 v
      refine wp_loop_rounds 4 ?_
      rw [rounds_succ]
      go_wp2_with (go_at_call 92; refine K3.out.mono ?_; rintro e w' ⟨rfl, rfl⟩)
      rw [rounds_succ]
      go_wp2_with (go_at_call 92; refine K2.out.mono ?_; rintro e w' ⟨rfl, rfl⟩)
      rw [rounds_succ]
      go_wp2_with (go_at_call 92; refine K1.out.mono ?_; rintro e w' ⟨rfl, rfl⟩)
      refine (add_any base _ B s (p + 1) p 6 6 l ns rfl HMV.out.1 (by omega) (by have := HTS.out; omega) hl (by simp [World.setCell]; omega) (by have := sign_ok hsl.out p; rw [show p + 1 - p = 1 from by omega, HL.out]; exact this)).mono ?_
      rintro e w' ⟨rfl, hsc, hbl⟩
      have HS2 := hide hsc; clear hsc
      have HB2 := hide hbl; clear hbl
      go_wp2_with fail
      refine bodyPost_ret (results_none rfl _ _ _) rfl ?_
      refine OrWrong.good (n := 1) (by rw [HL.out]; exact hsl.out) ?_ (HB.out.trans (HMV.out.2.trans HB2.out))
      have hsc := HS2.out
      rw [show p + 1 - p = 1 from by omega] at hsc
      exact hsc
    have K1 := hide (find_at 1 (by omega) row1 signs1 row1_find (by decide) L (by rw [HLN.out]; omega) false (by simpa using m1) W HMW.out)
    have M1 := hide m1; clear m1
    have hsl : Hid (signLen L = none) := hide (by unfold signLen; rw [if_neg M3.out, if_neg M2.out, if_neg M1.out])
    refine wp_loop_rounds 4 ?_
    rw [rounds_succ]
    go_wp2_with (go_at_call 92; refine K3.out.mono ?_; rintro e w' ⟨rfl, rfl⟩)
    rw [rounds_succ]
    go_wp2_with (go_at_call 92; refine K2.out.mono ?_; rintro e w' ⟨rfl, rfl⟩)
    rw [rounds_succ]
    go_wp2_with (go_at_call 92; refine K1.out.mono ?_; rintro e w' ⟨rfl, rfl⟩)
    rw [rounds_succ]
    go_wp2_with fail
    refine (need_false _ _ _).mono ?_
    rintro e w' ⟨rfl, rfl⟩
    exact ⟨rfl, OrWrong.bad (by rw [HL.out]; exact hsl.out) HB.out⟩
  have M3 : Hid (L.take 3 ∉ signs3) := hide (short_not len3 (by rw [HLN.out]; omega))
  have b3 : (T.size : Int) < 3 := by omega
  by_cases s2 : 2 ≤ T.size
  · have b2 : (2 : Int) ≤ (T.size : Int) := by omega
    have b1 : (1 : Int) ≤ (T.size : Int) := by omega
    by_cases m2 : L.take 2 ∈ signs2
    · have M2 := hide m2
      have K2 := hide (find_at 2 (by omega) row2 signs2 row2_find (by decide) L (by rw [HLN.out]; omega) true (by simpa using m2) W HMW.out)
      clear m2
      have hsl : Hid (signLen L = some 2) := hide (by unfold signLen; rw [if_neg M3.out, if_pos M2.out])
      have hm := HS.out.move (p + 2)
      rw [show ((p + 2 : Nat) : Int) = (p : Int) + 2 from by omega] at hm
      have HMV := hide hm; clear hm
      have z1 : ∀ v, (W.setCell ⟨B, 1, none⟩ v).cell? ⟨B, 1, none⟩ = some v := fun v => set_same d1 v
      refine wp_loop_rounds 4 ?_
      rw [rounds_succ]
      go_wp2_with (go_at_call 92; refine K3.out.mono ?_; rintro e w' ⟨rfl, rfl⟩)
      rw [rounds_succ]
      go_wp2_with (go_at_call 92; refine K2.out.mono ?_; rintro e w' ⟨rfl, rfl⟩)
      refine (add_any base _ B s (p + 2) p 6 6 l ns rfl HMV.out.1 (by omega) (by have := HTS.out; omega) hl (by simp [World.setCell]; omega) (by have := sign_ok hsl.out p; rw [show p + 2 - p = 2 from by omega, HL.out]; exact this)).mono ?_
      rintro e w' ⟨rfl, hsc, hbl⟩
      have HS2 := hide hsc; clear hsc
      have HB2 := hide hbl; clear hbl
      go_wp2_with fail
      refine bodyPost_ret (results_none rfl _ _ _) rfl ?_
      refine OrWrong.good (n := 2) (by rw [HL.out]; exact hsl.out) ?_ (HB.out.trans (HMV.out.2.trans HB2.out))
      have hsc := HS2.out
      rw [show p + 2 - p = 2 from by omega] at hsc
      exact hsc
    have K2 := hide (find_at 2 (by omega) row2 signs2 row2_find (by decide) L (by rw [HLN.out]; omega) false (by simpa using m2) W HMW.out)
    have M2 := hide m2; clear m2
    by_cases m1 : L.take 1 ∈ signs1
    · have M1 := hide m1
      have K1 := hide (find_at 1 (by omega) row1 signs1 row1_find (by decide) L (by rw [HLN.out]; omega) true (by simpa using m1) W HMW.out)
      clear m1
      have hsl : Hid (signLen L = some 1) := hide (by unfold signLen; rw [if_neg M3.out, if_neg M2.out, if_pos M1.out])
      have hm := HS.out.move (p + 1)
      rw [show ((p + 1 : Nat) : Int) = (p : Int) + 1 from by omega] at hm
      have HMV := hide hm; clear hm
      have z1 : ∀ v, (W.setCell ⟨B, 1, none⟩ v).cell? ⟨B, 1, none⟩ = some v := fun v => set_same d1 v
      refine wp_loop_rounds 4 ?_
      rw [rounds_succ]
      go_wp2_with (go_at_call 92; refine K3.out.mono ?_; rintro e w' ⟨rfl, rfl⟩)
      rw [rounds_succ]
      go_wp2_with (go_at_call 92; refine K2.out.mono ?_; rintro e w' ⟨rfl, rfl⟩)
      rw [rounds_succ]
      go_wp2_with (go_at_call 92; refine K1.out.mono ?_; rintro e w' ⟨rfl, rfl⟩)
      refine (add_any base _ B s (p + 1) p 6 6 l ns rfl HMV.out.1 (by omega) (by have := HTS.out; omega) hl (by simp [World.setCell]; omega) (by have := sign_ok hsl.out p; rw [show p + 1 - p = 1 from by omega, HL.out]; exact this)).mono ?_
      rintro e w' ⟨rfl, hsc, hbl⟩
      have HS2 := hide hsc; clear hsc
      have HB2 := hide hbl; clear hbl
      go_wp2_with fail
      refine bodyPost_ret (results_none rfl _ _ _) rfl ?_
      refine OrWrong.good (n := 1) (by rw [HL.out]; exact hsl.out) ?_ (HB.out.trans (HMV.out.2.trans HB2.out))
      have hsc := HS2.out
      rw [show p + 1 - p = 1 from by omega] at hsc
      exact hsc
    have K1 := hide (find_at 1 (by omega) row1 signs1 row1_find (by decide) L (by rw [HLN.out]; omega) false (by simpa using m1) W HMW.out)
    have M1 := hide m1; clear m1
    have hsl : Hid (signLen L = none) := hide (by unfold signLen; rw [if_neg M3.out, if_neg M2.out, if_neg M1.out])
    refine wp_loop_rounds 4 ?_
    rw [rounds_succ]
    go_wp2_with (go_at_call 92; refine K3.out.mono ?_; rintro e w' ⟨rfl, rfl⟩)
    rw [rounds_succ]
    go_wp2_with (go_at_call 92; refine K2.out.mono ?_; rintro e w' ⟨rfl, rfl⟩)
    rw [rounds_succ]
    go_wp2_with (go_at_call 92; refine K1.out.mono ?_; rintro e w' ⟨rfl, rfl⟩)
    rw [rounds_succ]
    go_wp2_with fail
    refine (need_false _ _ _).mono ?_
    rintro e w' ⟨rfl, rfl⟩
    exact ⟨rfl, OrWrong.bad (by rw [HL.out]; exact hsl.out) HB.out⟩
  have M2 : Hid (L.take 2 ∉ signs2) := hide (short_not len2 (by rw [HLN.out]; omega))
  have b2 : (T.size : Int) < 2 := by omega
  have b1 : (1 : Int) ≤ (T.size : Int) := by omega
  by_cases m1 : L.take 1 ∈ signs1
  · have M1 := hide m1
    have K1 := hide (find_at 1 (by omega) row1 signs1 row1_find (by decide) L (by rw [HLN.out]; omega) true (by simpa using m1) W HMW.out)
    clear m1
    have hsl : Hid (signLen L = some 1) := hide (by unfold signLen; rw [if_neg M3.out, if_neg M2.out, if_pos M1.out])
    have hm := HS.out.move (p + 1)
    rw [show ((p + 1 : Nat) : Int) = (p : Int) + 1 from by omega] at hm
    have HMV := hide hm; clear hm
    have z1 : ∀ v, (W.setCell ⟨B, 1, none⟩ v).cell? ⟨B, 1, none⟩ = some v := fun v => set_same d1 v
    refine wp_loop_rounds 4 ?_
    rw [rounds_succ]
    go_wp2_with (go_at_call 92; refine K3.out.mono ?_; rintro e w' ⟨rfl, rfl⟩)
    rw [rounds_succ]
    go_wp2_with (go_at_call 92; refine K2.out.mono ?_; rintro e w' ⟨rfl, rfl⟩)
    rw [rounds_succ]
    go_wp2_with (go_at_call 92; refine K1.out.mono ?_; rintro e w' ⟨rfl, rfl⟩)
    refine (add_any base _ B s (p + 1) p 6 6 l ns rfl HMV.out.1 (by omega) (by have := HTS.out; omega) hl (by simp [World.setCell]; omega) (by have := sign_ok hsl.out p; rw [show p + 1 - p = 1 from by omega, HL.out]; exact this)).mono ?_
    rintro e w' ⟨rfl, hsc, hbl⟩
    have HS2 := hide hsc; clear hsc
    have HB2 := hide hbl; clear hbl
    go_wp2_with fail
    refine bodyPost_ret (results_none rfl _ _ _) rfl ?_
    refine OrWrong.good (n := 1) (by rw [HL.out]; exact hsl.out) ?_ (HB.out.trans (HMV.out.2.trans HB2.out))
    have hsc := HS2.out
    rw [show p + 1 - p = 1 from by omega] at hsc
    exact hsc
  have K1 := hide (find_at 1 (by omega) row1 signs1 row1_find (by decide) L (by rw [HLN.out]; omega) false (by simpa using m1) W HMW.out)
  have M1 := hide m1; clear m1
  have hsl : Hid (signLen L = none) := hide (by unfold signLen; rw [if_neg M3.out, if_neg M2.out, if_neg M1.out])
  refine wp_loop_rounds 4 ?_
  rw [rounds_succ]
  go_wp2_with (go_at_call 92; refine K3.out.mono ?_; rintro e w' ⟨rfl, rfl⟩)
  rw [rounds_succ]
  go_wp2_with (go_at_call 92; refine K2.out.mono ?_; rintro e w' ⟨rfl, rfl⟩)
  rw [rounds_succ]
  go_wp2_with (go_at_call 92; refine K1.out.mono ?_; rintro e w' ⟨rfl, rfl⟩)
  rw [rounds_succ]
  go_wp2_with fail
  refine (need_false _ _ _).mono ?_
  rintro e w' ⟨rfl, rfl⟩
  exact ⟨rfl, OrWrong.bad (by rw [HL.out]; exact hsl.out) HB.out⟩
end Go.Proofs.YtehflgllfkkfoaaDoor
