/- Package lit: part, at any text. -/
import Derived.Test.YtehflgllfkkfoaaDoorNbx
set_option linter.unusedVariables false
set_option linter.unusedSimpArgs false
namespace Go.Proofs.YtehflgllfkkfoaaDoor
open Go.RowKit Go.Proofs.Dm

def PartEnd (s : Bs) (w : World) (e : Ending) (w' : World) : Prop :=
  (match escL s with
  | none => e = .panicked litWrong
  | some (b, n) => e = .returned (.tuple #[.string (bs b), .int .i64 (n : Int)])) ∧ Below w.heap.size w w'
theorem PartEnd.bad {s : Bs} {w w' : World} (h : escL s = none) (hb : Below w.heap.size w w') : PartEnd s w (.panicked litWrong) w' := by
  unfold PartEnd; rw [h]; exact ⟨rfl, hb⟩
theorem PartEnd.good {s b : Bs} {n : Nat} {w w' : World} (h : escL s = some (b, n)) (hb : Below w.heap.size w w') : PartEnd s w (.returned (.tuple #[.string (bs b), .int .i64 (n : Int)])) w' := by
  unfold PartEnd; rw [h]; exact ⟨rfl, hb⟩
theorem find_none {c : UInt8} (h : singleL c = none) : Instr.findNow (.int .u8) (.int .u8 (c.toNat : Int)) singles.toList 0 = some none := by
  unfold singleL at h
  have h1 : c ≠ 97 := by intro e; subst e; simp at h
  have h2 : c ≠ 98 := by intro e; subst e; simp at h
  have h3 : c ≠ 102 := by intro e; subst e; simp at h
  have h4 : c ≠ 110 := by intro e; subst e; simp at h
  have h5 : c ≠ 114 := by intro e; subst e; simp at h
  have h6 : c ≠ 116 := by intro e; subst e; simp at h
  have h7 : c ≠ 118 := by intro e; subst e; simp at h
  have h8 : c ≠ 92 := by intro e; subst e; simp at h
  have h9 : c ≠ 34 := by intro e; subst e; simp at h
  have q1 : (((c.toNat : Int)) == 97) = false := byte_eqF 97 97 h1
  have q2 : (((c.toNat : Int)) == 98) = false := byte_eqF 98 98 h2
  have q3 : (((c.toNat : Int)) == 102) = false := byte_eqF 102 102 h3
  have q4 : (((c.toNat : Int)) == 110) = false := byte_eqF 110 110 h4
  have q5 : (((c.toNat : Int)) == 114) = false := byte_eqF 114 114 h5
  have q6 : (((c.toNat : Int)) == 116) = false := byte_eqF 116 116 h6
  have q7 : (((c.toNat : Int)) == 118) = false := byte_eqF 118 118 h7
  have q8 : (((c.toNat : Int)) == 92) = false := byte_eqF 92 92 h8
  have q9 : (((c.toNat : Int)) == 34) = false := byte_eqF 34 34 h9
  simp only [singles, Instr.findNow, Instr.sameNow, if_true, q1, q2, q3, q4, q5, q6, q7, q8, q9]
theorem encode_sign {v : Nat} {b : Bs} (h : signU v = some b) : Utf8.encode (v : Int) = bs b ∧ v ≤ 1114111 ∧ Lib.validRune (v : Int) = true := by
  have hv : ¬ (1114111 < v ∨ (55296 ≤ v ∧ v ≤ 57343)) := by
    intro hc; unfold signU at h; rw [if_pos hc] at h; cases h
  have h1 : v ≤ 1114111 := by omega
  have hval : Utf8.valid (v : Int) = true := by unfold Utf8.valid; simp; omega
  refine ⟨?_, h1, by unfold Lib.validRune; simp; omega⟩
  unfold signU at h
  rw [if_neg hv] at h
  unfold Utf8.encode
  simp only [hval, if_true, Int.toNat_natCast]
  by_cases h3 : v < 128
  · rw [if_pos h3] at h
    rw [if_pos h3, ← Option.some.inj h]; rfl
  · rw [if_neg h3] at h
    rw [if_neg h3]
    by_cases h4 : v < 2048
    · rw [if_pos h4] at h
      rw [if_pos h4, ← Option.some.inj h]; rfl
    · rw [if_neg h4] at h
      rw [if_neg h4]
      by_cases h5 : v < 65536
      · rw [if_pos h5] at h
        rw [if_pos h5, ← Option.some.inj h]; rfl
      · rw [if_neg h5] at h
        rw [if_neg h5, ← Option.some.inj h]; rfl
theorem sign_none {v : Nat} (h : signU v = none) : 1114111 < v ∨ (v ≤ 1114111 ∧ Lib.validRune (v : Int) = false) := by
  unfold signU at h
  split at h
  · rename_i hv
    by_cases h1 : 1114111 < v
    · exact .inl h1
    · right; refine ⟨by omega, ?_⟩; unfold Lib.validRune; simp; omega
  · split at h
    · cases h
    · split at h
      · cases h
      · split at h <;> cases h
theorem valueL_bound {b n : Nat} {s : Bs} {v : Nat} (hb : b ≤ 16) (h : valueL b n s = some v) : v < 16 ^ n := by
  have h1 := valueL_some h
  rw [h1.2.2, ← foldD_val]
  exact foldD_lt b hb _ h1.2.1 n (by rw [List.length_take]; omega)
theorem below_y {w w2 : World} (h : Below (w.alloc (.map singles 9)).drew.heap.size (w.alloc (.map singles 9)).drew w2) : Below w.heap.size w w2 :=
  (below_x w (.map singles 9)).2.1.trans (h.mono (below_x w (.map singles 9)).2.1.size)
theorem valueL_oct {s : Bs} {v : Nat} (h : valueL 8 3 s = some v) : v < 512 := by
  have h1 := valueL_some h
  rw [h1.2.2, ← foldD_val]
  have h2 : (s.take 3).length ≤ 3 := by rw [List.length_take]; omega
  have h3 := h1.2.1
  unfold foldD
  generalize s.take 3 = l at h2 h3
  match l, h2, h3 with
  | [], _, _ => simp
  | [a], _, h3 => have := h3 a (by simp); simp; omega
  | [a, b], _, h3 => have := h3 a (by simp); have := h3 b (by simp); simp; omega
  | [a, b, c], _, h3 => have := h3 a (by simp); have := h3 b (by simp); have := h3 c (by simp); simp; omega
theorem part_nil (w : World) : Calls Tryd.prog 63 #[.string (bs [])] w (PartEnd [] w) := by
  have e2 : (bs []).toList.isEmpty = true := by rw [toList_bs]; rfl
  have e3 : ((bs []).toList == ([] : Bs)) = true := by rw [toList_bs]; rfl
  have e4 : ((bs []).toList != ([] : Bs)) = false := by unfold bne; rw [e3]; rfl
  go_enter Tryd.func63, Tryd.ntmps63
  go_wp2_with fail
  refine (need_bad _).mono ?_
  rintro e w' ⟨rfl, rfl⟩
  exact ⟨rfl, PartEnd.bad rfl (Below.refl _ _)⟩
set_option maxRecDepth 100000 in
set_option maxHeartbeats 25600000 in
theorem part_x_any (s : ByteArray)  (r : Bs) (hs : s.data.toList = 120 :: r) (hl : s.size ≤ 90000) (w : World) :
    Calls Tryd.prog 63 #[.string s] w (PartEnd s.data.toList w) := by
  obtain ⟨i0, e0⟩ := byte_at0 hs
  have j0 : (0 : Int) < (s.size : Int) := by omega
  have j1 : (1 : Int) ≤ (s.size : Int) := by omega
  have j2 : (s.size : Int) ≤ 90000 := by omega
  have e2 : s.toList.isEmpty = false := by rw [toList_bs, hs]; rfl
  have e3 : (s.toList == ([] : Bs)) = false := by rw [toList_bs, hs]; rfl
  have hfi : Instr.findNow (.int .u8) (.int .u8 120) singles.toList 0 = some none := rfl
  have hlk : ∀ w : World, (Instr.lookup 100 (.map (some w.heap.size)) (.int .u8 120) true).run Tryd.prog (w.alloc (.map singles 9)) = _ := fun w => run_look (heap_alloc_new w _) _ hfi
  have hlk2 : ∀ w : World, (Instr.lookup 100 (.map (some w.heap.size)) (.int .u8 120) true).run Tryd.prog (w.alloc (.map singles 9)).drew = _ := fun w => run_look (w := (w.alloc (.map singles 9)).drew) (heap_alloc_new w _) _ hfi
  clear hfi
  obtain ⟨T, hT⟩ : ∃ T, s.extract 1 s.size = T := ⟨_, rfl⟩
  have hTl : T.data.toList = r := by rw [← hT, extract_from, hs]; rfl
  have hTz : T.size ≤ 90000 := by rw [← hT]; simp; omega
  cases hv : valueL 16 2 r with
  | none =>
    have HE : Hid (escL s.data.toList = none) := hide (by rw [hs]; simp [escL, singleL, hv])
    have HDG : Hid (∀ w, Calls Tryd.prog 82 #[.string T, .int .i64 2, .int .i64 16] w fun e w' => e = .panicked litWrong ∧ Below w.heap.size w w') := hide (fun w => by
      have h9 := digits_any T 2 16 (by omega) (by omega) (by omega) w
      unfold DigitsEnd at h9
      rw [hTl, hv] at h9
      exact h9)
    clear hs hTl hTz hv hl
    go_enter Tryd.func63, Tryd.ntmps63
    go_wp2_with fail
    refine (need_ok _).mono ?_
    rintro e w' ⟨rfl, rfl⟩
    go_wp2_with fail
    go_region_with (go_at_call 81; refine (single_any _).mono ?_; rintro e w1 ⟨rfl, rfl⟩)
    all_goals (go_wp2_with fail)
    all_goals (refine (HDG.out _).mono ?_)
    all_goals (rintro e w2 ⟨rfl, hb2⟩)
    all_goals (have HB2 := hide (below_y hb2); clear hb2)
    all_goals exact ⟨rfl, PartEnd.bad HE.out HB2.out⟩
  | some v =>
    have hlt := valueL_bound (by omega) hv
    have HE : Hid (escL s.data.toList = some ([UInt8.ofNat v], 3)) := hide (by rw [hs]; simp [escL, singleL, hv])
    have HDG : Hid (∀ w, Calls Tryd.prog 82 #[.string T, .int .i64 2, .int .i64 16] w fun e w' => e = .returned (.int .i64 (v : Int)) ∧ Below w.heap.size w w') := hide (fun w => by
      have h9 := digits_any T 2 16 (by omega) (by omega) (by omega) w
      unfold DigitsEnd at h9
      rw [hTl, hv] at h9
      exact h9)
    have hcv := one_byte v (by omega) (0, 0)
    have v0 : (0 : Int) ≤ (v : Int) := by omega
    have v1 : (v : Int) ≤ 255 := by omega
    clear hs hTl hTz hv hl hlt
    go_enter Tryd.func63, Tryd.ntmps63
    go_wp2_with fail
    refine (need_ok _).mono ?_
    rintro e w' ⟨rfl, rfl⟩
    go_wp2_with fail
    go_region_with (go_at_call 81; refine (single_any _).mono ?_; rintro e w1 ⟨rfl, rfl⟩)
    all_goals (go_wp2_with fail)
    all_goals (refine (HDG.out _).mono ?_)
    all_goals (rintro e w2 ⟨rfl, hb2⟩)
    all_goals (have HB2 := hide (below_y hb2); clear hb2)
    all_goals (go_wp2_with fail)
    all_goals go_ret2
    all_goals exact PartEnd.good HE.out (HB2.out.alloc HB2.out.size _)
set_option maxRecDepth 100000 in
set_option maxHeartbeats 25600000 in
theorem part_u_any (s : ByteArray)  (r : Bs) (hs : s.data.toList = 117 :: r) (hl : s.size ≤ 90000) (w : World) :
    Calls Tryd.prog 63 #[.string s] w (PartEnd s.data.toList w) := by
  obtain ⟨i0, e0⟩ := byte_at0 hs
  have j0 : (0 : Int) < (s.size : Int) := by omega
  have j1 : (1 : Int) ≤ (s.size : Int) := by omega
  have j2 : (s.size : Int) ≤ 90000 := by omega
  have e2 : s.toList.isEmpty = false := by rw [toList_bs, hs]; rfl
  have e3 : (s.toList == ([] : Bs)) = false := by rw [toList_bs, hs]; rfl
  have hfi : Instr.findNow (.int .u8) (.int .u8 117) singles.toList 0 = some none := rfl
  have hlk : ∀ w : World, (Instr.lookup 100 (.map (some w.heap.size)) (.int .u8 117) true).run Tryd.prog (w.alloc (.map singles 9)) = _ := fun w => run_look (heap_alloc_new w _) _ hfi
  have hlk2 : ∀ w : World, (Instr.lookup 100 (.map (some w.heap.size)) (.int .u8 117) true).run Tryd.prog (w.alloc (.map singles 9)).drew = _ := fun w => run_look (w := (w.alloc (.map singles 9)).drew) (heap_alloc_new w _) _ hfi
  clear hfi
  obtain ⟨T, hT⟩ : ∃ T, s.extract 1 s.size = T := ⟨_, rfl⟩
  have hTl : T.data.toList = r := by rw [← hT, extract_from, hs]; rfl
  have hTz : T.size ≤ 90000 := by rw [← hT]; simp; omega
  cases hv : valueL 16 4 r with
  | none =>
    have HE : Hid (escL s.data.toList = none) := hide (by rw [hs]; simp [escL, singleL, hv])
    have HDG : Hid (∀ w, Calls Tryd.prog 82 #[.string T, .int .i64 4, .int .i64 16] w fun e w' => e = .panicked litWrong ∧ Below w.heap.size w w') := hide (fun w => by
      have h9 := digits_any T 4 16 (by omega) (by omega) (by omega) w
      unfold DigitsEnd at h9
      rw [hTl, hv] at h9
      exact h9)
    clear hs hTl hTz hv hl
    go_enter Tryd.func63, Tryd.ntmps63
    go_wp2_with fail
    refine (need_ok _).mono ?_
    rintro e w' ⟨rfl, rfl⟩
    go_wp2_with fail
    go_region_with (go_at_call 81; refine (single_any _).mono ?_; rintro e w1 ⟨rfl, rfl⟩)
    all_goals (go_wp2_with fail)
    all_goals (refine (HDG.out _).mono ?_)
    all_goals (rintro e w2 ⟨rfl, hb2⟩)
    all_goals (have HB2 := hide (below_y hb2); clear hb2)
    all_goals exact ⟨rfl, PartEnd.bad HE.out HB2.out⟩
  | some v =>
    have hlt := valueL_bound (by omega) hv
    have HDG : Hid (∀ w, Calls Tryd.prog 82 #[.string T, .int .i64 4, .int .i64 16] w fun e w' => e = .returned (.int .i64 (v : Int)) ∧ Below w.heap.size w w') := hide (fun w => by
      have h9 := digits_any T 4 16 (by omega) (by omega) (by omega) w
      unfold DigitsEnd at h9
      rw [hTl, hv] at h9
      exact h9)
    have v0 : (0 : Int) ≤ (v : Int) := by omega
    have v1 : (v : Int) ≤ 4294967296 := by omega
    cases hu : signU v with
    | none =>
      have HE : Hid (escL s.data.toList = none) := hide (by rw [hs]; simp [escL, singleL, hv, hu])
      rcases sign_none hu with hq | ⟨hq, hq2⟩
      · have v2 : ¬ (v : Int) ≤ 1114111 := by omega
        have v3 : decide (v ≤ 1114111) = false := decide_eq_false (by omega)
        clear hs hTl hTz hv hl hlt hu hq
        go_enter Tryd.func63, Tryd.ntmps63
        go_wp2_with fail
        refine (need_ok _).mono ?_
        rintro e w' ⟨rfl, rfl⟩
        go_wp2_with fail
        go_region_with (go_at_call 81; refine (single_any _).mono ?_; rintro e w1 ⟨rfl, rfl⟩)
        all_goals (go_wp2_with fail)
        all_goals (refine (HDG.out _).mono ?_)
        all_goals (rintro e w2 ⟨rfl, hb2⟩)
        all_goals (have HB2 := hide (below_y hb2); clear hb2)
        all_goals (go_wp2_with fail)
        all_goals (refine (need_bad _).mono ?_)
        all_goals (rintro e w' ⟨rfl, rfl⟩)
        all_goals exact ⟨rfl, PartEnd.bad HE.out HB2.out⟩
      · have v2 : (v : Int) ≤ 1114111 := by omega
        have HVR : Hid (∀ w, Calls Tryd.prog 83 #[.int .i32 (v : Int)] w fun e w' => e = .returned (.bool false) ∧ w' = w) := hide (fun w => by have h9 := Tryd.utf8_ValidRune (v : Int) w; rw [hq2] at h9; exact h9)
        clear hs hTl hTz hv hl hlt hu hq hq2
        go_enter Tryd.func63, Tryd.ntmps63
        go_wp2_with fail
        refine (need_ok _).mono ?_
        rintro e w' ⟨rfl, rfl⟩
        go_wp2_with fail
        go_region_with (go_at_call 81; refine (single_any _).mono ?_; rintro e w1 ⟨rfl, rfl⟩)
        all_goals (go_wp2_with fail)
        all_goals (refine (HDG.out _).mono ?_)
        all_goals (rintro e w2 ⟨rfl, hb2⟩)
        all_goals (have HB2 := hide (below_y hb2); clear hb2)
        all_goals (go_wp2_with fail)
        all_goals (refine (HVR.out _).mono ?_)
        all_goals (rintro e w3 ⟨rfl, rfl⟩)
        all_goals (go_wp2_with fail)
        all_goals (refine (need_bad _).mono ?_)
        all_goals (rintro e w' ⟨rfl, rfl⟩)
        all_goals exact ⟨rfl, PartEnd.bad HE.out HB2.out⟩
    | some bb =>
      have HE : Hid (escL s.data.toList = some (bb, 5)) := hide (by rw [hs]; simp [escL, singleL, hv, hu])
      obtain ⟨g1, g2, g3⟩ := encode_sign hu
      have v2 : (v : Int) ≤ 1114111 := by omega
      have HVR : Hid (∀ w, Calls Tryd.prog 83 #[.int .i32 (v : Int)] w fun e w' => e = .returned (.bool true) ∧ w' = w) := hide (fun w => by have h9 := Tryd.utf8_ValidRune (v : Int) w; rw [g3] at h9; exact h9)
      clear hs hTl hTz hv hl hlt hu g2 g3
      go_enter Tryd.func63, Tryd.ntmps63
      go_wp2_with fail
      refine (need_ok _).mono ?_
      rintro e w' ⟨rfl, rfl⟩
      go_wp2_with fail
      go_region_with (go_at_call 81; refine (single_any _).mono ?_; rintro e w1 ⟨rfl, rfl⟩)
      all_goals (go_wp2_with fail)
      all_goals (refine (HDG.out _).mono ?_)
      all_goals (rintro e w2 ⟨rfl, hb2⟩)
      all_goals (have HB2 := hide (below_y hb2); clear hb2)
      all_goals (go_wp2_with fail)
      all_goals (refine (HVR.out _).mono ?_)
      all_goals (rintro e w3 ⟨rfl, rfl⟩)
      all_goals (go_wp2_with fail)
      all_goals (refine (need_ok _).mono ?_)
      all_goals (rintro e w' ⟨rfl, rfl⟩)
      all_goals (go_wp2_with fail)
      all_goals go_ret2
      all_goals exact PartEnd.good HE.out HB2.out
set_option maxRecDepth 100000 in
set_option maxHeartbeats 25600000 in
theorem part_U_any (s : ByteArray)  (r : Bs) (hs : s.data.toList = 85 :: r) (hl : s.size ≤ 90000) (w : World) :
    Calls Tryd.prog 63 #[.string s] w (PartEnd s.data.toList w) := by
  obtain ⟨i0, e0⟩ := byte_at0 hs
  have j0 : (0 : Int) < (s.size : Int) := by omega
  have j1 : (1 : Int) ≤ (s.size : Int) := by omega
  have j2 : (s.size : Int) ≤ 90000 := by omega
  have e2 : s.toList.isEmpty = false := by rw [toList_bs, hs]; rfl
  have e3 : (s.toList == ([] : Bs)) = false := by rw [toList_bs, hs]; rfl
  have hfi : Instr.findNow (.int .u8) (.int .u8 85) singles.toList 0 = some none := rfl
  have hlk : ∀ w : World, (Instr.lookup 100 (.map (some w.heap.size)) (.int .u8 85) true).run Tryd.prog (w.alloc (.map singles 9)) = _ := fun w => run_look (heap_alloc_new w _) _ hfi
  have hlk2 : ∀ w : World, (Instr.lookup 100 (.map (some w.heap.size)) (.int .u8 85) true).run Tryd.prog (w.alloc (.map singles 9)).drew = _ := fun w => run_look (w := (w.alloc (.map singles 9)).drew) (heap_alloc_new w _) _ hfi
  clear hfi
  obtain ⟨T, hT⟩ : ∃ T, s.extract 1 s.size = T := ⟨_, rfl⟩
  have hTl : T.data.toList = r := by rw [← hT, extract_from, hs]; rfl
  have hTz : T.size ≤ 90000 := by rw [← hT]; simp; omega
  cases hv : valueL 16 8 r with
  | none =>
    have HE : Hid (escL s.data.toList = none) := hide (by rw [hs]; simp [escL, singleL, hv])
    have HDG : Hid (∀ w, Calls Tryd.prog 82 #[.string T, .int .i64 8, .int .i64 16] w fun e w' => e = .panicked litWrong ∧ Below w.heap.size w w') := hide (fun w => by
      have h9 := digits_any T 8 16 (by omega) (by omega) (by omega) w
      unfold DigitsEnd at h9
      rw [hTl, hv] at h9
      exact h9)
    clear hs hTl hTz hv hl
    go_enter Tryd.func63, Tryd.ntmps63
    go_wp2_with fail
    refine (need_ok _).mono ?_
    rintro e w' ⟨rfl, rfl⟩
    go_wp2_with fail
    go_region_with (go_at_call 81; refine (single_any _).mono ?_; rintro e w1 ⟨rfl, rfl⟩)
    all_goals (go_wp2_with fail)
    all_goals (refine (HDG.out _).mono ?_)
    all_goals (rintro e w2 ⟨rfl, hb2⟩)
    all_goals (have HB2 := hide (below_y hb2); clear hb2)
    all_goals exact ⟨rfl, PartEnd.bad HE.out HB2.out⟩
  | some v =>
    have hlt := valueL_bound (by omega) hv
    have HDG : Hid (∀ w, Calls Tryd.prog 82 #[.string T, .int .i64 8, .int .i64 16] w fun e w' => e = .returned (.int .i64 (v : Int)) ∧ Below w.heap.size w w') := hide (fun w => by
      have h9 := digits_any T 8 16 (by omega) (by omega) (by omega) w
      unfold DigitsEnd at h9
      rw [hTl, hv] at h9
      exact h9)
    have v0 : (0 : Int) ≤ (v : Int) := by omega
    have v1 : (v : Int) ≤ 4294967296 := by omega
    cases hu : signU v with
    | none =>
      have HE : Hid (escL s.data.toList = none) := hide (by rw [hs]; simp [escL, singleL, hv, hu])
      rcases sign_none hu with hq | ⟨hq, hq2⟩
      · have v2 : ¬ (v : Int) ≤ 1114111 := by omega
        have v3 : decide (v ≤ 1114111) = false := decide_eq_false (by omega)
        clear hs hTl hTz hv hl hlt hu hq
        go_enter Tryd.func63, Tryd.ntmps63
        go_wp2_with fail
        refine (need_ok _).mono ?_
        rintro e w' ⟨rfl, rfl⟩
        go_wp2_with fail
        go_region_with (go_at_call 81; refine (single_any _).mono ?_; rintro e w1 ⟨rfl, rfl⟩)
        all_goals (go_wp2_with fail)
        all_goals (refine (HDG.out _).mono ?_)
        all_goals (rintro e w2 ⟨rfl, hb2⟩)
        all_goals (have HB2 := hide (below_y hb2); clear hb2)
        all_goals (go_wp2_with fail)
        all_goals (refine (need_bad _).mono ?_)
        all_goals (rintro e w' ⟨rfl, rfl⟩)
        all_goals exact ⟨rfl, PartEnd.bad HE.out HB2.out⟩
      · have v2 : (v : Int) ≤ 1114111 := by omega
        have HVR : Hid (∀ w, Calls Tryd.prog 83 #[.int .i32 (v : Int)] w fun e w' => e = .returned (.bool false) ∧ w' = w) := hide (fun w => by have h9 := Tryd.utf8_ValidRune (v : Int) w; rw [hq2] at h9; exact h9)
        clear hs hTl hTz hv hl hlt hu hq hq2
        go_enter Tryd.func63, Tryd.ntmps63
        go_wp2_with fail
        refine (need_ok _).mono ?_
        rintro e w' ⟨rfl, rfl⟩
        go_wp2_with fail
        go_region_with (go_at_call 81; refine (single_any _).mono ?_; rintro e w1 ⟨rfl, rfl⟩)
        all_goals (go_wp2_with fail)
        all_goals (refine (HDG.out _).mono ?_)
        all_goals (rintro e w2 ⟨rfl, hb2⟩)
        all_goals (have HB2 := hide (below_y hb2); clear hb2)
        all_goals (go_wp2_with fail)
        all_goals (refine (HVR.out _).mono ?_)
        all_goals (rintro e w3 ⟨rfl, rfl⟩)
        all_goals (go_wp2_with fail)
        all_goals (refine (need_bad _).mono ?_)
        all_goals (rintro e w' ⟨rfl, rfl⟩)
        all_goals exact ⟨rfl, PartEnd.bad HE.out HB2.out⟩
    | some bb =>
      have HE : Hid (escL s.data.toList = some (bb, 9)) := hide (by rw [hs]; simp [escL, singleL, hv, hu])
      obtain ⟨g1, g2, g3⟩ := encode_sign hu
      have v2 : (v : Int) ≤ 1114111 := by omega
      have HVR : Hid (∀ w, Calls Tryd.prog 83 #[.int .i32 (v : Int)] w fun e w' => e = .returned (.bool true) ∧ w' = w) := hide (fun w => by have h9 := Tryd.utf8_ValidRune (v : Int) w; rw [g3] at h9; exact h9)
      clear hs hTl hTz hv hl hlt hu g2 g3
      go_enter Tryd.func63, Tryd.ntmps63
      go_wp2_with fail
      refine (need_ok _).mono ?_
      rintro e w' ⟨rfl, rfl⟩
      go_wp2_with fail
      go_region_with (go_at_call 81; refine (single_any _).mono ?_; rintro e w1 ⟨rfl, rfl⟩)
      all_goals (go_wp2_with fail)
      all_goals (refine (HDG.out _).mono ?_)
      all_goals (rintro e w2 ⟨rfl, hb2⟩)
      all_goals (have HB2 := hide (below_y hb2); clear hb2)
      all_goals (go_wp2_with fail)
      all_goals (refine (HVR.out _).mono ?_)
      all_goals (rintro e w3 ⟨rfl, rfl⟩)
      all_goals (go_wp2_with fail)
      all_goals (refine (need_ok _).mono ?_)
      all_goals (rintro e w' ⟨rfl, rfl⟩)
      all_goals (go_wp2_with fail)
      all_goals go_ret2
      all_goals exact PartEnd.good HE.out HB2.out
set_option maxRecDepth 100000 in
set_option maxHeartbeats 25600000 in
theorem part_oct (s : ByteArray) (c : UInt8) (hc0 : singleL c = none) (hc1 : c ≠ 120) (hc2 : c ≠ 117) (hc3 : c ≠ 85) (r : Bs) (hs : s.data.toList = c :: r) (hl : s.size ≤ 90000) (w : World) :
    Calls Tryd.prog 63 #[.string s] w (PartEnd s.data.toList w) := by
  obtain ⟨i0, e0⟩ := byte_at0 hs
  have j0 : (0 : Int) < (s.size : Int) := by omega
  have j1 : (1 : Int) ≤ (s.size : Int) := by omega
  have j2 : (s.size : Int) ≤ 90000 := by omega
  have e2 : s.toList.isEmpty = false := by rw [toList_bs, hs]; rfl
  have e3 : (s.toList == ([] : Bs)) = false := by rw [toList_bs, hs]; rfl
  have hfi : Instr.findNow (.int .u8) (.int .u8 (c.toNat : Int)) singles.toList 0 = some none := find_none hc0
  have hlk : ∀ w : World, (Instr.lookup 100 (.map (some w.heap.size)) (.int .u8 (c.toNat : Int)) true).run Tryd.prog (w.alloc (.map singles 9)) = _ := fun w => run_look (heap_alloc_new w _) _ hfi
  have hlk2 : ∀ w : World, (Instr.lookup 100 (.map (some w.heap.size)) (.int .u8 (c.toNat : Int)) true).run Tryd.prog (w.alloc (.map singles 9)).drew = _ := fun w => run_look (w := (w.alloc (.map singles 9)).drew) (heap_alloc_new w _) _ hfi
  clear hfi
  have q1 : (((c.toNat : Int)) == 120) = false := byte_eqF 120 120 hc1
  have q2 : (((c.toNat : Int)) == 117) = false := byte_eqF 117 117 hc2
  have q3 : (((c.toNat : Int)) == 85) = false := byte_eqF 85 85 hc3
  cases hv : valueL 8 3 (c :: r) with
  | none =>
    have HE : Hid (escL s.data.toList = none) := hide (by rw [hs]; simp [escL, hc0, hc1, hc2, hc3, hv])
    have HDG : Hid (∀ w, Calls Tryd.prog 82 #[.string s, .int .i64 3, .int .i64 8] w fun e w' => e = .panicked litWrong ∧ Below w.heap.size w w') := hide (fun w => by
      have h9 := digits_any s 3 8 (by omega) (by omega) (by omega) w
      unfold DigitsEnd at h9
      rw [hs, hv] at h9
      exact h9)
    clear hs hv hl hc0 hc1 hc2 hc3
    go_enter Tryd.func63, Tryd.ntmps63
    go_wp2_with fail
    refine (need_ok _).mono ?_
    rintro e w' ⟨rfl, rfl⟩
    go_wp2_with fail
    go_region_with (go_at_call 81; refine (single_any _).mono ?_; rintro e w1 ⟨rfl, rfl⟩)
    all_goals (go_wp2_with fail)
    all_goals (refine (HDG.out _).mono ?_)
    all_goals (rintro e w2 ⟨rfl, hb2⟩)
    all_goals (have HB2 := hide (below_y hb2); clear hb2)
    all_goals exact ⟨rfl, PartEnd.bad HE.out HB2.out⟩
  | some v =>
    have hlt := valueL_oct hv
    have HDG : Hid (∀ w, Calls Tryd.prog 82 #[.string s, .int .i64 3, .int .i64 8] w fun e w' => e = .returned (.int .i64 (v : Int)) ∧ Below w.heap.size w w') := hide (fun w => by
      have h9 := digits_any s 3 8 (by omega) (by omega) (by omega) w
      unfold DigitsEnd at h9
      rw [hs, hv] at h9
      exact h9)
    have v0 : (0 : Int) ≤ (v : Int) := by omega
    have v1 : (v : Int) ≤ 511 := by omega
    by_cases h255 : v ≤ 255
    · have HE : Hid (escL s.data.toList = some ([UInt8.ofNat v], 3)) := hide (by rw [hs]; simp [escL, hc0, hc1, hc2, hc3, hv]; omega)
      have hcv := one_byte v (by omega) (0, 0)
      have v2 : (v : Int) ≤ 255 := by omega
      clear hs hv hl hlt hc0 hc1 hc2 hc3
      go_enter Tryd.func63, Tryd.ntmps63
      go_wp2_with fail
      refine (need_ok _).mono ?_
      rintro e w' ⟨rfl, rfl⟩
      go_wp2_with fail
      go_region_with (go_at_call 81; refine (single_any _).mono ?_; rintro e w1 ⟨rfl, rfl⟩)
      all_goals (go_wp2_with fail)
      all_goals (refine (HDG.out _).mono ?_)
      all_goals (rintro e w2 ⟨rfl, hb2⟩)
      all_goals (have HB2 := hide (below_y hb2); clear hb2)
      all_goals (go_wp2_with fail)
      all_goals (refine (need_ok _).mono ?_)
      all_goals (rintro e w' ⟨rfl, rfl⟩)
      all_goals (go_wp2_with fail)
      all_goals go_ret2
      all_goals exact PartEnd.good HE.out (HB2.out.alloc HB2.out.size _)
    · have HE : Hid (escL s.data.toList = none) := hide (by rw [hs]; simp [escL, hc0, hc1, hc2, hc3, hv]; omega)
      have v2 : ¬ (v : Int) ≤ 255 := by omega
      have v3 : decide (v ≤ 255) = false := decide_eq_false h255
      have v4 : decide ((v : Int) ≤ 255) = false := decide_eq_false v2
      clear hs hv hl hlt hc0 hc1 hc2 hc3
      go_enter Tryd.func63, Tryd.ntmps63
      go_wp2_with fail
      refine (need_ok _).mono ?_
      rintro e w' ⟨rfl, rfl⟩
      go_wp2_with fail
      go_region_with (go_at_call 81; refine (single_any _).mono ?_; rintro e w1 ⟨rfl, rfl⟩)
      all_goals (go_wp2_with fail)
      all_goals (refine (HDG.out _).mono ?_)
      all_goals (rintro e w2 ⟨rfl, hb2⟩)
      all_goals (have HB2 := hide (below_y hb2); clear hb2)
      all_goals (go_wp2_with fail)
      all_goals (refine (need_bad _).mono ?_)
      all_goals (rintro e w' ⟨rfl, rfl⟩)
      all_goals exact ⟨rfl, PartEnd.bad HE.out HB2.out⟩
theorem part_any (s : ByteArray) (hl : s.size ≤ 90000) (w : World) : Calls Tryd.prog 63 #[.string s] w (PartEnd s.data.toList w) := by
  cases hs : s.data.toList with
  | nil =>
    have : s = bs [] := by rw [← bs_of s, hs]
    rw [this]
    exact part_nil w
  | cons c r =>
    rw [← hs]
    cases hc : singleL c with
    | some b =>
      refine (part_single s c b r hs (by omega) hc w).mono ?_
      rintro e w' ⟨rfl, hb⟩
      exact PartEnd.good (by rw [hs]; simp [escL, hc]) hb
    | none =>
      by_cases h1 : c = 120
      · subst h1; exact part_x_any s r hs hl w
      by_cases h2 : c = 117
      · subst h2; exact part_u_any s r hs hl w
      by_cases h3 : c = 85
      · subst h3; exact part_U_any s r hs hl w
      exact part_oct s c hc h1 h2 h3 r hs hl w
end Go.Proofs.YtehflgllfkkfoaaDoor
