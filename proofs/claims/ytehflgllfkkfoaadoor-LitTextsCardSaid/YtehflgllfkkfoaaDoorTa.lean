import Derived.Test.YtehflgllfkkfoaaDoorProg
import Derived.Test.YtehflgllfkkfoaaDoorTok
import Derived.WalkKit
import Derived.WalkSpells
import Derived.WalkLawsBesides
import Derived.Below
namespace Go.Proofs.YtehflgllfkkfoaaDoor
open Go.RowKit Go.Proofs.Dm
theorem word_none (s : Bs) (h : ¬ s ∈ words1 ++ words2) : word s = 0 := by
  simp only [List.mem_append, not_or] at h
  unfold word; rw [if_neg h.1, if_neg h.2]
set_option maxHeartbeats 4000000 in
theorem word_any (s : ByteArray) (w : World) : Calls Tryd.prog 24 #[.string s] w fun e w' => e = .returned (.int .i64 (word s.toList)) ∧ w = w' := by
  by_cases h0 : (s.toList == [98, 114, 101, 97, 107]) = true
  · have hr : Hid (word s.toList = 1) := by rw [beq_iff_eq] at h0; rw [h0]; exact (by decide : word [98, 114, 101, 97, 107] = 1)
    go_enter Tryd.func24, Tryd.ntmps24; go_wp2; go_ret; exact ⟨by rw [hr.out]; rfl, rfl⟩
  simp only [Bool.not_eq_true] at h0
  by_cases h1 : (s.toList == [99, 111, 110, 116, 105, 110, 117, 101]) = true
  · have hr : Hid (word s.toList = 1) := by rw [beq_iff_eq] at h1; rw [h1]; exact (by decide : word [99, 111, 110, 116, 105, 110, 117, 101] = 1)
    go_enter Tryd.func24, Tryd.ntmps24; go_wp2; go_ret; exact ⟨by rw [hr.out]; rfl, rfl⟩
  simp only [Bool.not_eq_true] at h1
  by_cases h2 : (s.toList == [101, 108, 115, 101]) = true
  · have hr : Hid (word s.toList = 1) := by rw [beq_iff_eq] at h2; rw [h2]; exact (by decide : word [101, 108, 115, 101] = 1)
    go_enter Tryd.func24, Tryd.ntmps24; go_wp2; go_ret; exact ⟨by rw [hr.out]; rfl, rfl⟩
  simp only [Bool.not_eq_true] at h2
  by_cases h3 : (s.toList == [102, 111, 114]) = true
  · have hr : Hid (word s.toList = 1) := by rw [beq_iff_eq] at h3; rw [h3]; exact (by decide : word [102, 111, 114] = 1)
    go_enter Tryd.func24, Tryd.ntmps24; go_wp2; go_ret; exact ⟨by rw [hr.out]; rfl, rfl⟩
  simp only [Bool.not_eq_true] at h3
  by_cases h4 : (s.toList == [102, 117, 110, 99]) = true
  · have hr : Hid (word s.toList = 1) := by rw [beq_iff_eq] at h4; rw [h4]; exact (by decide : word [102, 117, 110, 99] = 1)
    go_enter Tryd.func24, Tryd.ntmps24; go_wp2; go_ret; exact ⟨by rw [hr.out]; rfl, rfl⟩
  simp only [Bool.not_eq_true] at h4
  by_cases h5 : (s.toList == [105, 102]) = true
  · have hr : Hid (word s.toList = 1) := by rw [beq_iff_eq] at h5; rw [h5]; exact (by decide : word [105, 102] = 1)
    go_enter Tryd.func24, Tryd.ntmps24; go_wp2; go_ret; exact ⟨by rw [hr.out]; rfl, rfl⟩
  simp only [Bool.not_eq_true] at h5
  by_cases h6 : (s.toList == [105, 109, 112, 111, 114, 116]) = true
  · have hr : Hid (word s.toList = 1) := by rw [beq_iff_eq] at h6; rw [h6]; exact (by decide : word [105, 109, 112, 111, 114, 116] = 1)
    go_enter Tryd.func24, Tryd.ntmps24; go_wp2; go_ret; exact ⟨by rw [hr.out]; rfl, rfl⟩
  simp only [Bool.not_eq_true] at h6
  by_cases h7 : (s.toList == [105, 110, 116, 101, 114, 102, 97, 99, 101]) = true
  · have hr : Hid (word s.toList = 1) := by rw [beq_iff_eq] at h7; rw [h7]; exact (by decide : word [105, 110, 116, 101, 114, 102, 97, 99, 101] = 1)
    go_enter Tryd.func24, Tryd.ntmps24; go_wp2; go_ret; exact ⟨by rw [hr.out]; rfl, rfl⟩
  simp only [Bool.not_eq_true] at h7
  by_cases h8 : (s.toList == [112, 97, 99, 107, 97, 103, 101]) = true
  · have hr : Hid (word s.toList = 1) := by rw [beq_iff_eq] at h8; rw [h8]; exact (by decide : word [112, 97, 99, 107, 97, 103, 101] = 1)
    go_enter Tryd.func24, Tryd.ntmps24; go_wp2; go_ret; exact ⟨by rw [hr.out]; rfl, rfl⟩
  simp only [Bool.not_eq_true] at h8
  by_cases h9 : (s.toList == [114, 97, 110, 103, 101]) = true
  · have hr : Hid (word s.toList = 1) := by rw [beq_iff_eq] at h9; rw [h9]; exact (by decide : word [114, 97, 110, 103, 101] = 1)
    go_enter Tryd.func24, Tryd.ntmps24; go_wp2; go_ret; exact ⟨by rw [hr.out]; rfl, rfl⟩
  simp only [Bool.not_eq_true] at h9
  by_cases h10 : (s.toList == [114, 101, 116, 117, 114, 110]) = true
  · have hr : Hid (word s.toList = 1) := by rw [beq_iff_eq] at h10; rw [h10]; exact (by decide : word [114, 101, 116, 117, 114, 110] = 1)
    go_enter Tryd.func24, Tryd.ntmps24; go_wp2; go_ret; exact ⟨by rw [hr.out]; rfl, rfl⟩
  simp only [Bool.not_eq_true] at h10
  by_cases h11 : (s.toList == [115, 116, 114, 117, 99, 116]) = true
  · have hr : Hid (word s.toList = 1) := by rw [beq_iff_eq] at h11; rw [h11]; exact (by decide : word [115, 116, 114, 117, 99, 116] = 1)
    go_enter Tryd.func24, Tryd.ntmps24; go_wp2; go_ret; exact ⟨by rw [hr.out]; rfl, rfl⟩
  simp only [Bool.not_eq_true] at h11
  by_cases h12 : (s.toList == [116, 121, 112, 101]) = true
  · have hr : Hid (word s.toList = 1) := by rw [beq_iff_eq] at h12; rw [h12]; exact (by decide : word [116, 121, 112, 101] = 1)
    go_enter Tryd.func24, Tryd.ntmps24; go_wp2; go_ret; exact ⟨by rw [hr.out]; rfl, rfl⟩
  simp only [Bool.not_eq_true] at h12
  by_cases h13 : (s.toList == [118, 97, 114]) = true
  · have hr : Hid (word s.toList = 1) := by rw [beq_iff_eq] at h13; rw [h13]; exact (by decide : word [118, 97, 114] = 1)
    go_enter Tryd.func24, Tryd.ntmps24; go_wp2; go_ret; exact ⟨by rw [hr.out]; rfl, rfl⟩
  simp only [Bool.not_eq_true] at h13
  by_cases h14 : (s.toList == [99, 97, 115, 101]) = true
  · have hr : Hid (word s.toList = 2) := by rw [beq_iff_eq] at h14; rw [h14]; exact (by decide : word [99, 97, 115, 101] = 2)
    go_enter Tryd.func24, Tryd.ntmps24; go_wp2; go_ret; exact ⟨by rw [hr.out]; rfl, rfl⟩
  simp only [Bool.not_eq_true] at h14
  by_cases h15 : (s.toList == [99, 104, 97, 110]) = true
  · have hr : Hid (word s.toList = 2) := by rw [beq_iff_eq] at h15; rw [h15]; exact (by decide : word [99, 104, 97, 110] = 2)
    go_enter Tryd.func24, Tryd.ntmps24; go_wp2; go_ret; exact ⟨by rw [hr.out]; rfl, rfl⟩
  simp only [Bool.not_eq_true] at h15
  by_cases h16 : (s.toList == [99, 111, 110, 115, 116]) = true
  · have hr : Hid (word s.toList = 2) := by rw [beq_iff_eq] at h16; rw [h16]; exact (by decide : word [99, 111, 110, 115, 116] = 2)
    go_enter Tryd.func24, Tryd.ntmps24; go_wp2; go_ret; exact ⟨by rw [hr.out]; rfl, rfl⟩
  simp only [Bool.not_eq_true] at h16
  by_cases h17 : (s.toList == [100, 101, 102, 97, 117, 108, 116]) = true
  · have hr : Hid (word s.toList = 2) := by rw [beq_iff_eq] at h17; rw [h17]; exact (by decide : word [100, 101, 102, 97, 117, 108, 116] = 2)
    go_enter Tryd.func24, Tryd.ntmps24; go_wp2; go_ret; exact ⟨by rw [hr.out]; rfl, rfl⟩
  simp only [Bool.not_eq_true] at h17
  by_cases h18 : (s.toList == [100, 101, 102, 101, 114]) = true
  · have hr : Hid (word s.toList = 2) := by rw [beq_iff_eq] at h18; rw [h18]; exact (by decide : word [100, 101, 102, 101, 114] = 2)
    go_enter Tryd.func24, Tryd.ntmps24; go_wp2; go_ret; exact ⟨by rw [hr.out]; rfl, rfl⟩
  simp only [Bool.not_eq_true] at h18
  by_cases h19 : (s.toList == [102, 97, 108, 108, 116, 104, 114, 111, 117, 103, 104]) = true
  · have hr : Hid (word s.toList = 2) := by rw [beq_iff_eq] at h19; rw [h19]; exact (by decide : word [102, 97, 108, 108, 116, 104, 114, 111, 117, 103, 104] = 2)
    go_enter Tryd.func24, Tryd.ntmps24; go_wp2; go_ret; exact ⟨by rw [hr.out]; rfl, rfl⟩
  simp only [Bool.not_eq_true] at h19
  by_cases h20 : (s.toList == [103, 111]) = true
  · have hr : Hid (word s.toList = 2) := by rw [beq_iff_eq] at h20; rw [h20]; exact (by decide : word [103, 111] = 2)
    go_enter Tryd.func24, Tryd.ntmps24; go_wp2; go_ret; exact ⟨by rw [hr.out]; rfl, rfl⟩
  simp only [Bool.not_eq_true] at h20
  by_cases h21 : (s.toList == [103, 111, 116, 111]) = true
  · have hr : Hid (word s.toList = 2) := by rw [beq_iff_eq] at h21; rw [h21]; exact (by decide : word [103, 111, 116, 111] = 2)
    go_enter Tryd.func24, Tryd.ntmps24; go_wp2; go_ret; exact ⟨by rw [hr.out]; rfl, rfl⟩
  simp only [Bool.not_eq_true] at h21
  by_cases h22 : (s.toList == [109, 97, 112]) = true
  · have hr : Hid (word s.toList = 2) := by rw [beq_iff_eq] at h22; rw [h22]; exact (by decide : word [109, 97, 112] = 2)
    go_enter Tryd.func24, Tryd.ntmps24; go_wp2; go_ret; exact ⟨by rw [hr.out]; rfl, rfl⟩
  simp only [Bool.not_eq_true] at h22
  by_cases h23 : (s.toList == [115, 101, 108, 101, 99, 116]) = true
  · have hr : Hid (word s.toList = 2) := by rw [beq_iff_eq] at h23; rw [h23]; exact (by decide : word [115, 101, 108, 101, 99, 116] = 2)
    go_enter Tryd.func24, Tryd.ntmps24; go_wp2; go_ret; exact ⟨by rw [hr.out]; rfl, rfl⟩
  simp only [Bool.not_eq_true] at h23
  by_cases h24 : (s.toList == [115, 119, 105, 116, 99, 104]) = true
  · have hr : Hid (word s.toList = 2) := by rw [beq_iff_eq] at h24; rw [h24]; exact (by decide : word [115, 119, 105, 116, 99, 104] = 2)
    go_enter Tryd.func24, Tryd.ntmps24; go_wp2; go_ret; exact ⟨by rw [hr.out]; rfl, rfl⟩
  simp only [Bool.not_eq_true] at h24
  have hr : Hid (word s.toList = 0) := word_none s.toList (by simp only [words1, words2, List.cons_append, List.nil_append, List.mem_cons, List.mem_nil_iff, or_false, not_or]; simp only [beq_eq_false_iff_ne] at *; simp only [ne_eq] at *; simp only [*, not_false_eq_true, and_self])
  go_enter Tryd.func24, Tryd.ntmps24; go_wp2; go_ret; exact ⟨by rw [hr.out]; rfl, rfl⟩
end Go.Proofs.YtehflgllfkkfoaaDoor
