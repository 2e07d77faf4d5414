/- The reference's small functions of chapter 02: in, Word, letter, figure, Name. -/
import Derived.Test.YtehflgllfkkfoaaDoorNm
set_option linter.unusedVariables false
set_option linter.unusedSimpArgs false
namespace Go.Proofs.YtehflgllfkkfoaaDoor
open Go.RowKit Go.Proofs.Dm

theorem toList_bs (T : ByteArray) : T.toList = T.data.toList := by rw [← bs_of T]; exact bs_toList _
theorem figure_letter (c : UInt8) (h : figure c = true) : letter c = false := by
  have : ∀ c : Fin 256, figure (UInt8.ofNat c.val) = true → letter (UInt8.ofNat c.val) = false := by decide +kernel
  have := this ⟨c.toNat, c.toNat_lt⟩
  simp only [UInt8.ofNat_toNat] at this
  exact this h
theorem ret_int {k : IntKind} {a b : Int} (h : a = b) : Ending.returned (.int k a) = .returned (.int k b) := by rw [h]
set_option maxRecDepth 100000 in
set_option maxHeartbeats 3200000 in
theorem in_any (w : World) (t : Bs) (g o c : Nat) (ws : List Bs) (n : Nat) (hn : n = ws.length) (hcell : ∀ j (hj : j < ws.length), w.cell? ⟨g, o + j, none⟩ = some (.string (bs (ws[j]'hj)))) (hc : n ≤ c) (hl : n ≤ 1000) :
    Calls Tryd.prog 45 #[.string (bs t), .slice (some ⟨g, o, none⟩) n c] w fun e w' => e = .returned (.bool (decide (t ∈ ws))) ∧ w = w' := by
  have HC := hide hcell; clear hcell
  have HN := hide hn; clear hn
  obtain ⟨B, hB⟩ : ∃ B, decide (t ∈ ws) = B := ⟨_, rfl⟩
  rw [hB]
  have HB := hide hB; clear hB
  have hl2 : (n : Int) ≤ 1000 := by omega
  have hc2 : (n : Int) ≤ (c : Int) := by omega
  go_enter Tryd.func45, Tryd.ntmps45
  go_wp2_with fail
  go_loop [5] (fun i => ∃ k : Nat, k ≤ n ∧ i = .int .i64 k ∧ t ∉ ws.take k) (fun i => n - (intOf i).toNat)
  case atStart => exact ⟨0, Nat.zero_le _, rfl, by simp⟩
  case round =>
    obtain ⟨k, hk, rfl, hno⟩ := hrel
    have HNO := hide hno; clear hno
    by_cases hlt : k < n
    · have hlt2 : (k : Int) < (n : Int) := by omega
      have hk2 : k < ws.length := by rw [← HN.out]; exact hlt
      have h0 := HC.out k hk2
      obtain ⟨x, hx⟩ : ∃ x, ws[k]'hk2 = x := ⟨_, rfl⟩
      rw [hx] at h0
      have HX := hide hx; clear hx
      by_cases he : x = t
      · have hb : Hid (B = true) := hide (by
          rw [← HB.out, decide_eq_true_eq, ← he, ← HX.out]
          exact List.getElem_mem _)
        have e1 : ((bs x).toList == (bs t).toList) = true := by rw [he]; simp
        clear he
        go_wp2_with fail
        go_ret
        exact ⟨ret_bool hb.out.symm, rfl⟩
      · have e1 : ((bs x).toList == (bs t).toList) = false := by rw [bs_toList, bs_toList]; simpa using he
        have hno2 : Hid (t ∉ ws.take (k + 1)) := hide (by
          rw [List.take_succ_eq_append_getElem hk2, HX.out]
          intro hm
          rcases List.mem_append.1 hm with hm | hm
          · exact HNO.out hm
          · exact he (List.mem_singleton.1 hm).symm)
        clear he
        go_wp2_with fail
        go_round
        case rel => exact ⟨k + 1, by omega, by go_num, hno2.out⟩
        case measure => simp [intOf]; omega
    · have hb : Hid (B = false) := hide (by
        rw [← HB.out, decide_eq_false_iff_not]
        have := HNO.out
        rwa [List.take_of_length_le (by rw [← HN.out]; omega)] at this)
      go_wp2_with fail
      go_ret
      exact ⟨ret_bool hb.out.symm, rfl⟩
theorem strs_new (w : World) (ws : List Bs) (T : TypeId) (j : Nat) (hj : j < ws.length) : (w.alloc (.cells (ws.map fun x => Value.string (bs x)).toArray T (0, 0))).cell? ⟨w.heap.size, 0 + j, none⟩ = some (.string (bs (ws[j]'hj))) := by
  rw [cells_at (heap_alloc_new w _), Nat.zero_add]
  simp [hj]
theorem in_new (w : World) (t : Bs) (ws : List Bs) (T : TypeId) (n : Nat) (hn : n = ws.length) (hl : n ≤ 1000) :
    Calls Tryd.prog 45 #[.string (bs t), .slice (some ⟨w.heap.size, 0, none⟩) n n] (w.alloc (.cells (ws.map fun x => Value.string (bs x)).toArray T (0, 0))) fun e w' => e = .returned (.bool (decide (t ∈ ws))) ∧ (w.alloc (.cells (ws.map fun x => Value.string (bs x)).toArray T (0, 0))) = w' :=
  in_any _ t _ 0 n ws n hn (strs_new w ws T) (Nat.le_refl _) hl
theorem in_words1 (w : World) (t : Bs) : Calls Tryd.prog 45 #[.string (bs t), .slice (some ⟨w.heap.size, 0, none⟩) 14 14] (w.alloc (.cells #[.string ⟨#[98, 114, 101, 97, 107]⟩, .string ⟨#[99, 111, 110, 116, 105, 110, 117, 101]⟩, .string ⟨#[101, 108, 115, 101]⟩, .string ⟨#[102, 111, 114]⟩, .string ⟨#[102, 117, 110, 99]⟩, .string ⟨#[105, 102]⟩, .string ⟨#[105, 109, 112, 111, 114, 116]⟩, .string ⟨#[105, 110, 116, 101, 114, 102, 97, 99, 101]⟩, .string ⟨#[112, 97, 99, 107, 97, 103, 101]⟩, .string ⟨#[114, 97, 110, 103, 101]⟩, .string ⟨#[114, 101, 116, 117, 114, 110]⟩, .string ⟨#[115, 116, 114, 117, 99, 116]⟩, .string ⟨#[116, 121, 112, 101]⟩, .string ⟨#[118, 97, 114]⟩] 9 (0, 0)))
    fun e w' => e = .returned (.bool (decide (t ∈ words1))) ∧ (w.alloc (.cells #[.string ⟨#[98, 114, 101, 97, 107]⟩, .string ⟨#[99, 111, 110, 116, 105, 110, 117, 101]⟩, .string ⟨#[101, 108, 115, 101]⟩, .string ⟨#[102, 111, 114]⟩, .string ⟨#[102, 117, 110, 99]⟩, .string ⟨#[105, 102]⟩, .string ⟨#[105, 109, 112, 111, 114, 116]⟩, .string ⟨#[105, 110, 116, 101, 114, 102, 97, 99, 101]⟩, .string ⟨#[112, 97, 99, 107, 97, 103, 101]⟩, .string ⟨#[114, 97, 110, 103, 101]⟩, .string ⟨#[114, 101, 116, 117, 114, 110]⟩, .string ⟨#[115, 116, 114, 117, 99, 116]⟩, .string ⟨#[116, 121, 112, 101]⟩, .string ⟨#[118, 97, 114]⟩] 9 (0, 0))) = w' :=
  in_new w t words1 9 14 rfl (by decide)
theorem in_words2 (w : World) (t : Bs) : Calls Tryd.prog 45 #[.string (bs t), .slice (some ⟨w.heap.size, 0, none⟩) 11 11] (w.alloc (.cells #[.string ⟨#[99, 97, 115, 101]⟩, .string ⟨#[99, 104, 97, 110]⟩, .string ⟨#[99, 111, 110, 115, 116]⟩, .string ⟨#[100, 101, 102, 97, 117, 108, 116]⟩, .string ⟨#[100, 101, 102, 101, 114]⟩, .string ⟨#[102, 97, 108, 108, 116, 104, 114, 111, 117, 103, 104]⟩, .string ⟨#[103, 111]⟩, .string ⟨#[103, 111, 116, 111]⟩, .string ⟨#[109, 97, 112]⟩, .string ⟨#[115, 101, 108, 101, 99, 116]⟩, .string ⟨#[115, 119, 105, 116, 99, 104]⟩] 9 (0, 0)))
    fun e w' => e = .returned (.bool (decide (t ∈ words2))) ∧ (w.alloc (.cells #[.string ⟨#[99, 97, 115, 101]⟩, .string ⟨#[99, 104, 97, 110]⟩, .string ⟨#[99, 111, 110, 115, 116]⟩, .string ⟨#[100, 101, 102, 97, 117, 108, 116]⟩, .string ⟨#[100, 101, 102, 101, 114]⟩, .string ⟨#[102, 97, 108, 108, 116, 104, 114, 111, 117, 103, 104]⟩, .string ⟨#[103, 111]⟩, .string ⟨#[103, 111, 116, 111]⟩, .string ⟨#[109, 97, 112]⟩, .string ⟨#[115, 101, 108, 101, 99, 116]⟩, .string ⟨#[115, 119, 105, 116, 99, 104]⟩] 9 (0, 0))) = w' :=
  in_new w t words2 9 11 rfl (by decide)
theorem in_endWords (w : World) (t : Bs) : Calls Tryd.prog 45 #[.string (bs t), .slice (some ⟨w.heap.size, 0, none⟩) 4 4] (w.alloc (.cells #[.string ⟨#[98, 114, 101, 97, 107]⟩, .string ⟨#[99, 111, 110, 116, 105, 110, 117, 101]⟩, .string ⟨#[114, 101, 116, 117, 114, 110]⟩, .string ⟨#[102, 97, 108, 108, 116, 104, 114, 111, 117, 103, 104]⟩] 9 (0, 0)))
    fun e w' => e = .returned (.bool (decide (t ∈ endWords))) ∧ (w.alloc (.cells #[.string ⟨#[98, 114, 101, 97, 107]⟩, .string ⟨#[99, 111, 110, 116, 105, 110, 117, 101]⟩, .string ⟨#[114, 101, 116, 117, 114, 110]⟩, .string ⟨#[102, 97, 108, 108, 116, 104, 114, 111, 117, 103, 104]⟩] 9 (0, 0))) = w' :=
  in_new w t endWords 9 4 rfl (by decide)
theorem in_endSigns (w : World) (t : Bs) : Calls Tryd.prog 45 #[.string (bs t), .slice (some ⟨w.heap.size, 0, none⟩) 5 5] (w.alloc (.cells #[.string ⟨#[43, 43]⟩, .string ⟨#[45, 45]⟩, .string ⟨#[41]⟩, .string ⟨#[93]⟩, .string ⟨#[125]⟩] 9 (0, 0)))
    fun e w' => e = .returned (.bool (decide (t ∈ endSigns))) ∧ (w.alloc (.cells #[.string ⟨#[43, 43]⟩, .string ⟨#[45, 45]⟩, .string ⟨#[41]⟩, .string ⟨#[93]⟩, .string ⟨#[125]⟩] 9 (0, 0))) = w' :=
  in_new w t endSigns 9 5 rfl (by decide)
theorem in_signs3 (w : World) (t : Bs) : Calls Tryd.prog 45 #[.string (bs t), .slice (some ⟨w.heap.size, 0, none⟩) 4 4] (w.alloc (.cells #[.string ⟨#[60, 60, 61]⟩, .string ⟨#[62, 62, 61]⟩, .string ⟨#[38, 94, 61]⟩, .string ⟨#[46, 46, 46]⟩] 9 (0, 0)))
    fun e w' => e = .returned (.bool (decide (t ∈ signs3))) ∧ (w.alloc (.cells #[.string ⟨#[60, 60, 61]⟩, .string ⟨#[62, 62, 61]⟩, .string ⟨#[38, 94, 61]⟩, .string ⟨#[46, 46, 46]⟩] 9 (0, 0))) = w' :=
  in_new w t signs3 9 4 rfl (by decide)
theorem in_signs2 (w : World) (t : Bs) : Calls Tryd.prog 45 #[.string (bs t), .slice (some ⟨w.heap.size, 0, none⟩) 21 21] (w.alloc (.cells #[.string ⟨#[38, 38]⟩, .string ⟨#[124, 124]⟩, .string ⟨#[61, 61]⟩, .string ⟨#[33, 61]⟩, .string ⟨#[60, 61]⟩, .string ⟨#[62, 61]⟩, .string ⟨#[58, 61]⟩, .string ⟨#[43, 43]⟩, .string ⟨#[45, 45]⟩, .string ⟨#[43, 61]⟩, .string ⟨#[45, 61]⟩, .string ⟨#[42, 61]⟩, .string ⟨#[47, 61]⟩, .string ⟨#[37, 61]⟩, .string ⟨#[38, 61]⟩, .string ⟨#[124, 61]⟩, .string ⟨#[94, 61]⟩, .string ⟨#[60, 60]⟩, .string ⟨#[62, 62]⟩, .string ⟨#[38, 94]⟩, .string ⟨#[60, 45]⟩] 9 (0, 0)))
    fun e w' => e = .returned (.bool (decide (t ∈ signs2))) ∧ (w.alloc (.cells #[.string ⟨#[38, 38]⟩, .string ⟨#[124, 124]⟩, .string ⟨#[61, 61]⟩, .string ⟨#[33, 61]⟩, .string ⟨#[60, 61]⟩, .string ⟨#[62, 61]⟩, .string ⟨#[58, 61]⟩, .string ⟨#[43, 43]⟩, .string ⟨#[45, 45]⟩, .string ⟨#[43, 61]⟩, .string ⟨#[45, 61]⟩, .string ⟨#[42, 61]⟩, .string ⟨#[47, 61]⟩, .string ⟨#[37, 61]⟩, .string ⟨#[38, 61]⟩, .string ⟨#[124, 61]⟩, .string ⟨#[94, 61]⟩, .string ⟨#[60, 60]⟩, .string ⟨#[62, 62]⟩, .string ⟨#[38, 94]⟩, .string ⟨#[60, 45]⟩] 9 (0, 0))) = w' :=
  in_new w t signs2 9 21 rfl (by decide)
theorem in_signs1 (w : World) (t : Bs) : Calls Tryd.prog 45 #[.string (bs t), .slice (some ⟨w.heap.size, 0, none⟩) 23 23] (w.alloc (.cells #[.string ⟨#[43]⟩, .string ⟨#[45]⟩, .string ⟨#[42]⟩, .string ⟨#[47]⟩, .string ⟨#[37]⟩, .string ⟨#[38]⟩, .string ⟨#[124]⟩, .string ⟨#[94]⟩, .string ⟨#[60]⟩, .string ⟨#[62]⟩, .string ⟨#[61]⟩, .string ⟨#[33]⟩, .string ⟨#[40]⟩, .string ⟨#[41]⟩, .string ⟨#[91]⟩, .string ⟨#[93]⟩, .string ⟨#[123]⟩, .string ⟨#[125]⟩, .string ⟨#[44]⟩, .string ⟨#[59]⟩, .string ⟨#[46]⟩, .string ⟨#[58]⟩, .string ⟨#[126]⟩] 9 (0, 0)))
    fun e w' => e = .returned (.bool (decide (t ∈ signs1))) ∧ (w.alloc (.cells #[.string ⟨#[43]⟩, .string ⟨#[45]⟩, .string ⟨#[42]⟩, .string ⟨#[47]⟩, .string ⟨#[37]⟩, .string ⟨#[38]⟩, .string ⟨#[124]⟩, .string ⟨#[94]⟩, .string ⟨#[60]⟩, .string ⟨#[62]⟩, .string ⟨#[61]⟩, .string ⟨#[33]⟩, .string ⟨#[40]⟩, .string ⟨#[41]⟩, .string ⟨#[91]⟩, .string ⟨#[93]⟩, .string ⟨#[123]⟩, .string ⟨#[125]⟩, .string ⟨#[44]⟩, .string ⟨#[59]⟩, .string ⟨#[46]⟩, .string ⟨#[58]⟩, .string ⟨#[126]⟩] 9 (0, 0))) = w' :=
  in_new w t signs1 9 23 rfl (by decide)

set_option maxRecDepth 100000 in
set_option maxHeartbeats 3200000 in
theorem rword_any (w : World) (t : Bs) : Calls Tryd.prog 25 #[.string (bs t)] w fun e w' => e = .returned (.int .i64 (word t)) ∧ Below w.heap.size w w' := by
  obtain ⟨v, hv⟩ : ∃ v, word t = v := ⟨_, rfl⟩
  rw [hv]
  have h1 := in_words1 w t
  by_cases hm : t ∈ words1
  · have hv1 : Hid (v = 1) := hide (by rw [← hv]; unfold word; rw [if_pos hm])
    rw [decide_eq_true hm] at h1
    have H1 := hide h1
    clear h1 hm hv
    go_enter Tryd.func25, Tryd.ntmps25
    go_wp2_with fail
    refine H1.out.mono ?_
    rintro e w' ⟨rfl, rfl⟩
    go_wp2_with fail
    go_ret
    exact ⟨ret_int (by rw [hv1.out]; rfl), (Below.refl _ _).alloc (Nat.le_refl _) _⟩
  · rw [decide_eq_false hm] at h1
    have H1 := hide h1
    clear h1
    obtain ⟨w1, hw1⟩ : ∃ w1, w.alloc (.cells #[.string ⟨#[98, 114, 101, 97, 107]⟩, .string ⟨#[99, 111, 110, 116, 105, 110, 117, 101]⟩, .string ⟨#[101, 108, 115, 101]⟩, .string ⟨#[102, 111, 114]⟩, .string ⟨#[102, 117, 110, 99]⟩, .string ⟨#[105, 102]⟩, .string ⟨#[105, 109, 112, 111, 114, 116]⟩, .string ⟨#[105, 110, 116, 101, 114, 102, 97, 99, 101]⟩, .string ⟨#[112, 97, 99, 107, 97, 103, 101]⟩, .string ⟨#[114, 97, 110, 103, 101]⟩, .string ⟨#[114, 101, 116, 117, 114, 110]⟩, .string ⟨#[115, 116, 114, 117, 99, 116]⟩, .string ⟨#[116, 121, 112, 101]⟩, .string ⟨#[118, 97, 114]⟩] 9 (0, 0)) = w1 := ⟨_, rfl⟩
    rw [hw1] at H1
    have hb1 : Below w.heap.size w w1 := by rw [← hw1]; exact (Below.refl _ _).alloc (Nat.le_refl _) _
    have h2 := in_words2 w1 t
    have HW1 := hide hw1; clear hw1
    have HB1 := hide hb1; clear hb1
    by_cases hm2 : t ∈ words2
    · have hv1 : Hid (v = 2) := hide (by rw [← hv]; unfold word; rw [if_neg hm, if_pos hm2])
      rw [decide_eq_true hm2] at h2
      have H2 := hide h2
      clear h2 hm hm2 hv
      go_enter Tryd.func25, Tryd.ntmps25
      go_wp2_with fail
      rw [HW1.out]
      refine H1.out.mono ?_
      rintro e w' ⟨rfl, rfl⟩
      go_wp2_with fail
      refine H2.out.mono ?_
      rintro e w' ⟨rfl, rfl⟩
      go_wp2_with fail
      go_ret
      exact ⟨ret_int (by rw [hv1.out]; rfl), HB1.out.alloc HB1.out.size _⟩
    · have hv1 : Hid (v = 0) := hide (by rw [← hv]; unfold word; rw [if_neg hm, if_neg hm2])
      rw [decide_eq_false hm2] at h2
      have H2 := hide h2
      clear h2 hm hm2 hv
      go_enter Tryd.func25, Tryd.ntmps25
      go_wp2_with fail
      rw [HW1.out]
      refine H1.out.mono ?_
      rintro e w' ⟨rfl, rfl⟩
      go_wp2_with fail
      refine H2.out.mono ?_
      rintro e w' ⟨rfl, rfl⟩
      go_wp2_with fail
      go_ret
      exact ⟨ret_int (by rw [hv1.out]; rfl), HB1.out.alloc HB1.out.size _⟩
theorem rletter_any (c : Int) (w : World) : Calls Tryd.prog 39 #[.int .u8 c] w fun e w' => e = .returned (.bool (letR c)) ∧ w = w' := by
  go_enter Tryd.func39, Tryd.ntmps39
  go_wp2
  all_goals go_ret
  all_goals (refine ⟨ret_bool ?_, rfl⟩; rw [Bool.eq_iff_iff]; simp [letR]; try omega)
theorem rfigure_any (c : Int) (w : World) : Calls Tryd.prog 40 #[.int .u8 c] w fun e w' => e = .returned (.bool (figR c)) ∧ w = w' := by
  go_enter Tryd.func40, Tryd.ntmps40
  go_wp2
  all_goals go_ret
  all_goals (refine ⟨ret_bool ?_, rfl⟩; rw [Bool.eq_iff_iff]; simp [figR]; try omega)
theorem letR_byte (d : UInt8) : letR (d.toNat : Int) = letter d := by have := letR_low' ⟨d.toNat, d.toNat_lt⟩; simpa using this
theorem figR_byte (d : UInt8) : figR (d.toNat : Int) = figure d := by have := figR_low' ⟨d.toNat, d.toNat_lt⟩; simpa using this
theorem rletter_byte (d : UInt8) (w : World) : Calls Tryd.prog 39 #[.int .u8 (d.toNat : Int)] w fun e w' => e = .returned (.bool (letter d)) ∧ w = w' := by rw [← letR_byte]; exact rletter_any _ _
theorem rfigure_byte (d : UInt8) (w : World) : Calls Tryd.prog 40 #[.int .u8 (d.toNat : Int)] w fun e w' => e = .returned (.bool (figure d)) ∧ w = w' := by rw [← figR_byte]; exact rfigure_any _ _
theorem nameL_word (L : Bs) (h : word L ≠ 0) : nameL L = false := by
  unfold nameL
  have : (word L == 0) = false := by simpa using h
  rw [this, Bool.and_false]

set_option maxRecDepth 100000 in
set_option maxHeartbeats 6400000 in
/-- The reference's Name. -/
theorem rname_any (T : ByteArray) (w : World) (hT : T.size ≤ 100000) :
    Calls Tryd.prog 23 #[.string T] w fun e w' => e = .returned (.bool (nameL T.data.toList)) ∧ Below w.heap.size w w' := by
  obtain ⟨B, hB⟩ : ∃ B, nameL T.data.toList = B := ⟨_, rfl⟩
  rw [hB]
  by_cases he : T.data.toList = []
  · have hb : Hid (B = false) := hide (by rw [← hB, he]; rfl)
    have e1 : T.toList = [] := by rw [toList_bs]; exact he
    clear hB he
    have e2 : T.toList.isEmpty = true := by rw [e1]; rfl
    have e3 : (T.toList == ([] : Bs)) = true := by rw [e1]; rfl
    have E1 := hide e1; clear e1
    go_enter Tryd.func23, Tryd.ntmps23
    go_wp2_with fail
    go_ret
    exact ⟨ret_bool hb.out.symm, Below.refl _ _⟩
  · obtain ⟨c, r, hcr⟩ : ∃ c r, T.data.toList = c :: r := by
      cases h : T.data.toList with
      | nil => exact absurd h he
      | cons c r => exact ⟨c, r, rfl⟩
    have hsz : 0 < T.size := by rw [size_data, hcr]; simp
    have hsz2 : (0 : Int) < (T.size : Int) := by omega
    have hsz3 : (T.size : Int) ≤ 100000 := by omega
    have e2 : T.toList.isEmpty = false := by rw [toList_bs, hcr]; rfl
    have e3 : (T.toList == ([] : Bs)) = false := by rw [toList_bs, hcr]; rfl
    have hc0 : T[0]'hsz = c := by
      have : T.data.toList[0]'(by rw [hcr]; simp) = c := by simp [hcr]
      exact this
    have HC0 := hide hc0
    have hw := rword_any w T.data.toList
    rw [bs_of] at hw
    have HW := hide hw; clear hw
    cases hf : figure c with
    | true =>
      have hb : Hid (B = false) := hide (by
        rw [← hB, hcr]; unfold nameL
        have : letter c = false := by
          have := figure_letter c hf
          exact this
        simp [this])
      have hcf := rfigure_byte c w
      rw [hf] at hcf
      have HF := hide hcf
      clear hcf hf hB he hcr
      go_enter Tryd.func23, Tryd.ntmps23
      go_wp2_with fail
      refine HF.out.mono ?_
      rintro e w' ⟨rfl, rfl⟩
      go_wp2_with fail
      go_ret
      exact ⟨ret_bool hb.out.symm, Below.refl _ _⟩
    | false =>
      have hcf := rfigure_byte c w
      rw [hf] at hcf
      have HF := hide hcf
      clear hcf
      by_cases hwd : word T.data.toList = 0
      · have w0 : (((word T.data.toList : Nat) : Int) != 0) = false := by rw [hwd]; rfl
        obtain ⟨W0, hW0⟩ : ∃ W0 : Nat, word T.data.toList = W0 := ⟨_, rfl⟩
        rw [hW0] at w0 HW
        have HCR := hide hcr
        have HBB := hide hB
        have HF0 := hide hf
        have HWD := hide hwd
        have HWW := hide hW0
        clear hf hB he hcr hwd hW0
        go_enter Tryd.func23, Tryd.ntmps23
        go_wp2_with fail
        refine HF.out.mono ?_
        rintro e w' ⟨rfl, rfl⟩
        go_wp2_with fail
        refine HW.out.mono ?_
        rintro e w1 ⟨rfl, hb1⟩
        have HB1 := hide hb1; clear hb1 hc0
        go_wp2_with fail
        go_loop [3] (fun i => ∃ k : Nat, k ≤ T.size ∧ i = .int .i64 k ∧ ∀ x ∈ T.data.toList.take k, alnum x = true) (fun i => T.size - (intOf i).toNat)
        case atStart => exact ⟨0, Nat.zero_le _, rfl, by simp⟩
        case round =>
          obtain ⟨k, hk, rfl, hall⟩ := hrel
          have HALL := hide hall; clear hall
          by_cases hlt : k < T.size
          · have hlt2 : (k : Int) < (T.size : Int) := by omega
            have hk0 : (0 : Int) ≤ (k : Int) := by omega
            have hk2 : k < T.data.toList.length := by rw [← size_data]; exact hlt
            obtain ⟨d, hd⟩ : ∃ d, T[k]'hlt = d := ⟨_, rfl⟩
            have HD : Hid (T.data.toList[k]'hk2 = d) := hide hd
            have hl := rletter_byte d
            have hfg := rfigure_byte d
            cases h1 : letter d with
            | true =>
              have ha : Hid (alnum d = true) := hide (by unfold alnum; rw [h1]; rfl)
              rw [h1] at hl
              have HL := hide hl
              clear hl hfg h1
              go_wp2_with fail
              refine (HL.out _).mono ?_
              rintro e w' ⟨rfl, rfl⟩
              go_wp2_with fail
              go_round
              case rel => exact ⟨k + 1, by omega, by go_num, by
                intro x hx
                rw [List.take_succ_eq_append_getElem hk2, HD.out] at hx
                rcases List.mem_append.1 hx with hx | hx
                · exact HALL.out x hx
                · rw [List.mem_singleton.1 hx]; exact ha.out⟩
              case measure => simp [intOf]; omega
            | false =>
              cases h2 : figure d with
              | true =>
                have ha : Hid (alnum d = true) := hide (by unfold alnum; rw [h2, Bool.or_true])
                rw [h1] at hl
                rw [h2] at hfg
                have HL := hide hl
                have HG := hide hfg
                clear hl hfg h1 h2
                go_wp2_with fail
                refine (HL.out _).mono ?_
                rintro e w' ⟨rfl, rfl⟩
                go_wp2_with fail
                refine (HG.out _).mono ?_
                rintro e w' ⟨rfl, rfl⟩
                go_wp2_with fail
                go_round
                case rel => exact ⟨k + 1, by omega, by go_num, by
                  intro x hx
                  rw [List.take_succ_eq_append_getElem hk2, HD.out] at hx
                  rcases List.mem_append.1 hx with hx | hx
                  · exact HALL.out x hx
                  · rw [List.mem_singleton.1 hx]; exact ha.out⟩
                case measure => simp [intOf]; omega
              | false =>
                have hb : Hid (B = false) := hide (by
                  rw [← HBB.out]
                  have hdr := List.drop_eq_getElem_cons hk2
                  rw [HD.out] at hdr
                  by_cases hk0 : 0 < k
                  · exact nameL_bad _ k d _ hk0 hdr (by unfold alnum; rw [h1, h2]; rfl)
                  · obtain rfl : k = 0 := by omega
                    rw [List.drop_zero] at hdr
                    rw [hdr]
                    exact nameL_bad0 d _ h1)
                rw [h1] at hl
                rw [h2] at hfg
                have HL := hide hl
                have HG := hide hfg
                clear hl hfg h1 h2
                go_wp2_with fail
                refine (HL.out _).mono ?_
                rintro e w' ⟨rfl, rfl⟩
                go_wp2_with fail
                refine (HG.out _).mono ?_
                rintro e w' ⟨rfl, rfl⟩
                go_wp2_with fail
                go_ret
                exact ⟨ret_bool hb.out.symm, HB1.out⟩
          · have hb : Hid (B = true) := hide (by
              rw [← HBB.out]
              have hall : ∀ x ∈ T.data.toList, alnum x = true := by
                have := HALL.out
                rwa [List.take_of_length_le (by rw [← size_data]; omega)] at this
              have hc := hall c (by rw [HCR.out]; simp)
              have hlc : letter c = true := by unfold alnum at hc; rw [HF0.out, Bool.or_false] at hc; exact hc
              rw [nameL_good _ c r HCR.out hlc hall, HWD.out]; rfl)
            go_wp2_with fail
            go_ret
            exact ⟨ret_bool hb.out.symm, HB1.out⟩
      · have w0 : (((word T.data.toList : Nat) : Int) != 0) = true := by rw [bne_iff_ne]; omega
        have hb : Hid (B = false) := hide (by rw [← hB]; exact nameL_word _ hwd)
        obtain ⟨W0, hW0⟩ : ∃ W0 : Nat, word T.data.toList = W0 := ⟨_, rfl⟩
        rw [hW0] at w0 HW
        clear hf hB he hcr hwd hW0
        go_enter Tryd.func23, Tryd.ntmps23
        go_wp2_with fail
        refine HF.out.mono ?_
        rintro e w' ⟨rfl, rfl⟩
        go_wp2_with fail
        refine HW.out.mono ?_
        rintro e w1 ⟨rfl, hb1⟩
        have HB1 := hide hb1; clear hb1
        go_wp2_with fail
        go_ret
        exact ⟨ret_bool hb.out.symm, HB1.out⟩
end Go.Proofs.YtehflgllfkkfoaaDoor
