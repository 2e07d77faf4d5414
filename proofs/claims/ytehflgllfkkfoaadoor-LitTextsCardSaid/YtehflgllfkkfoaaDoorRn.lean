/- Package demoticref03: digit, Plain. -/
import Derived.Test.YtehflgllfkkfoaaDoorNpl
set_option linter.unusedVariables false
set_option linter.unusedSimpArgs false
namespace Go.Proofs.YtehflgllfkkfoaaDoor
open Go.RowKit Go.Proofs.Dm

set_option maxHeartbeats 3200000 in
theorem rdigit_any (d : UInt8) (w : World) : Calls Tryd.prog 55 #[.int .u8 (d.toNat : Int)] w fun e w' => e = .returned (.int .i64 (digL d : Int)) ∧ w = w' := by
  have hd := d.toNat_lt
  obtain ⟨V, hV⟩ : ∃ V, digL d = V := ⟨_, rfl⟩
  rw [hV]
  unfold digL at hV
  obtain ⟨q, hq⟩ : ∃ q, d.toNat = q := ⟨_, rfl⟩
  rw [hq] at hV hd ⊢
  have hc : (48 ≤ q ∧ q ≤ 57 ∧ V = q - 48) ∨ (97 ≤ q ∧ q ≤ 102 ∧ V = q - 87) ∨ (65 ≤ q ∧ q ≤ 70 ∧ V = q - 55) ∨ ((q < 48 ∨ (57 < q ∧ q < 65) ∨ (70 < q ∧ q < 97) ∨ 102 < q) ∧ V = 99) := by
    split at hV
    · left; omega
    · split at hV
      · right; left; omega
      · split at hV
        · right; right; left; omega
        · right; right; right; omega
  clear hV hq
  rcases hc with ⟨c1, c2, c3⟩ | ⟨c1, c2, c3⟩ | ⟨c1, c2, c3⟩ | ⟨c1 | c1 | c1 | c1, c3⟩
  all_goals
    have q0 : (0 : Int) ≤ (q : Int) := by omega
    have q1 : (q : Int) ≤ 255 := by omega
    have C3 := hide c3; clear c3
    first
    | have z1 : (48 : Int) ≤ (q : Int) ∧ (q : Int) ≤ 57 := by omega
      obtain ⟨z1, z2⟩ := z1
      go_enter Tryd.func55, Tryd.ntmps55
      go_wp2
      go_ret
      exact ⟨ret_int (by have := C3.out; omega), rfl⟩
    | have z1 : (97 : Int) ≤ (q : Int) ∧ (q : Int) ≤ 102 := by omega
      obtain ⟨z1, z2⟩ := z1
      have z3 : (57 : Int) < (q : Int) := by omega
      go_enter Tryd.func55, Tryd.ntmps55
      go_wp2
      go_ret
      exact ⟨ret_int (by have := C3.out; omega), rfl⟩
    | have z1 : (65 : Int) ≤ (q : Int) ∧ (q : Int) ≤ 70 := by omega
      obtain ⟨z1, z2⟩ := z1
      have z3 : (57 : Int) < (q : Int) := by omega
      have z4 : (q : Int) < 97 := by omega
      go_enter Tryd.func55, Tryd.ntmps55
      go_wp2
      go_ret
      exact ⟨ret_int (by have := C3.out; omega), rfl⟩
    | have z1 : (q : Int) < 48 := by omega
      go_enter Tryd.func55, Tryd.ntmps55
      go_wp2
      go_ret
      exact ⟨ret_int (by have := C3.out; omega), rfl⟩
    | have z1 : (57 : Int) < (q : Int) ∧ (q : Int) < 65 := by omega
      obtain ⟨z1, z2⟩ := z1
      go_enter Tryd.func55, Tryd.ntmps55
      go_wp2
      go_ret
      exact ⟨ret_int (by have := C3.out; omega), rfl⟩
    | have z1 : (70 : Int) < (q : Int) ∧ (q : Int) < 97 := by omega
      obtain ⟨z1, z2⟩ := z1
      go_enter Tryd.func55, Tryd.ntmps55
      go_wp2
      go_ret
      exact ⟨ret_int (by have := C3.out; omega), rfl⟩
    | have z1 : (102 : Int) < (q : Int) := by omega
      go_enter Tryd.func55, Tryd.ntmps55
      go_wp2
      go_ret
      exact ⟨ret_int (by have := C3.out; omega), rfl⟩

theorem rplain_is (L : Bs) (h0 : L ≠ []) (hl : L.length ≤ 200) (h48 : ¬ (1 < L.length ∧ L.head? = some 48)) : plainL L = L.all figure := by
  unfold plainL
  cases hL : L with
  | nil => exact absurd hL h0
  | cons c r =>
    rw [hL] at hl h48
    rw [decide_eq_true hl]
    by_cases hc : c = 48
    · have : r = [] := by
        cases r with
        | nil => rfl
        | cons a b => exact absurd ⟨by simp, by rw [hc]; rfl⟩ h48
      subst this hc
      simp
    · simp [hc]
set_option maxRecDepth 100000 in
set_option maxHeartbeats 12800000 in
theorem rPlain_any (T : ByteArray) (hT : T.size ≤ 1000000) (w : World) :
    Calls Tryd.prog 31 #[.string T] w fun e w' => e = .returned (.bool (plainL T.data.toList)) ∧ w = w' := by
  have hsz := size_data T
  obtain ⟨L, hL⟩ : ∃ L, T.data.toList = L := ⟨_, rfl⟩
  rw [hL] at hsz ⊢
  have t0 : (T.size : Int) ≤ 1000000 := by omega
  by_cases h0 : T.size = 0
  · have hb : Hid (plainL L = false) := hide (by
      have : L = [] := List.eq_nil_of_length_eq_zero (by omega)
      rw [this]; rfl)
    have z : ((T.size : Int) == 0) = true := by rw [h0]; rfl
    clear h0 hsz
    go_enter Tryd.func31, Tryd.ntmps31
    go_wp2_with fail
    go_ret
    exact ⟨by rw [hb.out]; rfl, rfl⟩
  have z : ((T.size : Int) == 0) = false := by rw [beq_eq_false_iff_ne]; omega
  by_cases h200 : (200 : Int) < (T.size : Int)
  · have hb : Hid (plainL L = false) := hide (by
      unfold plainL
      have h1 : decide (L.length ≤ 200) = false := decide_eq_false (by omega)
      have h2 : (L == ([48] : Bs)) = false := by rw [beq_eq_false_iff_ne]; intro e; rw [e] at hsz; simp at hsz; omega
      rw [h1, h2]; simp)
    clear hsz
    go_enter Tryd.func31, Tryd.ntmps31
    go_wp2_with fail
    go_ret
    exact ⟨by rw [hb.out]; rfl, rfl⟩
  cases hLc : L with
  | nil => rw [hLc, List.length_nil] at hsz; omega
  | cons c r =>
  obtain ⟨i0, e0⟩ := byte_at0 (s := T) (d := c) (r := r) (by rw [hL, hLc])
  have j0 : (0 : Int) < (T.size : Int) := by omega
  have HL := hide (hL.trans hLc)
  have hlen : T.size = r.length + 1 := by rw [hsz, hLc]; rfl
  clear hL
  subst hLc
  by_cases h1 : (1 : Int) < (T.size : Int) ∧ c = 48
  · obtain ⟨h1, rfl⟩ := h1
    have hb : Hid (plainL (48 :: r) = false) := hide (by
      unfold plainL
      have h2 : ((48 :: r) == ([48] : Bs)) = false := by rw [beq_eq_false_iff_ne]; intro e; injection e with _ e; rw [e] at hlen; simp at hlen; omega
      rw [h2]; simp)
    clear h0 hsz hlen
    go_enter Tryd.func31, Tryd.ntmps31
    go_wp2_with fail
    go_ret
    exact ⟨by rw [hb.out]; rfl, rfl⟩
  have hpl := rplain_is (c :: r) (by simp) (by rw [← hsz]; omega) (by
    rintro ⟨a, b⟩
    injection b with b
    exact h1 ⟨by omega, b⟩)
  have HPL := hide hpl
  have hcase : ¬ (1 : Int) < (T.size : Int) ∨ ((1 : Int) < (T.size : Int) ∧ (((c.toNat : Int)) == 48) = false) := by
    by_cases h2 : (1 : Int) < (T.size : Int)
    · right; exact ⟨h2, byte_eqF 48 48 (fun e => h1 ⟨h2, e⟩)⟩
    · left; exact h2
  have hloop : ∀ (_ : Unit), True := fun _ => trivial
  have HSZ := hide hsz
  clear hpl h1 h0 hlen hloop hsz
  rcases hcase with q1 | ⟨q1, q2⟩
  all_goals
    go_enter Tryd.func31, Tryd.ntmps31
    go_wp2_with fail
    go_loopw [3] (fun i W' => W' = w ∧ ∃ k : Nat, k ≤ T.size ∧ i = .int .i64 (k : Int) ∧ ∀ x ∈ (c :: r).take k, figure x = true) (fun i _ => T.size - (intOf i).toNat)
    case atStart => exact ⟨rfl, 0, Nat.zero_le _, rfl, by simp⟩
    case round =>
      obtain ⟨rfl, k, hk, rfl, hall⟩ := hrel
      have HALL := hide hall; clear hall
      have k0 : (0 : Int) ≤ (k : Int) := by omega
      by_cases hlt : k < T.size
      · have k1 : (k : Int) < (T.size : Int) := by omega
        obtain ⟨x, hx⟩ : ∃ x, T[k]'hlt = x := ⟨_, rfl⟩
        have hkl : k < (c :: r).length := by rw [← HSZ.out]; exact hlt
        have hx2 : (c :: r)[k]'hkl = x := by
          rw [← hx]
          have : T.data.toList[k]'(by rw [HL.out]; exact hkl) = (c :: r)[k]'hkl := by simp [HL.out]
          rw [← this]; rfl
        cases hf : figure x with
        | true =>
          have HNX : Hid (∀ y ∈ (c :: r).take (k + 1), figure y = true) := hide (by
            intro y hy
            rw [List.take_succ_eq_append_getElem hkl] at hy
            rcases List.mem_append.1 hy with hy | hy
            · exact HALL.out y hy
            · rw [List.mem_singleton.1 hy, hx2]; exact hf)
          have hf2 : 48 ≤ x.toNat ∧ x.toNat ≤ 57 := by
            unfold figure at hf
            simp [UInt8.le_iff_toNat_le] at hf
            exact hf
          have f1 : (48 : Int) ≤ (x.toNat : Int) := by omega
          have f2 : (x.toNat : Int) ≤ 57 := by omega
          clear hf2 hf hx2 hkl
          go_wp2_with fail
          go_roundw
          case rel => exact ⟨by first | trivial | rfl, k + 1, hlt, by go_num, HNX.out⟩
          case measure => (simp [intOf]) <;> omega
        | false =>
          have HBAD : Hid (plainL (c :: r) = false) := hide (by
            rw [HPL.out, List.all_eq_false]
            exact ⟨x, by rw [← hx2]; exact List.getElem_mem hkl, by simp [hf]⟩)
          have hf2 : (x.toNat : Int) < 48 ∨ ((48 : Int) ≤ (x.toNat : Int) ∧ (57 : Int) < (x.toNat : Int)) := by
            unfold figure at hf
            simp [UInt8.le_iff_toNat_le] at hf
            by_cases h5 : 48 ≤ x.toNat
            · right; have := hf h5; omega
            · left; omega
          clear hf hx2 hkl
          rcases hf2 with f1 | ⟨f1, f2⟩
          · go_wp2_with fail
            go_ret
            exact ⟨by rw [HBAD.out]; rfl, rfl⟩
          · go_wp2_with fail
            go_ret
            exact ⟨by rw [HBAD.out]; rfl, rfl⟩
      · have k1 : ¬ (k : Int) < (T.size : Int) := by omega
        have HG : Hid (plainL (c :: r) = true) := hide (by
          rw [HPL.out, List.all_eq_true]
          have h9 := HALL.out
          rw [List.take_of_length_le (by rw [← HSZ.out]; omega)] at h9
          exact h9)
        go_wp2_with fail
        go_ret
        exact ⟨by rw [HG.out]; rfl, by first | trivial | rfl⟩
end Go.Proofs.YtehflgllfkkfoaaDoor
