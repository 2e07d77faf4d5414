/- The law LitValues. -/
import Derived.Test.YtehflgllfkkfoaaDoorNpl
import Derived.Test.YtehflgllfkkfoaaDoorRa
import Derived.Deep.RegionWith
set_option linter.unusedVariables false
set_option linter.unusedSimpArgs false
namespace Go.Proofs.YtehflgllfkkfoaaDoor
open Go.RowKit Go.Proofs.Dm

theorem baseL_le (s : Bs) : (baseL s).2.length ≤ s.length := by
  rcases (baseL_rest s).2.2 with h | ⟨c0, c, r, h, _, ⟨h2, _⟩ | h2⟩
  · rw [h]; exact Nat.le_refl _
  · rw [h2, h]; simp; omega
  · rw [h2, h]; simp
theorem numL_len {s t : Bs} (h : numL s = .ok t) : t.length ≤ 242 := by
  have hb := baseL_rest s
  unfold numL at h
  split at h
  · cases h
  rename_i hl
  split at h
  · cases h
  split at h
  · cases h
  split at h
  · cases h
  · cases h
  · rename_i d ds hd
    injection h with h
    have hd2 := digsL_lt _ _ _ _ hd
    have := val_len (b := _) (by omega) hb.1 _ hd2.2 (Nat.le_trans hd2.1 (Nat.le_trans (baseL_le _) (by omega)))
    rw [← h]
    unfold decS
    split
    · simp
    · simp; omega
set_option maxRecDepth 100000 in
set_option maxHeartbeats 25600000 in
theorem values_any (w : World) (s : ByteArray) (hs : s.size ≤ maxLen) (hT : Lib.Utf8Tabs 0 1 w) (hM : MaxLenOk w) (h3 : 3 ≤ w.heap.size) :
    Calls Tryd.prog 12 #[.string s] w fun e w' => e = .returned (.bool true) ∧ Below w.heap.size w w' := by
  have HT := hide hT; clear hT hM h3
  by_cases hlong : (199 : Int) < (s.size : Int)
  · clear hs
    go_enter Tryd.func12, Tryd.ntmps12
    go_wp2_with fail
    go_ret
    exact ⟨rfl, Below.refl _ _⟩
  have hsl : (s.size : Int) ≤ 199 := by omega
  clear hlong
  have hnl : numL s.data.toList ≠ .long := by
    intro h
    unfold numL at h
    rw [if_neg (by rw [← size_data]; omega)] at h
    split at h
    · cases h
    · split at h
      · cases h
      · split at h <;> cases h
  cases hn : numL s.data.toList with
  | long => exact absurd hn hnl
  | bad =>
    have HN := hide hn
    have e1 : (((⟨#[]⟩ : ByteArray)).toList == ([] : Bs)) = true := by show ((bs []).toList == ([] : Bs)) = true; rw [toList_bs]; rfl
    have e2 : ((⟨#[]⟩ : ByteArray)).toList.isEmpty = true := by show (bs []).toList.isEmpty = true; rw [toList_bs]; rfl
    clear hn hnl
    go_enter Tryd.func12, Tryd.ntmps12
    go_wp2_with fail
    refine (num_bad s hs HN.out w).mono ?_
    rintro e w1 ⟨rfl, hb1⟩
    have HB1 := hide hb1; clear hb1
    go_wp2_with fail
    refine (awake3_any w1 (Utf8Tabs_below HT.out HB1.out)).mono ?_
    rintro e w2 ⟨rfl, hb2⟩
    have HB2 := hide (HB1.out.trans (hb2.mono HB1.out.size)); clear hb2
    go_wp2_with fail
    go_ret
    exact ⟨rfl, HB2.out⟩
  | ok t =>
    have HN := hide hn
    have htl := numL_len hn
    have hpl := numL_ok_plain hn
    obtain ⟨T, hT⟩ : ∃ T, bs t = T := ⟨_, rfl⟩
    have hTs : T.size = t.length := by rw [size_data, ← hT]; rfl
    have HT' := hide hT
    have hp2 : ∃ p, plainL T.data.toList = p ∧ (p = true ∨ (p = false ∧ ¬ (T.size : Int) ≤ 200)) := by
      refine ⟨_, rfl, ?_⟩
      by_cases h : t.length ≤ 200
      · left; rw [← hT]; exact hpl h
      · cases hp : plainL T.data.toList with
        | true => exact .inl rfl
        | false => exact .inr ⟨rfl, by rw [hTs]; omega⟩
    have t1 : (T.size : Int) ≤ 242 := by omega
    obtain ⟨p, hp, hp2⟩ := hp2
    have HPL : Hid (∀ w, Calls Tryd.prog 30 #[.string T] w fun e w' => e = .returned (.bool p) ∧ Below w.heap.size w w') := hide (fun w => by have := Plain_any T (by omega) w; rw [hp] at this; exact this)
    have hcase : (¬ (2 : Int) < (s.size : Int)) ∨ ((2 : Int) < (s.size : Int) ∧ ∃ (i0 : 0 < s.size) (i1 : 1 < s.size) (d0 d1 : UInt8), s[0]'i0 = d0 ∧ s[1]'i1 = d1 ∧ (((((d0.toNat : Int)) == 48) = false) ∨ (d0 = 48 ∧ (((((d1.toNat : Int)) == 120) = false ∧ (((d1.toNat : Int)) == 98) = false ∧ (((d1.toNat : Int)) == 111) = false) ∨ ((d1 = 120 ∨ d1 = 98 ∨ d1 = 111) ∧ ∃ r, s.data.toList = 48 :: d1 :: r))))) := by
      by_cases h2 : (2 : Int) < (s.size : Int)
      · right
        refine ⟨h2, by omega, by omega, _, _, rfl, rfl, ?_⟩
        by_cases hd : s[0]'(by omega) = 48
        · right
          refine ⟨hd, ?_⟩
          by_cases h120 : s[1]'(by omega) = 120 ∨ s[1]'(by omega) = 98 ∨ s[1]'(by omega) = 111
          · right
            refine ⟨h120, ?_⟩
            cases hL : s.data.toList with
            | nil => have := size_data s; rw [hL, List.length_nil] at this; omega
            | cons a L =>
              cases L with
              | nil => have := size_data s; rw [hL, List.length_cons, List.length_nil] at this; omega
              | cons b r =>
                have ha : s[0]'(by omega) = a := by
                  have : s.data.toList[0]'(by rw [hL]; simp) = a := by simp [hL]
                  exact this
                have hb : s[1]'(by omega) = b := by
                  have : s.data.toList[1]'(by rw [hL]; simp) = b := by simp [hL]
                  exact this
                rw [hb, ← ha, hd]
                exact ⟨r, rfl⟩
          · left
            refine ⟨byte_eqF 120 120 (fun e => h120 (.inl e)), byte_eqF 98 98 (fun e => h120 (.inr (.inl e))), byte_eqF 111 111 (fun e => h120 (.inr (.inr e)))⟩
        · left; exact byte_eqF 48 48 hd
      · left; exact h2
    clear hn hnl hpl htl hTs hp hT
    have hs' := hs
    clear hs'
    have HMX := hide hs
    rcases hcase with c0 | ⟨c0, i0, i1, d0, d1, e0, e1, c1 | ⟨rfl, ⟨c1, c2, c3⟩ | ⟨c1, r, hr⟩⟩⟩
    · clear hs
      rcases hp2 with rfl | ⟨rfl, t2⟩
      all_goals
        go_enter Tryd.func12, Tryd.ntmps12
        go_wp2_with fail
        refine (num_at s t HMX.out HN.out w).mono ?_
        rw [HT'.out]
        rintro e w1 ⟨rfl, hb1⟩
        have HB1 := hide hb1; clear hb1
        go_wp2_with fail
        refine (HPL.out w1).mono ?_
        rintro e w2 ⟨rfl, hb2⟩
        have HB2 := hide (HB1.out.trans (hb2.mono HB1.out.size)); clear hb2
        go_wp2_with fail
        refine (awake3_any w2 (Utf8Tabs_below HT.out HB2.out)).mono ?_
        rintro e w3 ⟨rfl, hb3⟩
        have HB3 := hide (HB2.out.trans (hb3.mono HB2.out.size)); clear hb3
        go_wp2_with fail
        go_ret
        exact ⟨rfl, HB3.out⟩
    · have j0 : (0 : Int) < (s.size : Int) := by omega
      have j1 : (1 : Int) < (s.size : Int) := by omega
      clear hs
      rcases hp2 with rfl | ⟨rfl, t2⟩
      all_goals
        go_enter Tryd.func12, Tryd.ntmps12
        go_wp2_with fail
        refine (num_at s t HMX.out HN.out w).mono ?_
        rw [HT'.out]
        rintro e w1 ⟨rfl, hb1⟩
        have HB1 := hide hb1; clear hb1
        go_wp2_with fail
        refine (HPL.out w1).mono ?_
        rintro e w2 ⟨rfl, hb2⟩
        have HB2 := hide (HB1.out.trans (hb2.mono HB1.out.size)); clear hb2
        go_wp2_with fail
        refine (awake3_any w2 (Utf8Tabs_below HT.out HB2.out)).mono ?_
        rintro e w3 ⟨rfl, hb3⟩
        have HB3 := hide (HB2.out.trans (hb3.mono HB2.out.size)); clear hb3
        go_wp2_with fail
        go_ret
        exact ⟨rfl, HB3.out⟩
    · have j0 : (0 : Int) < (s.size : Int) := by omega
      have j1 : (1 : Int) < (s.size : Int) := by omega
      clear hs
      rcases hp2 with rfl | ⟨rfl, t2⟩
      all_goals
        go_enter Tryd.func12, Tryd.ntmps12
        go_wp2_with fail
        refine (num_at s t HMX.out HN.out w).mono ?_
        rw [HT'.out]
        rintro e w1 ⟨rfl, hb1⟩
        have HB1 := hide hb1; clear hb1
        go_wp2_with fail
        refine (HPL.out w1).mono ?_
        rintro e w2 ⟨rfl, hb2⟩
        have HB2 := hide (HB1.out.trans (hb2.mono HB1.out.size)); clear hb2
        go_wp2_with fail
        refine (awake3_any w2 (Utf8Tabs_below HT.out HB2.out)).mono ?_
        rintro e w3 ⟨rfl, hb3⟩
        have HB3 := hide (HB2.out.trans (hb3.mono HB2.out.size)); clear hb3
        go_wp2_with fail
        go_ret
        exact ⟨rfl, HB3.out⟩
    · obtain ⟨A, hA⟩ : ∃ A, s.extract 0 2 = A := ⟨_, rfl⟩
      obtain ⟨B, hB⟩ : ∃ B, A ++ (⟨#[48]⟩ : ByteArray) = B := ⟨_, rfl⟩
      obtain ⟨C, hC⟩ : ∃ C, s.extract 2 s.size = C := ⟨_, rfl⟩
      obtain ⟨M, hM⟩ : ∃ M, B ++ C = M := ⟨_, rfl⟩
      have hMl : M.data.toList = 48 :: d1 :: 48 :: r := by
        rw [← hM, ← hB, ← hA, ← hC, extract_from, hr]
        have : (s.extract 0 2).data.toList = [48, d1] := by
          have h1 : (s.extract 0 2).data.toList = s.data.toList.take 2 := by simp [ByteArray.extract, ByteArray.copySlice]
          rw [h1, hr]; rfl
        simp
        rw [hr]; rfl
      have hMs : M.size ≤ maxLen := by
        rw [size_data, hMl]
        have h1 := size_data s
        rw [hr] at h1
        simp only [List.length_cons] at h1 ⊢
        unfold maxLen; omega
      have hM2 := numL_nought (r := r) (t := t) c1 (by have h1 := size_data s; rw [hr] at h1; omega) (by have := HN.out; rw [hr] at this; exact this)
      rw [← hMl] at hM2
      have zA : (A.size : Int) ≤ 8388608 := by rw [← hA]; simp; omega
      have z48 : (((⟨#[48]⟩ : ByteArray)).size : Int) ≤ 8388608 := by decide
      have zB : (B.size : Int) ≤ 8388608 := by rw [← hB, ByteArray.size_append]; have : ((⟨#[48]⟩ : ByteArray)).size = 1 := rfl; rw [this]; rw [← hA]; simp; omega
      have zC : (C.size : Int) ≤ 8388608 := by rw [← hC]; simp; omega
      have HM2 := hide hM2
      have HMS := hide hMs
      have HNM : Hid (∀ w, Calls Tryd.prog 26 #[.string M] w fun e w' => e = .returned (.tuple #[.string T, .int .i64 0]) ∧ Below w.heap.size w w') := hide (fun w => by have := num_at M t HMS.out HM2.out w; rw [HT'.out] at this; exact this)
      have eT : (T.toList == T.toList) = true := by simp
      have j0 : (0 : Int) < (s.size : Int) := by omega
      have j1 : (1 : Int) < (s.size : Int) := by omega
      have j2 : (2 : Int) ≤ (s.size : Int) := by omega
      clear hMl hMs hM2 hr hs
      rcases c1 with rfl | rfl | rfl
      all_goals
        rcases hp2 with rfl | ⟨rfl, t2⟩
        all_goals
          go_enter Tryd.func12, Tryd.ntmps12
          go_wp2_with fail
          refine (num_at s t HMX.out HN.out w).mono ?_
          rw [HT'.out]
          rintro e w1 ⟨rfl, hb1⟩
          have HB1 := hide hb1; clear hb1
          go_wp2_with fail
          refine (HPL.out w1).mono ?_
          rintro e w2 ⟨rfl, hb2⟩
          have HB2 := hide (HB1.out.trans (hb2.mono HB1.out.size)); clear hb2
          go_wp2_with fail
          go_region_with (go_at_call 26; refine (HNM.out _).mono ?_; rintro e w3 ⟨rfl, hb3⟩)
          all_goals (have HB3 : Hid (Below w.heap.size w w3) := hide (by first | exact HB2.out.drew.trans (hb3.mono HB2.out.size) | exact HB2.out.drew.drew.trans (hb3.mono HB2.out.size)))
          all_goals clear hb3
          all_goals (go_wp2_with fail)
          all_goals (refine (awake3_any w3 (Utf8Tabs_below HT.out HB3.out)).mono ?_)
          all_goals (rintro e w4 ⟨rfl, hb4⟩)
          all_goals (have HB4 := hide (HB3.out.trans (hb4.mono HB3.out.size)); clear hb4)
          all_goals (go_wp2_with fail)
          all_goals go_ret
          all_goals exact ⟨rfl, HB4.out⟩
end Go.Proofs.YtehflgllfkkfoaaDoor
