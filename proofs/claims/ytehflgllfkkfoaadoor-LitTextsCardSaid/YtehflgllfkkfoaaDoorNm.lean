/- package token's 'Name': is a text a name? -/
import Derived.Test.YtehflgllfkkfoaaDoorTf
import Derived.Test.YtehflgllfkkfoaaDoorLaw
set_option linter.unusedVariables false
set_option linter.unusedSimpArgs false
namespace Go.Proofs.YtehflgllfkkfoaaDoor
open Go.RowKit Go.Proofs.Dm

theorem letR_low' : ∀ c : Fin 256, letR ((c.val : Nat) : Int) = letter (UInt8.ofNat c.val) := by decide +kernel
theorem figR_low' : ∀ c : Fin 256, figR ((c.val : Nat) : Int) = figure (UInt8.ofNat c.val) := by decide +kernel
theorem rune_let (d : UInt8) (r : Bs) : letR ((decodeL (d :: r)).1 : Int) = letter d ∧ figR ((decodeL (d :: r)).1 : Int) = figure d ∧ (alnum d = true → (decodeL (d :: r)).2 = 1) := by
  have hb : byteAt (d :: r) 0 = d.toNat := rfl
  rcases Nat.lt_or_ge d.toNat 128 with h | h
  · have e := decodeL_low (d :: r) (by rw [hb]; exact h)
    rw [e, hb]
    have h1 := letR_low' ⟨d.toNat, by omega⟩
    have h2 := figR_low' ⟨d.toNat, by omega⟩
    exact ⟨by simpa using h1, by simpa using h2, fun _ => rfl⟩
  · have h1 : 128 ≤ (decodeL (d :: r)).1 := by
      rcases decodeL_rune (d :: r) (by simp) with h2 | h2
      · rw [hb] at h2; omega
      · exact h2
    have ha : alnum d = false := alnum_high d h
    have hl : letter d = false ∧ figure d = false := by unfold alnum at ha; simpa using ha
    refine ⟨?_, ?_, fun hx => by rw [ha] at hx; cases hx⟩
    · rw [hl.1]; simp [letR]; omega
    · rw [hl.2]; simp [figR]; omega
theorem nameL_bad0 (d : UInt8) (r : Bs) (h : letter d = false) : nameL (d :: r) = false := by unfold nameL; simp [h]
theorem nameL_bad (L : Bs) (k : Nat) (d : UInt8) (r : Bs) (hk : 0 < k) (hd : L.drop k = d :: r) (h : alnum d = false) : nameL L = false := by
  cases L with
  | nil => simp at hd
  | cons c L =>
    cases k with
    | zero => omega
    | succ k =>
      rw [List.drop_succ_cons] at hd
      have hm : d ∈ L := by
        have : d ∈ L.drop k := by rw [hd]; simp
        exact List.mem_of_mem_drop this
      unfold nameL
      have : L.all alnum = false := by rw [List.all_eq_false]; exact ⟨d, hm, by simp [h]⟩
      simp [this]
theorem nameL_good (L : Bs) (c : UInt8) (r : Bs) (hL : L = c :: r) (h : letter c = true) (ha : ∀ x ∈ L, alnum x = true) : nameL L = decide (word L = 0) := by
  subst hL
  have : r.all alnum = true := by rw [List.all_eq_true]; exact fun x hx => ha x (by simp [hx])
  unfold nameL
  simp only [h, this, Bool.and_self, Bool.true_and]
  rw [Bool.eq_iff_iff]; simp

set_option maxRecDepth 100000 in
set_option maxHeartbeats 12800000 in
theorem name_any (T : ByteArray) (w : World) :
    Calls Tryd.prog 22 #[.string T] w fun e w' => e = .returned (.bool (nameL T.data.toList)) ∧ Below w.heap.size w w' := by
  go_enter Tryd.func22, Tryd.ntmps22
  go_wp2_with fail
  go_loopw [3] (fun _ w' => ∃ k : Nat, w' = w.iter T k ∧ k ≤ T.size ∧ (0 < k → ∃ c r, T.data.toList = c :: r ∧ letter c = true) ∧ ∀ c ∈ T.data.toList.take k, alnum c = true) (fun _ w' => T.size - w'.iterPos w.heap.size)
  case atStart => exact ⟨0, rfl, Nat.zero_le _, fun h => absurd h (by decide), by simp⟩
  case round =>
    obtain ⟨k, rfl, hk, hfirst, hall⟩ := hrel
    have HF := hide hfirst; clear hfirst
    have HALL := hide hall; clear hall
    by_cases hlt : k < T.size
    · obtain ⟨d, r, hdr⟩ : ∃ d r, T.data.toList.drop k = d :: r := by
        cases hq : T.data.toList.drop k with
        | nil => have := congrArg List.length hq; rw [List.length_drop, ← size_data] at this; simp at this; omega
        | cons d r => exact ⟨d, r, rfl⟩
      have hrl := rune_let d r
      have hnx : ∀ ty, (Instr.next (.pointer (some ⟨w.heap.size, 0, none⟩)) true ty).run Tryd.prog (w.iter T k) = _ := fun ty => run_next_any w T k ty hlt
      rw [decode_eq, hdr] at hnx
      have hgo : Hid (alnum d = true → (0 < k ∨ letter d = true) → (∃ k', w.iter T (k + 1) = w.iter T k' ∧ k' ≤ T.size ∧ (0 < k' → ∃ c r, T.data.toList = c :: r ∧ letter c = true) ∧ ∀ c ∈ T.data.toList.take k', alnum c = true)) := hide (by
        intro ha hfl
        refine ⟨k + 1, rfl, by omega, fun _ => ?_, fun c hc => ?_⟩
        · rcases Nat.eq_zero_or_pos k with h0 | h0
          · subst h0
            rw [List.drop_zero] at hdr
            exact ⟨d, r, hdr, hfl.resolve_left (by omega)⟩
          · exact HF.out h0
        · rw [List.take_succ_eq_append_getElem (by rw [← size_data]; exact hlt)] at hc
          rcases List.mem_append.1 hc with hc | hc
          · exact HALL.out c hc
          · have : T.data.toList[k]'(by rw [← size_data]; exact hlt) = d := by
              have := List.drop_eq_getElem_cons (l := T.data.toList) (i := k) (by rw [← size_data]; exact hlt)
              rw [hdr] at this
              injection this with h1 _
              exact h1.symm
            rw [List.mem_singleton.1 hc, this]
            exact ha)
      have HDR := hide hdr; clear hdr
      obtain ⟨q, hq⟩ : ∃ q : Int, ((decodeL (d :: r)).1 : Int) = q := ⟨_, rfl⟩
      obtain ⟨n, hn⟩ : ∃ n, (decodeL (d :: r)).2 = n := ⟨_, rfl⟩
      rw [hq, hn] at hnx
      rw [hq, hn] at hrl
      have HRL := hide hrl; clear hrl hq hn
      have HLT : Hid (∀ W : World, Calls Tryd.prog 43 #[.int .i32 q] W fun e w' => e = .returned (.bool (letter d)) ∧ W = w') := hide (fun W => by have := letter_any q W; rw [HRL.out.1] at this; exact this)
      have HFG : Hid (∀ W : World, Calls Tryd.prog 44 #[.int .i32 q] W fun e w' => e = .returned (.bool (figure d)) ∧ W = w') := hide (fun W => by have := figure_any q W; rw [HRL.out.2.1] at this; exact this)
      cases hl : letter d with
      | true =>
        have ha : alnum d = true := by unfold alnum; rw [hl]; rfl
        obtain rfl : n = 1 := HRL.out.2.2 ha
        have HGO := hide (hgo.out ha (.inr hl))
        rw [hl] at HLT
        clear ha hl
        go_wp2_with (first | (go_at_call 43; refine (HLT.out _).mono ?_; rintro e w' ⟨rfl, hw⟩; rw [← hw]; clear hw))
        go_roundw
        case rel => exact HGO.out
        case measure => simp; omega
      | false =>
        rw [hl] at HLT
        by_cases h0 : k = 0
        · subst h0
          have hbad : Hid (nameL T.data.toList = false) := hide (by have := HDR.out; rw [List.drop_zero] at this; rw [this]; exact nameL_bad0 d r hl)
          clear hl
          go_wp2_with (first | (go_at_call 43; refine (HLT.out _).mono ?_; rintro e w' ⟨rfl, hw⟩; rw [← hw]; clear hw))
          go_ret
          exact ⟨by rw [hbad.out]; rfl, iter_below w T _⟩
        · have kz : ((k : Int) == 0) = false := by rw [beq_eq_false_iff_ne]; omega
          cases hf : figure d with
          | true =>
            have ha : alnum d = true := by unfold alnum; rw [hf]; simp
            obtain rfl : n = 1 := HRL.out.2.2 ha
            have HGO := hide (hgo.out ha (.inl (by omega)))
            rw [hf] at HFG
            clear ha hl hf
            go_wp2_with (first | (go_at_call 43; refine (HLT.out _).mono ?_; rintro e w' ⟨rfl, hw⟩; rw [← hw]; clear hw) | (go_at_call 44; refine (HFG.out _).mono ?_; rintro e w' ⟨rfl, hw⟩; rw [← hw]; clear hw))
            go_roundw
            case rel => exact HGO.out
            case measure => simp; omega
          | false =>
            have hbad : Hid (nameL T.data.toList = false) := hide (nameL_bad _ k d r (by omega) HDR.out (by unfold alnum; rw [hl, hf]; rfl))
            rw [hf] at HFG
            clear hl hf
            go_wp2_with (first | (go_at_call 43; refine (HLT.out _).mono ?_; rintro e w' ⟨rfl, hw⟩; rw [← hw]; clear hw) | (go_at_call 44; refine (HFG.out _).mono ?_; rintro e w' ⟨rfl, hw⟩; rw [← hw]; clear hw))
            go_ret
            exact ⟨by rw [hbad.out]; rfl, iter_below w T _⟩
    · have hnx : ∀ ty, (Instr.next (.pointer (some ⟨w.heap.size, 0, none⟩)) true ty).run Tryd.prog (w.iter T k) = _ := fun ty => run_next_end w T k ty hlt
      have hkT : k = T.size := by omega
      rw [hkT, size_data T, List.take_length] at HALL
      have HB := hide (iter_below w T k)
      by_cases h0 : T.size = 0
      · have he : (T.toList == ([] : Bs)) = true ∧ nameL T.data.toList = false := by
          have : T.data.toList = [] := List.eq_nil_of_length_eq_zero (by rw [← size_data]; exact h0)
          rw [this]
          refine ⟨?_, rfl⟩
          have e : T = bs [] := by rw [← bs_of T, this]
          rw [e, bs_toList]; rfl
        have hbad := hide he.2
        have e1 := he.1
        have e2 : (T.toList != ([] : Bs)) = false := by unfold bne; rw [e1]; rfl
        clear he HALL hkT h0
        go_wp2_with fail
        go_ret
        exact ⟨by rw [hbad.out]; rfl, HB.out⟩
      · obtain ⟨c, r, hL, hlc⟩ := HF.out (by omega)
        have hgood : Hid (nameL T.data.toList = decide (word T.data.toList = 0)) := hide (nameL_good _ c r hL hlc HALL.out)
        have e1 : (T.toList == ([] : Bs)) = false := by
          have : T.toList = T.data.toList := by rw [← bs_of T]; exact bs_toList _
          rw [this, hL]; rfl
        have e2 : (T.toList != ([] : Bs)) = true := by unfold bne; rw [e1]; rfl
        have hww : Hid (∀ W : World, Calls Tryd.prog 24 #[.string T] W fun e w' => e = .returned (.int .i64 ((word T.data.toList : Nat) : Int)) ∧ W = w') := hide (fun W => by
          have := word_any T W
          rw [show T.toList = T.data.toList from by rw [← bs_of T]; exact bs_toList _] at this
          exact this)
        clear hL hlc hkT h0
        go_wp2_with (first | (go_at_call 24; refine (hww.out _).mono ?_; rintro e w' ⟨rfl, hw⟩; rw [← hw]; clear hw))
        go_ret
        refine ⟨?_, HB.out⟩
        rw [hgood.out]
        exact ret_bool (by rw [Bool.eq_iff_iff]; simp; try omega)
end Go.Proofs.YtehflgllfkkfoaaDoor
