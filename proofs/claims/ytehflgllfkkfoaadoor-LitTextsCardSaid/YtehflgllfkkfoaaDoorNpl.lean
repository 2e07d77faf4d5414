/- Package lit: Plain. -/
import Derived.Test.YtehflgllfkkfoaaDoorNo
set_option linter.unusedVariables false
set_option linter.unusedSimpArgs false
namespace Go.Proofs.YtehflgllfkkfoaaDoor
open Go.RowKit Go.Proofs.Dm

theorem plain_bad (L : Bs) (k : Nat) (d : UInt8) (r : Bs) (hd : L.drop k = d :: r) (h : figure d = false) : plainL L = false := by
  have hm : d ∈ L := by
    have : d ∈ L.drop k := by rw [hd]; simp
    exact List.mem_of_mem_drop this
  unfold plainL
  have : L.all figure = false := by rw [List.all_eq_false]; exact ⟨d, hm, by simp [h]⟩
  simp [this]
theorem figR_two (q : Int) (b : Bool) (h : figR q = b) : (b = true → (decide (q < 48)) = false ∧ decide (57 < q) = false) ∧ (b = false → decide (q < 48) = true ∨ (decide (q < 48) = false ∧ decide (57 < q) = true)) := by
  subst h
  unfold figR
  by_cases h1 : q < 48 <;> by_cases h2 : 57 < q <;> simp [h1, h2] <;> omega
set_option maxRecDepth 100000 in
set_option maxHeartbeats 12800000 in
theorem Plain_any (T : ByteArray) (hT : T.size ≤ 1000000) (w : World) :
    Calls Tryd.prog 30 #[.string T] w fun e w' => e = .returned (.bool (plainL T.data.toList)) ∧ Below w.heap.size w w' := by
  have hc : Hid (∀ (W : World), (∀ c ∈ T.data.toList, figure c = true) → (T.toList == ([48] : Bs)) = true ∧ plainL T.data.toList = true ∨
      ((T.toList == ([48] : Bs)) = false ∧ ((T.toList.isEmpty = true ∧ (T.toList == ([] : Bs)) = true ∧ plainL T.data.toList = false) ∨
        (T.toList.isEmpty = false ∧ (T.toList == ([] : Bs)) = false ∧ ((¬ (T.size : Int) ≤ 200 ∧ plainL T.data.toList = false) ∨ ((T.size : Int) ≤ 200 ∧ ∃ (i0 : 0 < T.size) (d : UInt8), T[0]'i0 = d ∧ (d.toNat : Int) ≤ 255 ∧ ((((d.toNat : Int)) == 48) = true ∧ plainL T.data.toList = false ∨ (((d.toNat : Int)) == 48) = false ∧ plainL T.data.toList = true))))))) := hide (by
    intro W hall
    have ha : T.data.toList.all figure = true := by rw [List.all_eq_true]; exact hall
    rw [toList_bs]
    have hsz := size_data T
    unfold plainL
    rw [ha]
    cases hL : T.data.toList with
    | nil => right; refine ⟨rfl, .inl ⟨rfl, rfl, rfl⟩⟩
    | cons d r =>
      by_cases h48 : d :: r = [48]
      · left; rw [h48]; exact ⟨rfl, rfl⟩
      · right
        have h48' : (d :: r == ([48] : Bs)) = false := by rw [beq_eq_false_iff_ne]; exact h48
        refine ⟨h48', .inr ⟨rfl, rfl, ?_⟩⟩
        rw [hL] at hsz
        by_cases hl : T.size ≤ 200
        · right
          obtain ⟨i0, e0⟩ := byte_at0 hL
          refine ⟨by omega, i0, d, e0, by have := d.toNat_lt; omega, ?_⟩
          have hl' : (d :: r).length ≤ 200 := by rw [← hsz]; exact hl
          by_cases hd : d = 48
          · left
            rw [hd] at h48 ⊢
            refine ⟨rfl, ?_⟩
            rw [show ((48 : UInt8) :: r == ([48] : Bs)) = false from by rw [beq_eq_false_iff_ne]; exact h48]
            simp
          · right
            refine ⟨byte_eqF 48 48 hd, ?_⟩
            rw [h48']
            simp at hl'
            simp [hd, hl']
        · left
          refine ⟨by omega, ?_⟩
          have hl' : ¬ (d :: r).length ≤ 200 := by rw [← hsz]; exact hl
          rw [h48', decide_eq_false hl']
          simp)
  have t0 : (T.size : Int) ≤ 1000000 := by omega
  go_enter Tryd.func30, Tryd.ntmps30
  go_wp2_with fail
  go_loopw [4] (fun _ w' => ∃ k : Nat, w' = w.iter T k ∧ k ≤ T.size ∧ ∀ c ∈ T.data.toList.take k, figure c = true) (fun _ w' => T.size - w'.iterPos w.heap.size)
  case atStart => exact ⟨0, rfl, Nat.zero_le _, by simp⟩
  case round =>
    obtain ⟨k, rfl, hk, hall⟩ := hrel
    have HALL := hide hall; clear hall
    by_cases hlt : k < T.size
    · have hkl : k < T.data.toList.length := by rw [← size_data]; exact hlt
      obtain ⟨d, r, hdr⟩ : ∃ d r, T.data.toList.drop k = d :: r := ⟨_, _, List.drop_eq_getElem_cons hkl⟩
      have hdk : T.data.toList[k] = d := by
        have := List.drop_eq_getElem_cons hkl
        rw [hdr] at this
        injection this with h1 _
        exact h1.symm
      have hnx : ∀ ty, (Instr.next (.pointer (some ⟨w.heap.size, 0, none⟩)) true ty).run Tryd.prog (w.iter T k) = _ := fun ty => run_next_any w T k ty hlt
      rw [decode_eq, hdr] at hnx
      have hrl := rune_let d r
      have hfig := hrl.2.1
      have hlen1 := hrl.2.2
      obtain ⟨q, hq⟩ : ∃ q : Int, ((decodeL (d :: r)).1 : Int) = q := ⟨_, rfl⟩
      rw [hq] at hnx hfig
      have h2 := figR_two q _ hfig
      cases hf : figure d with
      | true =>
        have hn1 := hlen1 (by unfold alnum; rw [hf]; simp)
        rw [hn1] at hnx
        rw [hf] at h2
        obtain ⟨q1, q2⟩ := h2.1 rfl
        have q1 : ¬ q < 48 := of_decide_eq_false q1
        have q2 : ¬ 57 < q := of_decide_eq_false q2
        have q3 : (48 : Int) ≤ q := by omega
        have q4 : q ≤ 57 := by omega
        have HNX : Hid (∀ c ∈ T.data.toList.take (k + 1), figure c = true) := hide (by
          intro c hc
          rw [List.take_succ_eq_append_getElem hkl] at hc
          rcases List.mem_append.1 hc with hc | hc
          · exact HALL.out c hc
          · rw [List.mem_singleton.1 hc, hdk]; exact hf)
        clear hrl hfig hlen1 h2 hq hn1 hdr hdk hf
        go_wp2_with fail
        go_roundw
        case rel => exact ⟨k + 1, rfl, hlt, HNX.out⟩
        case measure => simp; omega
      | false =>
        have HBAD : Hid (plainL T.data.toList = false) := hide (plain_bad _ k d r hdr hf)
        rw [hf] at h2
        clear hrl hfig hlen1 hq hdr hdk hf
        rcases h2.2 rfl with q1 | ⟨q1, q2⟩
        · have q1 : q < 48 := of_decide_eq_true q1
          clear h2
          go_wp2_with fail
          go_ret
          exact ⟨by rw [HBAD.out]; rfl, iter_below w T _⟩
        · have q1 : ¬ q < 48 := of_decide_eq_false q1
          have q2 : 57 < q := of_decide_eq_true q2
          clear h2
          go_wp2_with fail
          go_ret
          exact ⟨by rw [HBAD.out]; rfl, iter_below w T _⟩
    · have hnx : ∀ ty, (Instr.next (.pointer (some ⟨w.heap.size, 0, none⟩)) true ty).run Tryd.prog (w.iter T k) = _ := fun ty => run_next_end w T k ty hlt
      have hlast : T.data.toList.take k = T.data.toList := List.take_of_length_le (by rw [← size_data]; omega)
      have hall := HALL.out
      rw [hlast] at hall
      rcases hc.out w hall with ⟨c0, hp⟩ | ⟨c0, ⟨c1, c2, hp⟩ | ⟨c1, c2, ⟨c3, hp⟩ | ⟨c3, i0, d, e0, d0, ⟨c4, hp⟩ | ⟨c4, hp⟩⟩⟩⟩
      all_goals
        have HP := hide hp
        clear hp hall hlast hc
      · go_wp2_with fail
        go_ret
        exact ⟨by rw [HP.out]; rfl, iter_below w T _⟩
      · go_wp2_with fail
        go_ret
        exact ⟨by rw [HP.out]; rfl, iter_below w T _⟩
      · go_wp2_with fail
        go_ret
        exact ⟨by rw [HP.out]; rfl, iter_below w T _⟩
      · have j0 : (0 : Int) < (T.size : Int) := by omega
        have c5 : (((d.toNat : Int)) != 48) = false := by unfold bne; rw [c4]; rfl
        go_wp2_with fail
        go_ret
        exact ⟨by rw [HP.out]; rfl, iter_below w T _⟩
      · have j0 : (0 : Int) < (T.size : Int) := by omega
        have c5 : (((d.toNat : Int)) != 48) = true := by unfold bne; rw [c4]; rfl
        go_wp2_with fail
        go_ret
        exact ⟨by rw [HP.out]; rfl, iter_below w T _⟩
end Go.Proofs.YtehflgllfkkfoaaDoor
