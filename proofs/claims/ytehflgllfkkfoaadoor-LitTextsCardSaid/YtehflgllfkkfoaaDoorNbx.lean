/- Package lit: need and digits where they fail; digits as such. -/
import Derived.Test.YtehflgllfkkfoaaDoorNtg
set_option linter.unusedVariables false
set_option linter.unusedSimpArgs false
namespace Go.Proofs.YtehflgllfkkfoaaDoor
open Go.RowKit Go.Proofs.Dm

/-- What is no text's token, as a panic. -/
def litWrong : List PanicEntry := [{ v := .iface 66 (.agg #[]), recovered := false }]
theorem need_bad (w : World) : Calls Tryd.prog 50 #[.bool false] w fun e w' => e = .panicked litWrong ∧ w = w' := by
  go_enter Tryd.func50, Tryd.ntmps50
  go_wp2
  exact ⟨rfl, rfl, rfl⟩
set_option maxRecDepth 100000 in
set_option maxHeartbeats 12800000 in
theorem digits_bad (s : ByteArray) (n b : Nat) (hs : s.size ≤ 100000) (hn : n ≤ s.size) (hn8 : n ≤ 8) (hb : b ≤ 16) (hg : ¬ ∀ d ∈ s.data.toList.take n, digL d < b) (w : World) :
    Calls Tryd.prog 82 #[.string s, .int .i64 (n : Int), .int .i64 (b : Int)] w fun e w' => e = .panicked litWrong ∧ Below w.heap.size w w' := by
  have n0 : (n : Int) ≤ (s.size : Int) := by omega
  have n1 : (0 : Int) ≤ (n : Int) := by omega
  have n2 : (n : Int) ≤ 8 := by omega
  have s1 : (s.size : Int) ≤ 100000 := by omega
  have b1 : (0 : Int) ≤ (b : Int) := by omega
  have b2 : (b : Int) ≤ 16 := by omega
  obtain ⟨T, hT⟩ : ∃ T, s.extract 0 n = T := ⟨_, rfl⟩
  have hTl : T.data.toList = s.data.toList.take n := by rw [← hT]; simp [ByteArray.extract, ByteArray.copySlice]
  have hTs : T.size = n := by rw [size_data, hTl, List.length_take, Nat.min_eq_left (by rw [← size_data]; exact hn)]
  rw [← hTl] at hg
  have HG := hide hg
  have HTL := hide hTl
  have HTS := hide hTs
  clear hg hTl hTs
  have hnd := need_ok
  go_enter Tryd.func82, Tryd.ntmps82
  go_wp2_with fail
  refine (need_ok _).mono ?_
  rintro e w' ⟨rfl, rfl⟩
  go_wp2_with fail
  go_loopw [7] (fun s7 W' => ∃ k : Nat, W' = w.iter T k ∧ k ≤ T.size ∧ s7 = .int .i64 (foldD b (T.data.toList.take k) : Int) ∧ ∀ d ∈ T.data.toList.take k, digL d < b) (fun _ W' => T.size - W'.iterPos w.heap.size)
  case atStart => exact ⟨0, rfl, Nat.zero_le _, rfl, by simp⟩
  case round =>
    obtain ⟨k, rfl, hk, rfl, hall⟩ := hrel
    have HALL := hide hall; clear hall
    by_cases hlt : k < T.size
    · have hkl : k < T.data.toList.length := by rw [← size_data]; exact hlt
      obtain ⟨d, r, hdr⟩ : ∃ d r, T.data.toList.drop k = d :: r := ⟨_, _, List.drop_eq_getElem_cons hkl⟩
      have hdk : T.data.toList[k] = d := by
        have := List.drop_eq_getElem_cons hkl
        rw [hdr] at this
        injection this with h1 _
        exact h1.symm
      have hnx : ∀ ty, (Instr.next (.pointer (some ⟨w.heap.size, 0, none⟩)) true ty).run Tryd.prog (w.iter T k) = _ := fun ty => run_next_any w T k ty hlt
      rw [decode_eq, hdr] at hnx
      by_cases hd : digL d < b
      · have hrd := rune_dig d r
        have hmax := decodeL_max (d :: r)
        obtain ⟨q, hq⟩ : ∃ q : Int, ((decodeL (d :: r)).1 : Int) = q := ⟨_, rfl⟩
        have hn1 := hrd.2.1 (.inl (by omega))
        have hq0 : 0 ≤ q := by omega
        have hq1 : q ≤ 1114111 := by omega
        rw [hq, hn1] at hnx
        rw [hq] at hrd
        have hdig := fun W => digit_any q hq0 hq1 W
        rw [hrd.1, if_neg (by omega)] at hdig
        obtain ⟨x, hx⟩ : ∃ x, digL d = x := ⟨_, rfl⟩
        rw [hx] at hd hdig
        obtain ⟨V, hV⟩ : ∃ V, foldD b (T.data.toList.take k) = V := ⟨_, rfl⟩
        have hVlt : V < 16 ^ 8 := by
          rw [← hV]
          refine foldD_lt b hb _ HALL.out 8 ?_
          rw [List.length_take]; have := HTS.out; omega
        have hnext : foldD b (T.data.toList.take (k + 1)) = V * b + x := by
          rw [List.take_succ_eq_append_getElem hkl, foldD_snoc, hV, hdk, hx]
        obtain ⟨p, hp⟩ : ∃ p, V * b = p := ⟨_, rfl⟩
        have hp16 : p ≤ V * 16 := by rw [← hp]; exact Nat.mul_le_mul_left _ hb
        have hpi : (V : Int) * (b : Int) = (p : Int) := by rw [← hp]; simp
        rw [hV]
        rw [hp] at hnext
        have HNX := hide hnext
        have HALL2 : Hid (∀ d ∈ T.data.toList.take (k + 1), digL d < b) := hide (by
          intro y hy
          rw [List.take_succ_eq_append_getElem hkl] at hy
          rcases List.mem_append.1 hy with hy | hy
          · exact HALL.out y hy
          · rw [List.mem_singleton.1 hy, hdk, hx]; exact hd)
        have HDIG := hide hdig
        have x0 : (0 : Int) ≤ (x : Int) := by omega
        have x1 : (x : Int) < (b : Int) := by omega
        have p0 : (0 : Int) ≤ (p : Int) := by omega
        have p1 : (p : Int) ≤ 68719476736 := by omega
        have V0 : (0 : Int) ≤ (V : Int) := by omega
        have V1 : (V : Int) ≤ 4294967296 := by omega
        clear hnext hdig hrd hmax hdk hdr hV hx hp hn1 hq hVlt hd
        go_wp2_with fail
        refine (HDIG.out _).mono ?_
        rintro e w' ⟨rfl, rfl⟩
        go_wp2_with fail
        refine (need_ok _).mono ?_
        rintro e w' ⟨rfl, rfl⟩
        go_wp2_with fail
        go_roundw
        case rel => exact ⟨k + 1, rfl, hlt, by rw [HNX.out]; simp, HALL2.out⟩
        case measure => simp; omega
      · have hrd := rune_dig d r
        have hmax := decodeL_max (d :: r)
        obtain ⟨q, hq⟩ : ∃ q : Int, ((decodeL (d :: r)).1 : Int) = q := ⟨_, rfl⟩
        obtain ⟨n', hn'⟩ : ∃ n', (decodeL (d :: r)).2 = n' := ⟨_, rfl⟩
        have hq0 : 0 ≤ q := by omega
        have hq1 : q ≤ 1114111 := by omega
        rw [hq, hn'] at hnx
        rw [hq] at hrd
        have hdig := fun W => digit_any q hq0 hq1 W
        have hz : (digI q = -1) ∨ ∃ x : Nat, digI q = (x : Int) ∧ b ≤ x := by
          rw [hrd.1]
          by_cases h99 : digL d = 99
          · left; rw [if_pos h99]
          · right; rw [if_neg h99]; exact ⟨_, rfl, Nat.le_of_not_lt hd⟩
        rcases hz with hz | ⟨x, hz, hxb⟩
        · rw [hz] at hdig
          have HDIG := hide hdig
          clear hdig hrd hmax hdk hdr hn' hq hd
          go_wp2_with fail
          refine (HDIG.out _).mono ?_
          rintro e w' ⟨rfl, rfl⟩
          go_wp2_with fail
          refine (need_bad _).mono ?_
          rintro e w' ⟨rfl, rfl⟩
          exact ⟨rfl, rfl, iter_below w T _⟩
        · rw [hz] at hdig
          have HDIG := hide hdig
          have x0 : (0 : Int) ≤ (x : Int) := by omega
          have x1 : ¬ (x : Int) < (b : Int) := by omega
          have x2 : decide (x < b) = false := decide_eq_false (by omega)
          clear hdig hrd hmax hdk hdr hn' hq hd hxb
          go_wp2_with fail
          refine (HDIG.out _).mono ?_
          rintro e w' ⟨rfl, rfl⟩
          go_wp2_with fail
          refine (need_bad _).mono ?_
          rintro e w' ⟨rfl, rfl⟩
          exact ⟨rfl, rfl, iter_below w T _⟩
    · exfalso
      apply HG.out
      have h9 := HALL.out
      rw [List.take_of_length_le (by rw [← size_data]; omega)] at h9
      exact h9
theorem foldD_val (b : Nat) (l : Bs) : foldD b l = valL b (l.map digL) := by unfold foldD valL valF; rw [List.foldl_map]
theorem digits_short (s : ByteArray) (n b : Nat) (hs : s.size ≤ 100000) (hn : s.size < n) (hn8 : n ≤ 8) (w : World) :
    Calls Tryd.prog 82 #[.string s, .int .i64 (n : Int), .int .i64 (b : Int)] w fun e w' => e = .panicked litWrong ∧ Below w.heap.size w w' := by
  have n0 : ¬ (n : Int) ≤ (s.size : Int) := by omega
  go_enter Tryd.func82, Tryd.ntmps82
  go_wp2_with fail
  refine (need_bad _).mono ?_
  rintro e w' ⟨rfl, rfl⟩
  exact ⟨rfl, rfl, Below.refl _ _⟩
def DigitsEnd (s : Bs) (n b : Nat) (w : World) (e : Ending) (w' : World) : Prop :=
  (match valueL b n s with
  | none => e = .panicked litWrong
  | some v => e = .returned (.int .i64 (v : Int))) ∧ Below w.heap.size w w'
theorem digits_any (s : ByteArray) (n b : Nat) (hs : s.size ≤ 100000) (hn8 : n ≤ 8) (hb : b ≤ 16) (w : World) :
    Calls Tryd.prog 82 #[.string s, .int .i64 (n : Int), .int .i64 (b : Int)] w (DigitsEnd s.data.toList n b w) := by
  have hsz := size_data s
  by_cases h1 : s.size < n
  · refine (digits_short s n b hs h1 hn8 w).mono ?_
    rintro e w' ⟨rfl, h⟩
    unfold DigitsEnd valueL
    rw [if_pos (by omega)]
    exact ⟨rfl, h⟩
  by_cases h2 : ∀ d ∈ s.data.toList.take n, digL d < b
  · refine (digits_good s n b hs (by omega) hn8 hb h2 w).mono ?_
    rintro e w' ⟨rfl, h⟩
    unfold DigitsEnd valueL
    rw [if_neg (by omega), if_pos h2, foldD_val]
    exact ⟨rfl, h⟩
  · refine (digits_bad s n b hs (by omega) hn8 hb h2 w).mono ?_
    rintro e w' ⟨rfl, h⟩
    unfold DigitsEnd valueL
    rw [if_neg (by omega), if_neg h2]
    exact ⟨rfl, h⟩
end Go.Proofs.YtehflgllfkkfoaaDoor
