/- Package lit: digits where they are digits. -/
import Derived.Test.YtehflgllfkkfoaaDoorNc
set_option linter.unusedVariables false
set_option linter.unusedSimpArgs false
namespace Go.Proofs.YtehflgllfkkfoaaDoor
open Go.RowKit Go.Proofs.Dm

def foldD (b : Nat) (l : Bs) : Nat := l.foldl (fun a d => a * b + digL d) 0
theorem foldD_snoc (b : Nat) (l : Bs) (d : UInt8) : foldD b (l ++ [d]) = foldD b l * b + digL d := by unfold foldD; rw [List.foldl_append]; rfl
theorem foldD_acc (b : Nat) (hb : b ≤ 16) : ∀ (l : Bs) (a : Nat), (∀ d ∈ l, digL d < b) → l.foldl (fun a d => a * b + digL d) a < (a + 1) * 16 ^ l.length
  | [], a, _ => by simp
  | x :: l, a, h => by
    have h1 := foldD_acc b hb l (a * b + digL x) (fun d hd => h d (by simp [hd]))
    have h2 := h x (by simp)
    have h3 : (a + 1) * b ≤ (a + 1) * 16 := Nat.mul_le_mul_left _ hb
    have h4 : a * b + digL x + 1 ≤ (a + 1) * 16 := by rw [Nat.add_mul] at h3 ⊢; omega
    have h5 := Nat.mul_le_mul_right (16 ^ l.length) h4
    rw [List.foldl_cons, List.length_cons, Nat.pow_succ, Nat.mul_comm (16 ^ l.length) 16, ← Nat.mul_assoc]
    omega
theorem foldD_lt (b : Nat) (hb : b ≤ 16) (l : Bs) (h : ∀ d ∈ l, digL d < b) (n : Nat) (hn : l.length ≤ n) : foldD b l < 16 ^ n := by
  have h1 := foldD_acc b hb l 0 h
  have h2 : 16 ^ l.length ≤ 16 ^ n := Nat.pow_le_pow_right (by decide) hn
  unfold foldD
  omega
set_option maxRecDepth 100000 in
set_option maxHeartbeats 12800000 in
theorem digits_good (s : ByteArray) (n b : Nat) (hs : s.size ≤ 100000) (hn : n ≤ s.size) (hn8 : n ≤ 8) (hb : b ≤ 16) (hg : ∀ d ∈ s.data.toList.take n, digL d < b) (w : World) :
    Calls Tryd.prog 82 #[.string s, .int .i64 (n : Int), .int .i64 (b : Int)] w fun e w' => e = .returned (.int .i64 (foldD b (s.data.toList.take n) : Int)) ∧ Below w.heap.size w w' := by
  have n0 : (n : Int) ≤ (s.size : Int) := by omega
  have n1 : (0 : Int) ≤ (n : Int) := by omega
  have n2 : (n : Int) ≤ 8 := by omega
  have s1 : (s.size : Int) ≤ 100000 := by omega
  have b1 : (0 : Int) ≤ (b : Int) := by omega
  have b2 : (b : Int) ≤ 16 := by omega
  obtain ⟨T, hT⟩ : ∃ T, s.extract 0 n = T := ⟨_, rfl⟩
  have hTl : T.data.toList = s.data.toList.take n := by rw [← hT]; simp [ByteArray.extract, ByteArray.copySlice]
  have hTs : T.size = n := by rw [size_data, hTl, List.length_take, Nat.min_eq_left (by rw [← size_data]; exact hn)]
  rw [← hTl] at hg ⊢
  have HG := hide hg
  have HTL := hide hTl
  have HTS := hide hTs
  clear hg hTl hTs
  have hnd := need_ok
  go_enter Tryd.func82, Tryd.ntmps82
  go_wp2_with fail
  refine (need_ok _).mono ?_
  rintro e w' ⟨rfl, rfl⟩
  go_wp2_with fail
  go_loopw [7] (fun s7 W' => ∃ k : Nat, W' = w.iter T k ∧ k ≤ T.size ∧ s7 = .int .i64 (foldD b (T.data.toList.take k) : Int)) (fun _ W' => T.size - W'.iterPos w.heap.size)
  case atStart => exact ⟨0, rfl, Nat.zero_le _, rfl⟩
  case round =>
    obtain ⟨k, rfl, hk, rfl⟩ := hrel
    by_cases hlt : k < T.size
    · have hkl : k < T.data.toList.length := by rw [← size_data]; exact hlt
      obtain ⟨d, r, hdr⟩ : ∃ d r, T.data.toList.drop k = d :: r := ⟨_, _, List.drop_eq_getElem_cons hkl⟩
      have hdk : T.data.toList[k] = d := by
        have := List.drop_eq_getElem_cons hkl
        rw [hdr] at this
        injection this with h1 _
        exact h1.symm
      have hd : digL d < b := HG.out d (by rw [← hdk]; exact List.getElem_mem hkl)
      have hnx : ∀ ty, (Instr.next (.pointer (some ⟨w.heap.size, 0, none⟩)) true ty).run Tryd.prog (w.iter T k) = _ := fun ty => run_next_any w T k ty hlt
      rw [decode_eq, hdr] at hnx
      have hrd := rune_dig d r
      have hmax := decodeL_max (d :: r)
      obtain ⟨q, hq⟩ : ∃ q : Int, ((decodeL (d :: r)).1 : Int) = q := ⟨_, rfl⟩
      have hn1 := hrd.2.1 (.inl (by omega))
      have hq0 : 0 ≤ q := by omega
      have hq1 : q ≤ 1114111 := by omega
      rw [hq, hn1] at hnx
      rw [hq] at hrd
      have hdig := fun W => digit_any q hq0 hq1 W
      rw [hrd.1, if_neg (by omega)] at hdig
      obtain ⟨x, hx⟩ : ∃ x, digL d = x := ⟨_, rfl⟩
      rw [hx] at hd hdig
      obtain ⟨V, hV⟩ : ∃ V, foldD b (T.data.toList.take k) = V := ⟨_, rfl⟩
      have hVlt : V < 16 ^ 8 := by
        rw [← hV]
        refine foldD_lt b hb _ (fun d hd => HG.out d (List.mem_of_mem_take hd)) 8 ?_
        rw [List.length_take]; have := HTS.out; omega
      have hnext : foldD b (T.data.toList.take (k + 1)) = V * b + x := by
        rw [List.take_succ_eq_append_getElem hkl, foldD_snoc, hV, hdk, hx]
      obtain ⟨p, hp⟩ : ∃ p, V * b = p := ⟨_, rfl⟩
      have hp16 : p ≤ V * 16 := by rw [← hp]; exact Nat.mul_le_mul_left _ hb
      have hpi : (V : Int) * (b : Int) = (p : Int) := by rw [← hp]; simp
      rw [hV]
      rw [hp] at hnext
      have HNX := hide hnext
      have HDIG := hide hdig
      have x0 : (0 : Int) ≤ (x : Int) := by omega
      have x1 : (x : Int) < (b : Int) := by omega
      have p0 : (0 : Int) ≤ (p : Int) := by omega
      have p1 : (p : Int) ≤ 68719476736 := by omega
      have V0 : (0 : Int) ≤ (V : Int) := by omega
      have V1 : (V : Int) ≤ 4294967296 := by omega
      clear hnext hdig hrd hmax hdk hdr hV hx hp hn1 hq hVlt hd
      go_wp2_with fail
      refine (HDIG.out _).mono ?_
      rintro e w' ⟨rfl, rfl⟩
      go_wp2_with fail
      refine (need_ok _).mono ?_
      rintro e w' ⟨rfl, rfl⟩
      go_wp2_with fail
      go_roundw
      case rel => exact ⟨k + 1, rfl, hlt, by rw [HNX.out]; simp⟩
      case measure => simp; omega
    · have hnx : ∀ ty, (Instr.next (.pointer (some ⟨w.heap.size, 0, none⟩)) true ty).run Tryd.prog (w.iter T k) = _ := fun ty => run_next_end w T k ty hlt
      have hlast : T.data.toList.take k = T.data.toList := List.take_of_length_le (by rw [← size_data]; omega)
      rw [hlast]
      clear hlast
      go_wp2_with fail
      go_ret
      exact ⟨rfl, iter_below w T _⟩
end Go.Proofs.YtehflgllfkkfoaaDoor
