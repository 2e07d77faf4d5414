/- The reference's Quote, value, Sign, part, Text. -/
import Derived.Test.YtehflgllfkkfoaaDoorLitP
import Derived.Test.YtehflgllfkkfoaaDoorRg
import Derived.Test.YtehflgllfkkfoaaDoorTf
import Derived.IntWalk
import Derived.Laws.Concat
import Derived.Test.YtehflgllfkkfoaaDoorRn
import Derived.StillTailTactics
import Derived.Test.YtehflgllfkkfoaaDoorRk
import Derived.Test.YtehflgllfkkfoaaDoorNtg
set_option linter.unusedVariables false
set_option linter.unusedSimpArgs false
namespace Go.Proofs.YtehflgllfkkfoaaDoor
open Go.RowKit Go.Proofs.Dm

theorem bs_app (a b : Bs) : bs a ++ bs b = bs (a ++ b) := ByteArray.mk_append_mk a b
theorem quoteB_snocR (l : Bs) (d : UInt8) : quoteB (l ++ [d]) = quoteB l ++ quoteC d := by simp [quoteB]
theorem hex_cut : ∀ a : Fin 16, ByteArray.extract (⟨#[48, 49, 50, 51, 52, 53, 54, 55, 56, 57, 97, 98, 99, 100, 101, 102]⟩ : ByteArray) a.val (a.val + 1) = bs [hexD a.val] := by decide +kernel
theorem byte_cut (s : ByteArray) (S : Bs) (hS : s.data.toList = S) (k : Nat) (d : UInt8) (h : S[k]? = some d) : s.extract k (k + 1) = bs [d] := by
  rw [extract_bs, hS, show k + 1 - k = 1 from by omega]
  obtain ⟨hk, hd⟩ := List.getElem?_eq_some_iff.1 h
  rw [List.drop_eq_getElem_cons hk, hd]; rfl
set_option maxRecDepth 100000 in
set_option maxHeartbeats 12800000 in
theorem rQuote_any (s : ByteArray) (hs : s.size ≤ 20000) (w : World) :
    Calls Tryd.prog 34 #[.string s] w fun e w' => e = .returned (.string (bs (quoteL s.data.toList))) ∧ Below w.heap.size w w' := by
  have hsz := size_data s
  obtain ⟨S, hS⟩ : ∃ S, s.data.toList = S := ⟨_, rfl⟩
  rw [hS] at hsz ⊢
  have HS := hide hS
  have HSZ := hide hsz
  clear hS hsz
  have t0 : (s.size : Int) ≤ 20000 := by omega
  go_enter Tryd.func34, Tryd.ntmps34
  go_wp2_with fail
  go_loopw [3, 4] (fun v i W' => ∃ W, W = W' ∧ Below w.heap.size w W ∧ ∃ k : Nat, k ≤ s.size ∧ i = .int .i64 (k : Int) ∧ ∃ Q, v = .string Q ∧ Q = bs (34 :: quoteB (S.take k))) (fun _ i _ => s.size - (intOf i).toNat)
  case atStart => exact ⟨_, rfl, Below.refl _ _, 0, Nat.zero_le _, rfl, _, rfl, rfl⟩
  case round =>
    obtain ⟨W, rfl, hbw, k, hk, rfl, Q, rfl, hQ⟩ := hrel
    have hqb := quoteB_len (S.take k)
    have htk : (S.take k).length = k := by rw [List.length_take, ← HSZ.out]; omega
    have hqs : Q.size ≤ 80001 := by rw [hQ, bs_size, List.length_cons]; omega
    have hqi : (Q.size : Int) ≤ 80001 := by omega
    have HQ := hide hQ
    clear hqb htk hQ
    have k0 : (0 : Int) ≤ (k : Int) := by omega
    by_cases hlt : k < s.size
    · have hkl : k < S.length := by rw [← HSZ.out]; exact hlt
      have j0 : (k : Int) < (s.size : Int) := by omega
      obtain ⟨d, e0⟩ : ∃ d, s[k]'hlt = d := ⟨_, rfl⟩
      have hd : S[k]'hkl = d := by
        rw [← e0]
        have : s.data.toList[k]'(by rw [HS.out]; exact hkl) = S[k]'hkl := by simp [HS.out]
        rw [← this]; rfl
      have hnext : ∀ x, x = quoteC d → bs (34 :: quoteB (S.take (k + 1))) = Q ++ bs x := by
        intro x hx
        rw [List.take_succ_eq_append_getElem hkl, hd, quoteB_snocR, ← List.cons_append, ← bs_app, HQ.out, hx]
      have hbc := byte_cut s S HS.out k d (by rw [List.getElem?_eq_getElem hkl, hd])
      have HBC := hide hbc
      have HNX := hide hnext
      clear hnext hkl hbc hd
      have hcl : d = 34 ∨ d = 92 ∨ d = 10 ∨ d = 9 ∨ ((((d.toNat : Int)) == 34) = false ∧ (((d.toNat : Int)) == 92) = false ∧ (((d.toNat : Int)) == 10) = false ∧ (((d.toNat : Int)) == 9) = false ∧ ((((32 : Int) ≤ (d.toNat : Int)) ∧ (d.toNat : Int) ≤ 126 ∧ quoteC d = [d]) ∨ ((¬ (32 : Int) ≤ (d.toNat : Int) ∨ ((32 : Int) ≤ (d.toNat : Int) ∧ ¬ (d.toNat : Int) ≤ 126)) ∧ quoteC d = [92, 120, hexD (d.toNat / 16), hexD (d.toNat % 16)]))) := by
        by_cases h1 : d = 34
        · exact .inl h1
        by_cases h2 : d = 92
        · exact .inr (.inl h2)
        by_cases h3 : d = 10
        · exact .inr (.inr (.inl h3))
        by_cases h4 : d = 9
        · exact .inr (.inr (.inr (.inl h4)))
        refine .inr (.inr (.inr (.inr ⟨byte_eqF 34 34 h1, byte_eqF 92 92 h2, byte_eqF 10 10 h3, byte_eqF 9 9 h4, ?_⟩)))
        unfold quoteC
        rw [if_neg (by simp [h1, h2]), if_neg h3, if_neg h4]
        by_cases h5 : 32 ≤ d.toNat ∧ d.toNat ≤ 126
        · left; rw [if_pos h5]; exact ⟨by omega, by omega, rfl⟩
        · right; rw [if_neg h5]; exact ⟨by omega, rfl⟩
      have hd256 := d.toNat_lt
      rcases hcl with rfl | rfl | rfl | rfl | ⟨q1, q2, q3, q4, ⟨q5, q6, hqc⟩ | ⟨q5, hqc⟩⟩
      · go_wp2_with fail
        go_roundw
        case rel => exact ⟨_, rfl, hbw, k + 1, hlt, by go_num, _, rfl, (HNX.out [92, 34] rfl).symm⟩
        case measure => simp [intOf]; omega
      · go_wp2_with fail
        go_roundw
        case rel => exact ⟨_, rfl, hbw, k + 1, hlt, by go_num, _, rfl, (HNX.out [92, 92] rfl).symm⟩
        case measure => simp [intOf]; omega
      · go_wp2_with fail
        go_roundw
        case rel => exact ⟨_, rfl, hbw, k + 1, hlt, by go_num, _, rfl, (HNX.out [92, 110] rfl).symm⟩
        case measure => simp [intOf]; omega
      · go_wp2_with fail
        go_roundw
        case rel => exact ⟨_, rfl, hbw, k + 1, hlt, by go_num, _, rfl, (HNX.out [92, 116] rfl).symm⟩
        case measure => simp [intOf]; omega
      · have HQC := hide hqc
        clear hqc
        have hbc := HBC.out
        obtain ⟨D, hD⟩ : ∃ D, bs [d] = D := ⟨_, rfl⟩
        rw [hD] at hbc
        have hds : (D.size : Int) ≤ 1 := by rw [← hD]; exact Int.le_refl _
        have HD := hide hD
        clear hD
        go_wp2_with fail
        go_roundw
        case rel => exact ⟨_, rfl, hbw, k + 1, hlt, by go_num, _, rfl, by rw [HNX.out [d] HQC.out.symm, HD.out]⟩
        case measure => simp [intOf]; omega
      · obtain ⟨a, ha⟩ : ∃ a, d.toNat / 16 = a := ⟨_, rfl⟩
        obtain ⟨b, hb⟩ : ∃ b, d.toNat % 16 = b := ⟨_, rfl⟩
        rw [ha, hb] at hqc
        have HQC := hide hqc
        have hai : (d.toNat : Int) / 16 = (a : Int) := by omega
        have hbi : (d.toNat : Int) % 16 = (b : Int) := by omega
        have a1 : (0 : Int) ≤ (a : Int) := by omega
        have a2 : (a : Int) < 16 := by omega
        have b1 : (0 : Int) ≤ (b : Int) := by omega
        have b2 : (b : Int) < 16 := by omega
        have hxa := hex_cut ⟨a, by omega⟩
        have hxb := hex_cut ⟨b, by omega⟩
        simp only at hxa hxb
        obtain ⟨XA, hXA⟩ : ∃ XA, bs [hexD a] = XA := ⟨_, rfl⟩
        obtain ⟨XB, hXB⟩ : ∃ XB, bs [hexD b] = XB := ⟨_, rfl⟩
        rw [hXA] at hxa
        rw [hXB] at hxb
        have xas : (XA.size : Int) ≤ 1 := by rw [← hXA]; exact Int.le_refl _
        have xbs : (XB.size : Int) ≤ 1 := by rw [← hXB]; exact Int.le_refl _
        have hfin : bs (34 :: quoteB (S.take (k + 1))) = Q ++ (((⟨#[92, 120]⟩ : ByteArray) ++ XA) ++ XB) := by
          rw [HNX.out _ HQC.out.symm, ← hXA, ← hXB]
          rfl
        have HFIN := hide hfin
        clear ha hb hXA hXB hqc hfin
        have w1 : IntKind.i64.wrap ((d.toNat : Int) / 16) = (a : Int) := by rw [hai]; exact IntWalk.i64_in _ (by omega)
        have w2 : (d.toNat : Int).tmod 16 = (b : Int) := by rw [Int.tmod_eq_emod_of_nonneg (by omega), hbi]
        have w3 : IntKind.i64.wrap ((a : Int) + 1) = (a : Int) + 1 := IntWalk.i64_in _ (by omega)
        have w4 : IntKind.i64.wrap ((b : Int) + 1) = (b : Int) + 1 := IntWalk.i64_in _ (by omega)
        have g1 : ∀ W : World, (Op.stringOp .add ⟨#[92, 120]⟩ XA).run Tryd.prog W = .ok (.string ((⟨#[92, 120]⟩ : ByteArray) ++ XA)) W := fun W => run_string_add_sum W _ _ (by have : (⟨#[92, 120]⟩ : ByteArray).size = 2 := rfl; omega)
        obtain ⟨X1, hX1⟩ : ∃ X1, (⟨#[92, 120]⟩ : ByteArray) ++ XA = X1 := ⟨_, rfl⟩
        have x1s : X1.size ≤ 3 := by rw [← hX1, ByteArray.size_append']; have : (⟨#[92, 120]⟩ : ByteArray).size = 2 := rfl; omega
        rw [hX1] at g1 HFIN
        have g2 : ∀ W : World, (Op.stringOp .add X1 XB).run Tryd.prog W = .ok (.string (X1 ++ XB)) W := fun W => run_string_add_sum W _ _ (by omega)
        obtain ⟨X2, hX2⟩ : ∃ X2, X1 ++ XB = X2 := ⟨_, rfl⟩
        have x2s : X2.size ≤ 4 := by rw [← hX2, ByteArray.size_append']; omega
        rw [hX2] at g2 HFIN
        have g3 : ∀ W : World, (Op.stringOp .add Q X2).run Tryd.prog W = .ok (.string (Q ++ X2)) W := fun W => run_string_add_sum W _ _ (by omega)
        have s16 : (⟨#[48, 49, 50, 51, 52, 53, 54, 55, 56, 57, 97, 98, 99, 100, 101, 102]⟩ : ByteArray).size = 16 := rfl
        have a3 : (a : Int) + 1 ≤ 16 := by omega
        have b3 : (b : Int) + 1 ≤ 16 := by omega
        have a4 : (0 : Int) ≤ (a : Int) + 1 := by omega
        have a5 : (a : Int) ≤ (a : Int) + 1 := by omega
        have b5 : (b : Int) ≤ (b : Int) + 1 := by omega
        have d255 : (d.toNat : Int) ≤ 255 := by omega
        have b4 : (0 : Int) ≤ (b : Int) + 1 := by omega
        clear hX1 hX2 hai hbi x1s x2s xas xbs hd256
        rcases q5 with q5 | ⟨q5, q6⟩
        all_goals
          go_wp2_with fail
          go_still (by kernel_rfl)
          rw [drew_lit]
          go_wp2_with fail
          go_roundw
          case rel => exact ⟨_, rfl, hbw.drew, k + 1, hlt, by go_num, _, rfl, by rw [HFIN.out]⟩
          case measure => (simp [intOf]) <;> omega
    · have hend : Q ++ (⟨#[34]⟩ : ByteArray) = bs (quoteL S) := by rw [HQ.out, List.take_of_length_le (by rw [← HSZ.out]; omega)]; exact bs_app _ [34]
      have HEND := hide hend
      clear hend
      have j0 : ¬ (k : Int) < (s.size : Int) := by omega
      go_wp2_with fail
      go_ret
      exact ⟨by rw [← HEND.out]; rfl, hbw⟩
end Go.Proofs.YtehflgllfkkfoaaDoor
namespace Go.Proofs.YtehflgllfkkfoaaDoor
open Go.RowKit Go.Proofs.Dm

theorem byte_at_v {s : ByteArray} {S : Bs} (hS : s.data.toList = S) {k : Nat} {d : UInt8} {r : Bs} (h : S.drop k = d :: r) : ∃ hk : k < s.size, s[k]'hk = d := by
  have hk : k < S.length := by
    rcases Nat.lt_or_ge k S.length with h1 | h1
    · exact h1
    · rw [List.drop_of_length_le h1] at h; cases h
  have h2 := List.drop_eq_getElem_cons hk
  rw [h] at h2
  injection h2 with h2 _
  have hk2 : k < s.size := by rw [size_data, hS]; exact hk
  refine ⟨hk2, ?_⟩
  have : s.data.toList[k]'(by rw [hS]; exact hk) = d := by rw [h2]; simp [hS]
  exact this
def vInt : Option Nat → Int
  | none => -1
  | some v => (v : Int)
theorem valueL_all {b n : Nat} {s : Bs} (hl : n ≤ s.length) (h : ∀ c ∈ s.take n, digL c < b) : valueL b n s = some (valL b ((s.take n).map digL)) := by
  unfold valueL; rw [if_neg (by omega), if_pos h]
theorem valueL_not {b n k : Nat} {s : Bs} {c : UInt8} (hk : k < n) (hc : s[k]? = some c) (h : ¬ digL c < b) : valueL b n s = none := by
  unfold valueL
  split
  · rfl
  · rw [if_neg]
    intro ha
    refine h (ha c ?_)
    obtain ⟨hk2, hc2⟩ := List.getElem?_eq_some_iff.1 hc
    rw [← hc2, List.mem_iff_getElem]
    exact ⟨k, by rw [List.length_take]; omega, by simp⟩
theorem valL_take {b k : Nat} {s : Bs} {c : UInt8} (hc : s[k]? = some c) : valL b ((s.take (k + 1)).map digL) = valL b ((s.take k).map digL) * b + digL c := by
  obtain ⟨hk2, hc2⟩ := List.getElem?_eq_some_iff.1 hc
  rw [List.take_succ_eq_append_getElem hk2, hc2, List.map_append, List.map_singleton, valL_snoc]
theorem valL_small {b k : Nat} (hb0 : 0 < b) (hb : b ≤ 16) (hk : k ≤ 8) {s : Bs} (h : ∀ c ∈ s.take k, digL c < b) : valL b ((s.take k).map digL) ≤ 4294967296 := by
  have h1 := valF_lt hb0 ((s.take k).map digL) (by intro d hd; obtain ⟨c, hc, rfl⟩ := List.mem_map.1 hd; exact h c hc) 0 0 (by simp)
  have h2 : ((s.take k).map digL).length ≤ 8 := by rw [List.length_map, List.length_take]; omega
  have h3 : b ^ (0 + ((s.take k).map digL).length) ≤ 16 ^ 8 := Nat.le_trans (Nat.pow_le_pow_left hb _) (Nat.pow_le_pow_right (by omega) (by omega))
  have h4 : (16 : Nat) ^ 8 = 4294967296 := by decide
  unfold valL
  omega
set_option maxRecDepth 100000 in
set_option maxHeartbeats 6400000 in
theorem rvalue_any (s : ByteArray) (S : Bs) (hS : s.data.toList = S) (hs : s.size ≤ 1000000) (p n b : Nat) (hp : p ≤ s.size) (hn : n ≤ 8) (hb0 : 0 < b) (hb : b ≤ 16) (w : World) :
    Calls Tryd.prog 69 #[.string s, .int .i64 (p : Int), .int .i64 (n : Int), .int .i64 (b : Int)] w fun e w' => e = .returned (.int .i64 (vInt (valueL b n (S.drop p)))) ∧ Below w.heap.size w w' := by
  have hsz := size_data s
  rw [hS] at hsz
  have s1 : (s.size : Int) ≤ 1000000 := by omega
  have p1 : (p : Int) ≤ (s.size : Int) := by omega
  have n1 : (n : Int) ≤ 8 := by omega
  have b1 : (b : Int) ≤ 16 := by omega
  obtain ⟨D, hD⟩ : ∃ D, S.drop p = D := ⟨_, rfl⟩
  have hDl : D.length + p = s.size := by rw [← hD, List.length_drop]; omega
  rw [hD]
  by_cases hl : D.length < n
  · have HV : Hid (valueL b n D = none) := hide (by unfold valueL; rw [if_pos hl])
    have hl1 : (s.size : Int) - (p : Int) < (n : Int) := by omega
    clear hD hDl hsz hS hl
    go_enter Tryd.func69, Tryd.ntmps69
    go_wp2_with fail
    go_ret
    exact ⟨by rw [HV.out]; rfl, Below.refl _ _⟩
  have hl1 : ¬ (s.size : Int) - (p : Int) < (n : Int) := by omega
  have hl2 : n ≤ D.length := by omega
  have hl3 : (p : Int) + (n : Int) ≤ (s.size : Int) := by omega
  have HS := hide hS
  have HD := hide hD
  have HDL := hide hDl
  have HSZ := hide hsz
  clear hD hDl hsz hS hl
  go_enter Tryd.func69, Tryd.ntmps69
  go_wp2_with fail
  go_loopw [9, 10] (fun o i W' => ∃ W, W = W' ∧ Below w.heap.size w W ∧ ∃ k : Nat, k ≤ n ∧ i = .int .i64 (k : Int) ∧ o = .int .i64 ((valL b ((D.take k).map digL) : Nat) : Int) ∧ ∀ c ∈ D.take k, digL c < b) (fun _ i _ => n - (intOf i).toNat)
  case atStart => exact ⟨_, rfl, Below.refl _ _, 0, Nat.zero_le _, rfl, by simp [valL, valF], by simp⟩
  case round =>
    obtain ⟨W, rfl, hbw, k, hk, rfl, rfl, hall⟩ := hrel
    have hv := valL_small hb0 hb (by omega) hall
    obtain ⟨V, hV⟩ : ∃ V, valL b ((D.take k).map digL) = V := ⟨_, rfl⟩
    rw [hV] at hv ⊢
    have HV := hide hV
    have HALL := hide hall
    clear hV hall
    by_cases hlt : k < n
    · have hkD : k < D.length := by omega
      obtain ⟨c, hc⟩ : ∃ c, D[k]? = some c := ⟨D[k], by simp⟩
      obtain ⟨i0, e0⟩ : ∃ h : p + k < s.size, s[p + k]'h = c := by
        have h1 : S[p + k]? = some c := by rw [← List.getElem?_drop, HD.out]; exact hc
        have h2 : p + k < s.size := by have := HDL.out; omega
        refine ⟨h2, ?_⟩
        obtain ⟨h3, h4⟩ := List.getElem?_eq_some_iff.1 h1
        rw [← h4]
        have : s.data.toList[p + k]'(by rw [HS.out]; exact h3) = S[p + k]'h3 := by simp [HS.out]
        rw [← this]; rfl
      have j0 : (p : Int) + (k : Int) < (s.size : Int) := by omega
      have HC := hide hc
      clear hc
      obtain ⟨g, hg⟩ : ∃ g, digL c = g := ⟨_, rfl⟩
      have hg99 : g ≤ 99 := by rw [← hg]; have := c.toNat_lt; unfold digL; split <;> (try split) <;> (try split) <;> omega
      have HRD : Hid (∀ W, Calls Tryd.prog 55 #[.int .u8 (c.toNat : Int)] W fun e w' => e = .returned (.int .i64 (g : Int)) ∧ W = w') := hide (by rw [← hg]; exact rdigit_any c)
      have HG := hide hg
      clear hg
      by_cases hgb : g < b
      · obtain ⟨P, hP⟩ : ∃ P, V * b = P := ⟨_, rfl⟩
        have hPi : (V : Int) * (b : Int) = (P : Int) := by rw [← hP]; push_cast; rfl
        have hP2 : P ≤ 4294967296 * 16 := by rw [← hP]; exact Nat.mul_le_mul hv hb
        have hP3 : (P : Int) ≤ 68719476736 := by omega
        have hgi : ¬ (b : Int) ≤ (g : Int) := by omega
        have HP := hide hP
        clear hP hP2
        go_wp2_with fail
        refine (HRD.out _).mono ?_
        rintro e w' ⟨rfl, rfl⟩
        go_wp2_with fail
        go_roundw
        case rel =>
          refine ⟨_, rfl, hbw, k + 1, by omega, by go_num, ?_, fun x hx => ?_⟩
          · rw [valL_take HC.out, HV.out, HP.out, HG.out]; rfl
          · obtain ⟨hk2, hc2⟩ := List.getElem?_eq_some_iff.1 HC.out
            rw [List.take_succ_eq_append_getElem hk2, hc2] at hx
            rcases List.mem_append.1 hx with hx | hx
            · exact HALL.out x hx
            · rw [List.mem_singleton.1 hx, HG.out]; exact hgb
        case measure => simp [intOf]; omega
      · have hgi : (b : Int) ≤ (g : Int) := by omega
        have hnone : valueL b n D = none := valueL_not hlt HC.out (by rw [HG.out]; exact hgb)
        have HNO := hide hnone
        clear hnone
        go_wp2_with fail
        refine (HRD.out _).mono ?_
        rintro e w' ⟨rfl, rfl⟩
        go_wp2_with fail
        go_ret
        exact ⟨by rw [HNO.out]; rfl, hbw⟩
    · have hkn : k = n := by omega
      have hsome : valueL b n D = some V := by rw [valueL_all hl2 (by rw [← hkn]; exact HALL.out), ← hkn, HV.out]
      have HSO := hide hsome
      clear hsome hkn
      have j0 : ¬ (k : Int) < (n : Int) := by omega
      go_wp2_with fail
      go_ret
      exact ⟨by rw [HSO.out]; rfl, hbw⟩
end Go.Proofs.YtehflgllfkkfoaaDoor
namespace Go.Proofs.YtehflgllfkkfoaaDoor
open Go.RowKit Go.Proofs.Dm

/-- How Sign ends. -/
def SgRet (o : Option Bs) (w : World) (e : Ending) (w' : World) : Prop :=
  match o with
  | none => e = .returned (.slice none 0 0) ∧ Below w.heap.size w w'
  | some b => ∃ g, e = .returned (.slice (some ⟨g, 0, none⟩) b.length b.length) ∧ w'.heap[g]? = some (.cells (bcells b).toArray 5 (0, 0)) ∧ Below w.heap.size w w'
theorem SgRet.no {w w' : World} {o : Option Bs} (h : o = none) (hb : Below w.heap.size w w') : SgRet o w (.returned (.slice none 0 0)) w' := by subst h; exact ⟨rfl, hb⟩
theorem u8_of {q r : Nat} (h : q + r < 256) : ((UInt8.ofNat (q + r)).toNat : Int) = (q : Int) + (r : Int) := by
  simp only [UInt8.toNat_ofNat']
  rw [Nat.mod_eq_of_lt (by omega)]
  push_cast; rfl
theorem bcells_cons (c : UInt8) (r : Bs) : bcells (c :: r) = .int .u8 (c.toNat : Int) :: bcells r := rfl
set_option maxRecDepth 100000 in
set_option maxHeartbeats 6400000 in
theorem rSgn_any (o : Option Nat) (ho : ∀ v, o = some v → v ≤ 4294967296) (w : World) :
    Calls Tryd.prog 70 #[.int .i64 (vInt o)] w (SgRet (o.bind signU) w) := by
  cases o with
  | none =>
    show Calls Tryd.prog 70 #[.int .i64 (-1)] w _
    have HN : Hid ((none : Option Nat).bind signU = none) := hide rfl
    go_enter Tryd.func70, Tryd.ntmps70
    go_wp2_with fail
    go_ret
    exact SgRet.no HN.out (Below.refl _ _)
  | some v =>
    have hv := ho v rfl
    show Calls Tryd.prog 70 #[.int .i64 (v : Int)] w (SgRet (signU v) w)
    clear ho
    have v1 : (v : Int) ≤ 4294967296 := by omega
    have v0 : (0 : Int) ≤ (v : Int) := by omega
    have vn : ¬ (v : Int) < 0 := by omega
    by_cases hbad : 1114111 < v ∨ (55296 ≤ v ∧ v ≤ 57343)
    · have HN : Hid (signU v = none) := hide (by unfold signU; rw [if_pos hbad])
      rcases hbad with hb | ⟨hb1, hb2⟩
      · have h1 : (1114111 : Int) < (v : Int) := by omega
        clear hb hv
        go_enter Tryd.func70, Tryd.ntmps70
        go_wp2_with fail
        go_ret
        exact SgRet.no HN.out (Below.refl _ _)
      · have h1 : ¬ (1114111 : Int) < (v : Int) := by omega
        have h2 : (55296 : Int) ≤ (v : Int) := by omega
        have h3 : (v : Int) ≤ 57343 := by omega
        clear hb1 hb2 hv
        go_enter Tryd.func70, Tryd.ntmps70
        go_wp2_with fail
        go_ret
        exact SgRet.no HN.out (Below.refl _ _)
    · have h1 : ¬ (1114111 : Int) < (v : Int) := by omega
      have h2 : (v : Int) < 55296 ∨ ((55296 : Int) ≤ (v : Int) ∧ ¬ (v : Int) ≤ 57343) := by omega
      by_cases c1 : v < 128
      · have k1 : (v : Int) < 128 := by omega
        have k2 : ¬ (55296 : Int) ≤ (v : Int) := by omega
        have HU : Hid (signU v = some [UInt8.ofNat v]) := hide (by unfold signU; rw [if_neg hbad, if_pos c1])
        have hu : bcells [UInt8.ofNat v] = [.int .u8 (v : Int)] := by
          have := @u8_of v 0 (by omega)
          rw [Nat.add_zero] at this
          rw [bcells_cons, this]; simp [bcells]
        have HV := hide hu
        clear h2 hbad c1 hv hu
        go_enter Tryd.func70, Tryd.ntmps70
        go_wp2_with fail
        go_ret
        rw [HU.out]
        refine ⟨w.heap.size, rfl, ?_, (Below.refl _ w).alloc (Nat.le_refl _) _⟩
        rw [heap_alloc_new, HV.out]
      by_cases c2 : v < 2048
      · have k1 : ¬ (v : Int) < 128 := by omega
        have k2 : ¬ (55296 : Int) ≤ (v : Int) := by omega
        have k3 : (v : Int) < 2048 := by omega
        have HU : Hid (signU v = some [UInt8.ofNat (192 + v / 64), UInt8.ofNat (128 + v % 64)]) := hide (by unfold signU; rw [if_neg hbad, if_neg c1, if_pos c2])
        have hu : bcells [UInt8.ofNat (192 + v / 64), UInt8.ofNat (128 + v % 64)] = [.int .u8 (192 + (v : Int) / 64), .int .u8 (128 + (v : Int) % 64)] := by
          rw [bcells_cons, @u8_of 192 (v / 64) (by omega), bcells_cons, @u8_of 128 (v % 64) (by omega)]; simp [bcells]
        have HV := hide hu
        clear hbad hv hu
        clear h2 c1 c2
        go_enter Tryd.func70, Tryd.ntmps70
        go_wp2_with fail
        go_ret
        rw [HU.out]
        refine ⟨w.heap.size, rfl, ?_, (Below.refl _ w).alloc (Nat.le_refl _) _⟩
        rw [heap_alloc_new, HV.out]
      by_cases c3 : v < 65536
      · have k1 : ¬ (v : Int) < 128 := by omega
        have k3 : ¬ (v : Int) < 2048 := by omega
        have k4 : (v : Int) < 65536 := by omega
        have HU : Hid (signU v = some [UInt8.ofNat (224 + v / 4096), UInt8.ofNat (128 + v / 64 % 64), UInt8.ofNat (128 + v % 64)]) := hide (by unfold signU; rw [if_neg hbad, if_neg c1, if_neg c2, if_pos c3])
        have hu : bcells [UInt8.ofNat (224 + v / 4096), UInt8.ofNat (128 + v / 64 % 64), UInt8.ofNat (128 + v % 64)] = [.int .u8 (224 + (v : Int) / 4096), .int .u8 (128 + (v : Int) / 64 % 64), .int .u8 (128 + (v : Int) % 64)] := by
          rw [bcells_cons, @u8_of 224 (v / 4096) (by omega), bcells_cons, @u8_of 128 (v / 64 % 64) (by omega), bcells_cons, @u8_of 128 (v % 64) (by omega)]; simp [bcells]
        have HV := hide hu
        clear hbad hv hu
        clear c1 c2 c3
        rcases h2 with k2 | ⟨k2, k5⟩
        · have k6 : ¬ (55296 : Int) ≤ (v : Int) := by omega
          go_enter Tryd.func70, Tryd.ntmps70
          go_wp2_with fail
          go_ret
          rw [HU.out]
          refine ⟨w.heap.size, rfl, ?_, (Below.refl _ w).alloc (Nat.le_refl _) _⟩
          rw [heap_alloc_new, HV.out]
        · have k6 : (57343 : Int) < (v : Int) := by omega
          go_enter Tryd.func70, Tryd.ntmps70
          go_wp2_with fail
          go_ret
          rw [HU.out]
          refine ⟨w.heap.size, rfl, ?_, (Below.refl _ w).alloc (Nat.le_refl _) _⟩
          rw [heap_alloc_new, HV.out]
      · have k1 : ¬ (v : Int) < 128 := by omega
        have k3 : ¬ (v : Int) < 2048 := by omega
        have k4 : ¬ (v : Int) < 65536 := by omega
        have k2 : (55296 : Int) ≤ (v : Int) := by omega
        have k6 : ¬ (v : Int) ≤ 57343 := by omega
        have k7 : (v : Int) ≤ 1114111 := by omega
        have HU : Hid (signU v = some [UInt8.ofNat (240 + v / 262144), UInt8.ofNat (128 + v / 4096 % 64), UInt8.ofNat (128 + v / 64 % 64), UInt8.ofNat (128 + v % 64)]) := hide (by unfold signU; rw [if_neg hbad, if_neg c1, if_neg c2, if_neg c3])
        have hu : bcells [UInt8.ofNat (240 + v / 262144), UInt8.ofNat (128 + v / 4096 % 64), UInt8.ofNat (128 + v / 64 % 64), UInt8.ofNat (128 + v % 64)] = [.int .u8 (240 + (v : Int) / 262144), .int .u8 (128 + (v : Int) / 4096 % 64), .int .u8 (128 + (v : Int) / 64 % 64), .int .u8 (128 + (v : Int) % 64)] := by
          rw [bcells_cons, @u8_of 240 (v / 262144) (by omega), bcells_cons, @u8_of 128 (v / 4096 % 64) (by omega), bcells_cons, @u8_of 128 (v / 64 % 64) (by omega), bcells_cons, @u8_of 128 (v % 64) (by omega)]; simp [bcells]
        have HV := hide hu
        clear hbad hv hu
        clear h2 c1 c2 c3
        go_enter Tryd.func70, Tryd.ntmps70
        go_wp2_with fail
        go_ret
        rw [HU.out]
        refine ⟨w.heap.size, rfl, ?_, (Below.refl _ w).alloc (Nat.le_refl _) _⟩
        rw [heap_alloc_new, HV.out]
end Go.Proofs.YtehflgllfkkfoaaDoor
namespace Go.Proofs.YtehflgllfkkfoaaDoor
open Go.RowKit Go.Proofs.Dm

def froms : List UInt8 := [97, 98, 102, 110, 114, 116, 118, 92, 34]
def tos : List UInt8 := [7, 8, 12, 10, 13, 9, 11, 92, 34]
theorem from_at : ∀ k : Fin 9, ∀ h : k.val < (⟨#[97, 98, 102, 110, 114, 116, 118, 92, 34]⟩ : ByteArray).size, (⟨#[97, 98, 102, 110, 114, 116, 118, 92, 34]⟩ : ByteArray)[k.val]'h = froms.getD k.val 0 := by decide
theorem single_ix {c b : UInt8} (h : singleL c = some b) : ∃ k, k < 9 ∧ froms.getD k 0 = c ∧ tos.getD k 0 = b ∧ ∀ j, j < k → froms.getD j 0 ≠ c := by
  have h2 : ∀ n : Fin 256, singleL (UInt8.ofNat n.val) = none ∨ ∃ k : Fin 9, froms.getD k.val 0 = UInt8.ofNat n.val ∧ singleL (UInt8.ofNat n.val) = some (tos.getD k.val 0) ∧ ∀ j : Fin 9, j.val < k.val → froms.getD j.val 0 ≠ UInt8.ofNat n.val := by decide +kernel
  have e1 : UInt8.ofNat c.toNat = c := by simp
  have h6 := h2 ⟨c.toNat, c.toNat_lt⟩
  simp only [e1] at h6
  rcases h6 with h6 | ⟨k, h3, h4, h5⟩
  · rw [h6] at h; cases h
  · rw [h] at h4
    injection h4 with h4
    exact ⟨k.val, k.isLt, h3, h4.symm, fun j hj => h5 ⟨j, by omega⟩ hj⟩
theorem single_no {c : UInt8} (h : singleL c = none) : ∀ j, j < 9 → froms.getD j 0 ≠ c := by
  have h2 : ∀ k : Fin 9, singleL (froms.getD k.val 0) ≠ none := by decide
  intro j hj e
  have := h2 ⟨j, hj⟩
  simp only at this
  rw [e] at this
  exact this h
/-- How part ends. -/
def PtRet (o : Option (Bs × Nat)) (w : World) (e : Ending) (w' : World) : Prop :=
  match o with
  | none => e = .returned (.tuple #[.slice none 0 0, .int .i64 0]) ∧ Below w.heap.size w w'
  | some (b, n) => ∃ g q c, e = .returned (.tuple #[.slice (some ⟨g, q, none⟩) b.length c, .int .i64 (n : Int)]) ∧ b.length ≤ c ∧ 0 < b.length ∧ (∀ j (hj : j < b.length), w'.cell? ⟨g, q + j, none⟩ = some (.int .u8 ((b[j]'hj).toNat : Int))) ∧ Below w.heap.size w w'
theorem PtRet.no {w w' : World} {o : Option (Bs × Nat)} (h : o = none) (hb : Below w.heap.size w w') : PtRet o w (.returned (.tuple #[.slice none 0 0, .int .i64 0])) w' := by subst h; exact ⟨rfl, hb⟩
theorem PtRet.one {w w' : World} {o : Option (Bs × Nat)} {b : UInt8} {g q c n : Nat} (h : o = some ([b], n)) (hc : 1 ≤ c) (hcell : w'.cell? ⟨g, q, none⟩ = some (.int .u8 (b.toNat : Int))) (hb : Below w.heap.size w w') : PtRet o w (.returned (.tuple #[.slice (some ⟨g, q, none⟩) 1 c, .int .i64 (n : Int)])) w' := by
  subst h
  refine ⟨g, q, c, rfl, hc, by simp, fun j hj => ?_, hb⟩
  have : j = 0 := by simpa using hj
  subst this
  exact hcell
theorem escL_single {c b : UInt8} {r : Bs} (h : singleL c = some b) : escL (c :: r) = some ([b], 1) := by unfold escL; simp only [h]
def toCells : Array Value := #[.int .u8 7, .int .u8 8, .int .u8 12, .int .u8 10, .int .u8 13, .int .u8 9, .int .u8 11, .int .u8 92, .int .u8 34]
theorem to_cell (w : World) (k : Nat) (b : UInt8) (hk : k < 9) (h : tos.getD k 0 = b) : (w.alloc (.cells toCells 5)).cell? ⟨w.heap.size, k, none⟩ = some (.int .u8 (b.toNat : Int)) := by
  rw [cells_at (heap_alloc_new w (.cells toCells 5)) k, ← h]
  match k, hk with
  | 0, _ => rfl
  | 1, _ => rfl
  | 2, _ => rfl
  | 3, _ => rfl
  | 4, _ => rfl
  | 5, _ => rfl
  | 6, _ => rfl
  | 7, _ => rfl
  | 8, _ => rfl
set_option maxRecDepth 100000 in
set_option maxHeartbeats 12800000 in
theorem rpart_single (s : ByteArray) (S : Bs) (hS : s.data.toList = S) (hs : s.size ≤ 1000000) (p : Nat) (c b : UInt8) (r : Bs) (hc : S.drop p = c :: r) (hb : singleL c = some b) (w : World) :
    Calls Tryd.prog 57 #[.string s, .int .i64 (p : Int)] w (PtRet (escL (S.drop p)) w) := by
  obtain ⟨hp, e0⟩ := byte_at_v hS hc
  have s1 : (s.size : Int) ≤ 1000000 := by omega
  have p1 : (p : Int) < (s.size : Int) := by omega
  have pne : ((p : Int) == (s.size : Int)) = false := by rw [beq_eq_false_iff_ne]; omega
  obtain ⟨m, hm9, hm, hmt, hmne⟩ := single_ix hb
  have HE := hide (escL_single (r := r) hb)
  have HM := hide hm; have HMT := hide hmt; have HMN := hide hmne; have HC := hide hc
  clear hS hc hb hm hmt hmne
  go_enter Tryd.func57, Tryd.ntmps57
  go_wp2_with fail
  go_loopw [8] (fun i W' => ∃ W, W = W' ∧ Below (w.heap.size + 1) (w.alloc (.cells toCells 5)) W ∧ ∃ k : Nat, k ≤ m ∧ i = .int .i64 (k : Int)) (fun i _ => 9 - (intOf i).toNat)
  case atStart => exact ⟨_, rfl, Below.refl _ _, 0, Nat.zero_le _, rfl⟩
  case round =>
    obtain ⟨W, rfl, hbw, k, hk, rfl⟩ := hrel
    have hxk := from_at ⟨k, by omega⟩
    simp only at hxk
    have k9 : (k : Int) < 9 := by omega
    by_cases hkm : k = m
    · rw [hkm, HM.out, ← hkm] at hxk
      have HKM := hide hkm
      have k9' : (k : Int) + 1 ≤ 9 := by omega
      have k8 : (k : Int) ≤ (k : Int) + 1 := by omega
      have hcell := (hbw.cell (p := ⟨w.heap.size, k, none⟩) (by simp)).trans (to_cell w k b (by omega) (by rw [HKM.out]; exact HMT.out))
      have hb0 : Below w.heap.size w W := ((Below.refl _ w).alloc (Nat.le_refl _) _).trans (hbw.mono (by omega))
      have HB0 := hide hb0
      have HCELL := hide hcell
      clear hkm hbw hb0 hcell
      go_wp2_with fail
      go_still (by kernel_rfl)
      rw [drew_lit]
      go_wp2_with fail
      go_ret2
      rw [HC.out]
      exact PtRet.one HE.out (by omega) HCELL.out HB0.out.drew
    · have hne : ((c.toNat : Int) == ((froms.getD k 0).toNat : Int)) = false := by
        rw [beq_eq_false_iff_ne]
        intro e
        exact HMN.out k (by omega) (UInt8.toNat_inj.1 (by omega)).symm
      obtain ⟨f, hf⟩ : ∃ f, froms.getD k 0 = f := ⟨_, rfl⟩
      rw [hf] at hne hxk
      clear hf
      go_wp2_with fail
      go_still (by kernel_rfl)
      rw [drew_lit]
      go_wp2_with fail
      go_roundw
      case rel => exact ⟨_, rfl, hbw.drew, k + 1, by omega, by go_num⟩
      case measure => simp [intOf]; omega
end Go.Proofs.YtehflgllfkkfoaaDoor
namespace Go.Proofs.YtehflgllfkkfoaaDoor
open Go.RowKit Go.Proofs.Dm

theorem value_at (s : ByteArray) (S : Bs) (hS : s.data.toList = S) (hs : s.size ≤ 1000000) (p n b : Nat) (hp : p + 1 ≤ s.size) (hn : n ≤ 8) (hb0 : 0 < b) (hb : b ≤ 16) (w : World) :
    Calls Tryd.prog 69 #[.string s, .int .i64 ((p : Int) + 1), .int .i64 (n : Int), .int .i64 (b : Int)] w fun e w' => e = .returned (.int .i64 (vInt (valueL b n (S.drop (p + 1))))) ∧ Below w.heap.size w w' := by
  have h := rvalue_any s S hS hs (p + 1) n b hp hn hb0 hb w
  rw [Int.natCast_add] at h
  exact h
theorem valueL_top {b n v : Nat} {s : Bs} (hb0 : 0 < b) (hb : b ≤ 16) (hn : n ≤ 8) (h : valueL b n s = some v) : v ≤ 4294967296 := by
  obtain ⟨h1, h2, h3⟩ := valueL_some h
  rw [h3]; exact valL_small hb0 hb hn h2
theorem valueL_top2 {v : Nat} {s : Bs} (h : valueL 16 2 s = some v) : v < 256 := by
  obtain ⟨h1, h2, h3⟩ := valueL_some h
  have h4 := valF_lt (b := 16) (by omega) ((s.take 2).map digL) (by intro d hd; obtain ⟨c, hc, rfl⟩ := List.mem_map.1 hd; exact h2 c hc) 0 0 (by simp)
  have h5 : ((s.take 2).map digL).length ≤ 2 := by rw [List.length_map, List.length_take]; omega
  have h6 : 16 ^ (0 + ((s.take 2).map digL).length) ≤ 16 ^ 2 := Nat.pow_le_pow_right (by omega) (by omega)
  have h7 : (16 : Nat) ^ 2 = 256 := by decide
  rw [h3]
  unfold valL
  omega
theorem u8_nat {v : Nat} (h : v < 256) : (((UInt8.ofNat v).toNat : Nat) : Int) = (v : Int) := by
  simp only [UInt8.toNat_ofNat']
  rw [Nat.mod_eq_of_lt (by omega)]
theorem signU_pos {v : Nat} {b : Bs} (h : signU v = some b) : 0 < b.length := by
  unfold signU at h
  split at h
  · cases h
  · split at h
    · injection h with h; subst h; simp
    · split at h
      · injection h with h; subst h; simp
      · split at h <;> (injection h with h; subst h; simp)
theorem signU_len {v : Nat} {b : Bs} (h : signU v = some b) : b.length ≤ 4 := by
  unfold signU at h
  split at h
  · cases h
  · split at h
    · injection h with h; subst h; simp
    · split at h
      · injection h with h; subst h; simp
      · split at h <;> (injection h with h; subst h; simp)
theorem row_cells {w : World} {g : Nat} {b : Bs} (h : w.heap[g]? = some (.cells (bcells b).toArray 5 (0, 0))) (j : Nat) (hj : j < b.length) : w.cell? ⟨g, 0 + j, none⟩ = some (.int .u8 ((b[j]'hj).toNat : Int)) := by
  rw [Nat.zero_add, cells_at h j]
  simp [bcells, hj]
set_option maxRecDepth 100000 in
set_option maxHeartbeats 6400000 in
theorem rpart_nil (s : ByteArray) (S : Bs) (hS : s.data.toList = S) (hs : s.size ≤ 1000000) (w : World) :
    Calls Tryd.prog 57 #[.string s, .int .i64 (s.size : Int)] w (PtRet (escL (S.drop s.size)) w) := by
  have HE : Hid (escL (S.drop s.size) = none) := hide (by rw [List.drop_eq_nil_of_le (by rw [← hS, ← size_data]; exact Nat.le_refl _)]; rfl)
  clear hS
  go_enter Tryd.func57, Tryd.ntmps57
  go_wp2_with fail
  go_ret2
  exact PtRet.no HE.out (Below.refl _ _)
set_option maxRecDepth 100000 in
set_option maxHeartbeats 25600000 in
theorem rpart_x (s : ByteArray) (S : Bs) (hS : s.data.toList = S) (hs : s.size ≤ 1000000) (p : Nat) (c : UInt8) (r : Bs) (hc : S.drop p = c :: r) (hb : singleL c = none) (h120 : c = 120) (w : World) :
    Calls Tryd.prog 57 #[.string s, .int .i64 (p : Int)] w (PtRet (escL (S.drop p)) w) := by
  obtain ⟨hp, e0⟩ := byte_at_v hS hc
  have s1 : (s.size : Int) ≤ 1000000 := by omega
  have p1 : (p : Int) < (s.size : Int) := by omega
  have pne : ((p : Int) == (s.size : Int)) = false := by rw [beq_eq_false_iff_ne]; omega
  have hr : S.drop (p + 1) = r := by rw [← List.drop_drop, hc]; rfl
  have hmne := single_no hb
  have HMN := hide hmne; have HC := hide hc
  have q1 : ((c.toNat : Int) == 120) = true := by rw [h120]; rfl
  have HV := hide (fun W => value_at s S hS hs p 2 16 (by omega) (by omega) (by omega) (by omega) W)
  rw [hr] at HV
  have HE : Hid (escL (c :: r) = (valueL 16 2 r).map fun v => ([UInt8.ofNat v], 3)) := hide (by unfold escL; simp only [hb]; rw [if_pos h120])
  obtain ⟨o, ho⟩ : ∃ o, valueL 16 2 r = o := ⟨_, rfl⟩
  have hov : ∀ v, o = some v → v < 256 := fun v hv => valueL_top2 (ho.trans hv)
  rw [ho] at HV HE
  have HOV := hide hov
  clear ho hov hS hc hb h120
  clear hmne hr
  go_enter Tryd.func57, Tryd.ntmps57
  go_wp2_with fail
  go_loopw [8] (fun i W' => ∃ W, W = W' ∧ Below w.heap.size w W ∧ ∃ k : Nat, k ≤ 9 ∧ i = .int .i64 (k : Int)) (fun i _ => 9 - (intOf i).toNat)
  case atStart => exact ⟨_, rfl, (Below.refl _ w).alloc (Nat.le_refl _) _, 0, Nat.zero_le _, rfl⟩
  case round =>
    obtain ⟨W, rfl, hbw, k, hk, rfl⟩ := hrel
    by_cases hk9 : k < 9
    · have hxk := from_at ⟨k, hk9⟩
      simp only at hxk
      have k9 : (k : Int) < 9 := by omega
      have hne : ((c.toNat : Int) == ((froms.getD k 0).toNat : Int)) = false := by
        rw [beq_eq_false_iff_ne]
        intro e
        exact HMN.out k hk9 (UInt8.toNat_inj.1 (by omega)).symm
      obtain ⟨f, hf⟩ : ∃ f, froms.getD k 0 = f := ⟨_, rfl⟩
      rw [hf] at hne hxk
      clear hf
      go_wp2_with fail
      go_still (by kernel_rfl)
      rw [drew_lit]
      go_wp2_with fail
      go_roundw
      case rel => exact ⟨_, rfl, hbw.drew, k + 1, by omega, by go_num⟩
      case measure => simp [intOf]; omega
    · have k9 : ¬ (k : Int) < 9 := by omega
      have HBW := hide hbw
      clear hbw
      cases o with
      | none =>
        go_wp2_with fail
        refine (HV.out _).mono ?_
        rintro e W1 ⟨rfl, hb1⟩
        have HB1 := hide (HBW.out.trans (hb1.mono HBW.out.size)); clear hb1
        have hneg : vInt none = -1 := rfl
        rw [hneg]
        clear hneg
        go_wp2_with fail
        go_ret2
        rw [HC.out]
        exact PtRet.no HE.out HB1.out
      | some v =>
        have hv := HOV.out v rfl
        have v0 : (0 : Int) ≤ (v : Int) := by omega
        have v1 : (v : Int) ≤ 255 := by omega
        have HUN := hide (u8_nat hv)
        clear hv
        go_wp2_with fail
        refine (HV.out _).mono ?_
        rintro e W1 ⟨rfl, hb1⟩
        have HB1 := hide (HBW.out.trans (hb1.mono HBW.out.size)); clear hb1
        have hpos : vInt (some v) = (v : Int) := rfl
        rw [hpos]
        clear hpos
        go_wp2_with fail
        go_ret2
        rw [HC.out]
        exact PtRet.one HE.out (Nat.le_refl _) (by rw [cells_at (heap_alloc_new _ _) 0, HUN.out]; rfl) (HB1.out.alloc HB1.out.size _)
set_option maxRecDepth 100000 in
set_option maxHeartbeats 25600000 in
theorem rpart_u (s : ByteArray) (S : Bs) (hS : s.data.toList = S) (hs : s.size ≤ 1000000) (p : Nat) (c : UInt8) (r : Bs) (hc : S.drop p = c :: r) (hb : singleL c = none) (h117 : c = 117) (w : World) :
    Calls Tryd.prog 57 #[.string s, .int .i64 (p : Int)] w (PtRet (escL (S.drop p)) w) := by
  obtain ⟨hp, e0⟩ := byte_at_v hS hc
  have s1 : (s.size : Int) ≤ 1000000 := by omega
  have p1 : (p : Int) < (s.size : Int) := by omega
  have pne : ((p : Int) == (s.size : Int)) = false := by rw [beq_eq_false_iff_ne]; omega
  have hr : S.drop (p + 1) = r := by rw [← List.drop_drop, hc]; rfl
  have hmne := single_no hb
  have HMN := hide hmne; have HC := hide hc
  have q1 : ((c.toNat : Int) == 120) = false := by rw [h117]; rfl
  have q2 : ((c.toNat : Int) == 117) = true := by rw [h117]; rfl
  have q3 : ((c.toNat : Int) == 85) = false := by rw [h117]; rfl
  have HV := hide (fun W => value_at s S hS hs p 4 16 (by omega) (by omega) (by omega) (by omega) W)
  rw [hr] at HV
  have HE : Hid (escL (c :: r) = ((valueL 16 4 r).bind signU).map fun b => (b, 5)) := hide (by unfold escL; simp only [hb]; rw [if_neg (by rw [h117]; decide), if_pos h117])
  obtain ⟨o, ho⟩ : ∃ o, valueL 16 4 r = o := ⟨_, rfl⟩
  have hov : ∀ v, o = some v → v ≤ 4294967296 := fun v hv => valueL_top (by omega) (by omega) (by omega) (ho.trans hv)
  rw [ho] at HV HE
  have HSG := hide (fun W => rSgn_any o hov W)
  obtain ⟨z, hz⟩ : ∃ z, vInt o = z := ⟨_, rfl⟩
  rw [hz] at HV HSG
  obtain ⟨u, hu⟩ : ∃ u, o.bind signU = u := ⟨_, rfl⟩
  have hup : ∀ b, u = some b → 0 < b.length ∧ b.length ≤ 4 := fun b hb' => by
    rw [← hu] at hb'
    cases o with
    | none => cases hb'
    | some v => exact ⟨signU_pos hb', signU_len hb'⟩
  rw [hu] at HSG HE
  have HUP := hide hup
  clear ho hov hS hc hb hz hu hup h117
  clear hmne hr
  go_enter Tryd.func57, Tryd.ntmps57
  go_wp2_with fail
  go_loopw [8] (fun i W' => ∃ W, W = W' ∧ Below w.heap.size w W ∧ ∃ k : Nat, k ≤ 9 ∧ i = .int .i64 (k : Int)) (fun i _ => 9 - (intOf i).toNat)
  case atStart => exact ⟨_, rfl, (Below.refl _ w).alloc (Nat.le_refl _) _, 0, Nat.zero_le _, rfl⟩
  case round =>
    obtain ⟨W, rfl, hbw, k, hk, rfl⟩ := hrel
    by_cases hk9 : k < 9
    · have hxk := from_at ⟨k, hk9⟩
      simp only at hxk
      have k9 : (k : Int) < 9 := by omega
      have hne : ((c.toNat : Int) == ((froms.getD k 0).toNat : Int)) = false := by
        rw [beq_eq_false_iff_ne]
        intro e
        exact HMN.out k hk9 (UInt8.toNat_inj.1 (by omega)).symm
      obtain ⟨f, hf⟩ : ∃ f, froms.getD k 0 = f := ⟨_, rfl⟩
      rw [hf] at hne hxk
      clear hf
      go_wp2_with fail
      go_still (by kernel_rfl)
      rw [drew_lit]
      go_wp2_with fail
      go_roundw
      case rel => exact ⟨_, rfl, hbw.drew, k + 1, by omega, by go_num⟩
      case measure => simp [intOf]; omega
    · have k9 : ¬ (k : Int) < 9 := by omega
      have HBW := hide hbw
      clear hbw
      cases u with
      | none =>
        go_wp2_with fail
        refine (HV.out _).mono ?_
        rintro e W1 ⟨rfl, hb1⟩
        have HB1 := hide (HBW.out.trans (hb1.mono HBW.out.size)); clear hb1
        go_wp2_with fail
        refine (HSG.out _).mono ?_
        rintro e W2 ⟨rfl, hb2⟩
        have HB2 := hide (HB1.out.trans (hb2.mono HB1.out.size)); clear hb2
        go_wp2_with fail
        go_ret2
        rw [HC.out]
        exact PtRet.no HE.out HB2.out
      | some b =>
        obtain ⟨hb0, hb4⟩ := HUP.out b rfl
        obtain ⟨nb, hnb⟩ : ∃ nb, b.length = nb := ⟨_, rfl⟩
        have hi0 : (0 : Int) < (nb : Int) := by omega
        have hi4 : (nb : Int) ≤ 4 := by omega
        have HNB := hide hnb
        clear hnb hb0 hb4
        go_wp2_with fail
        refine (HV.out _).mono ?_
        rintro e W1 ⟨rfl, hb1⟩
        have HB1 := hide (HBW.out.trans (hb1.mono HBW.out.size)); clear hb1
        go_wp2_with fail
        refine (HSG.out _).mono ?_
        rintro e W2 ⟨g, rfl, hrow, hb2⟩
        have HB2 := hide (HB1.out.trans (hb2.mono HB1.out.size)); clear hb2
        have HROW := hide hrow; clear hrow
        rw [HNB.out]
        go_wp2_with fail
        go_ret2
        rw [HC.out, HE.out]
        exact ⟨g, 0, nb, by rw [HNB.out]; rfl, by rw [HNB.out]; exact Nat.le_refl _, by rw [HNB.out]; omega, row_cells HROW.out, HB2.out⟩
set_option maxRecDepth 100000 in
set_option maxHeartbeats 25600000 in
theorem rpart_U (s : ByteArray) (S : Bs) (hS : s.data.toList = S) (hs : s.size ≤ 1000000) (p : Nat) (c : UInt8) (r : Bs) (hc : S.drop p = c :: r) (hb : singleL c = none) (h85 : c = 85) (w : World) :
    Calls Tryd.prog 57 #[.string s, .int .i64 (p : Int)] w (PtRet (escL (S.drop p)) w) := by
  obtain ⟨hp, e0⟩ := byte_at_v hS hc
  have s1 : (s.size : Int) ≤ 1000000 := by omega
  have p1 : (p : Int) < (s.size : Int) := by omega
  have pne : ((p : Int) == (s.size : Int)) = false := by rw [beq_eq_false_iff_ne]; omega
  have hr : S.drop (p + 1) = r := by rw [← List.drop_drop, hc]; rfl
  have hmne := single_no hb
  have HMN := hide hmne; have HC := hide hc
  have q1 : ((c.toNat : Int) == 120) = false := by rw [h85]; rfl
  have q2 : ((c.toNat : Int) == 117) = false := by rw [h85]; rfl
  have q3 : ((c.toNat : Int) == 85) = true := by rw [h85]; rfl
  have HV := hide (fun W => value_at s S hS hs p 8 16 (by omega) (by omega) (by omega) (by omega) W)
  rw [hr] at HV
  have HE : Hid (escL (c :: r) = ((valueL 16 8 r).bind signU).map fun b => (b, 9)) := hide (by unfold escL; simp only [hb]; rw [if_neg (by rw [h85]; decide), if_neg (by rw [h85]; decide), if_pos h85])
  obtain ⟨o, ho⟩ : ∃ o, valueL 16 8 r = o := ⟨_, rfl⟩
  have hov : ∀ v, o = some v → v ≤ 4294967296 := fun v hv => valueL_top (by omega) (by omega) (by omega) (ho.trans hv)
  rw [ho] at HV HE
  have HSG := hide (fun W => rSgn_any o hov W)
  obtain ⟨z, hz⟩ : ∃ z, vInt o = z := ⟨_, rfl⟩
  rw [hz] at HV HSG
  obtain ⟨u, hu⟩ : ∃ u, o.bind signU = u := ⟨_, rfl⟩
  have hup : ∀ b, u = some b → 0 < b.length ∧ b.length ≤ 4 := fun b hb' => by
    rw [← hu] at hb'
    cases o with
    | none => cases hb'
    | some v => exact ⟨signU_pos hb', signU_len hb'⟩
  rw [hu] at HSG HE
  have HUP := hide hup
  clear ho hov hS hc hb hz hu hup h85
  clear hmne hr
  go_enter Tryd.func57, Tryd.ntmps57
  go_wp2_with fail
  go_loopw [8] (fun i W' => ∃ W, W = W' ∧ Below w.heap.size w W ∧ ∃ k : Nat, k ≤ 9 ∧ i = .int .i64 (k : Int)) (fun i _ => 9 - (intOf i).toNat)
  case atStart => exact ⟨_, rfl, (Below.refl _ w).alloc (Nat.le_refl _) _, 0, Nat.zero_le _, rfl⟩
  case round =>
    obtain ⟨W, rfl, hbw, k, hk, rfl⟩ := hrel
    by_cases hk9 : k < 9
    · have hxk := from_at ⟨k, hk9⟩
      simp only at hxk
      have k9 : (k : Int) < 9 := by omega
      have hne : ((c.toNat : Int) == ((froms.getD k 0).toNat : Int)) = false := by
        rw [beq_eq_false_iff_ne]
        intro e
        exact HMN.out k hk9 (UInt8.toNat_inj.1 (by omega)).symm
      obtain ⟨f, hf⟩ : ∃ f, froms.getD k 0 = f := ⟨_, rfl⟩
      rw [hf] at hne hxk
      clear hf
      go_wp2_with fail
      go_still (by kernel_rfl)
      rw [drew_lit]
      go_wp2_with fail
      go_roundw
      case rel => exact ⟨_, rfl, hbw.drew, k + 1, by omega, by go_num⟩
      case measure => simp [intOf]; omega
    · have k9 : ¬ (k : Int) < 9 := by omega
      have HBW := hide hbw
      clear hbw
      cases u with
      | none =>
        go_wp2_with fail
        refine (HV.out _).mono ?_
        rintro e W1 ⟨rfl, hb1⟩
        have HB1 := hide (HBW.out.trans (hb1.mono HBW.out.size)); clear hb1
        go_wp2_with fail
        refine (HSG.out _).mono ?_
        rintro e W2 ⟨rfl, hb2⟩
        have HB2 := hide (HB1.out.trans (hb2.mono HB1.out.size)); clear hb2
        go_wp2_with fail
        go_ret2
        rw [HC.out]
        exact PtRet.no HE.out HB2.out
      | some b =>
        obtain ⟨hb0, hb4⟩ := HUP.out b rfl
        obtain ⟨nb, hnb⟩ : ∃ nb, b.length = nb := ⟨_, rfl⟩
        have hi0 : (0 : Int) < (nb : Int) := by omega
        have hi4 : (nb : Int) ≤ 4 := by omega
        have HNB := hide hnb
        clear hnb hb0 hb4
        go_wp2_with fail
        refine (HV.out _).mono ?_
        rintro e W1 ⟨rfl, hb1⟩
        have HB1 := hide (HBW.out.trans (hb1.mono HBW.out.size)); clear hb1
        go_wp2_with fail
        refine (HSG.out _).mono ?_
        rintro e W2 ⟨g, rfl, hrow, hb2⟩
        have HB2 := hide (HB1.out.trans (hb2.mono HB1.out.size)); clear hb2
        have HROW := hide hrow; clear hrow
        rw [HNB.out]
        go_wp2_with fail
        go_ret2
        rw [HC.out, HE.out]
        exact ⟨g, 0, nb, by rw [HNB.out]; rfl, by rw [HNB.out]; exact Nat.le_refl _, by rw [HNB.out]; omega, row_cells HROW.out, HB2.out⟩
set_option maxRecDepth 100000 in
set_option maxHeartbeats 25600000 in
theorem rpart_o (s : ByteArray) (S : Bs) (hS : s.data.toList = S) (hs : s.size ≤ 1000000) (p : Nat) (c : UInt8) (r : Bs) (hc : S.drop p = c :: r) (hb : singleL c = none) (h120 : c ≠ 120) (h117 : c ≠ 117) (h85 : c ≠ 85) (w : World) :
    Calls Tryd.prog 57 #[.string s, .int .i64 (p : Int)] w (PtRet (escL (S.drop p)) w) := by
  obtain ⟨hp, e0⟩ := byte_at_v hS hc
  have s1 : (s.size : Int) ≤ 1000000 := by omega
  have p1 : (p : Int) < (s.size : Int) := by omega
  have pne : ((p : Int) == (s.size : Int)) = false := by rw [beq_eq_false_iff_ne]; omega
  have hr : S.drop (p + 1) = r := by rw [← List.drop_drop, hc]; rfl
  have hmne := single_no hb
  have HMN := hide hmne; have HC := hide hc
  have HV : Hid (∀ W, Calls Tryd.prog 69 #[.string s, .int .i64 (p : Int), .int .i64 3, .int .i64 8] W fun e w' => e = .returned (.int .i64 (vInt (valueL 8 3 (c :: r)))) ∧ Below W.heap.size W w') := hide (fun W => by have h := rvalue_any s S hS hs p 3 8 (by omega) (by omega) (by omega) (by omega) W; rw [hc] at h; exact h)
  have HE : Hid (escL (c :: r) = (valueL 8 3 (c :: r)).bind fun v => if v < 256 then some ([UInt8.ofNat v], 3) else none) := hide (by unfold escL; simp only [hb]; rw [if_neg h120, if_neg h117, if_neg h85])
  obtain ⟨o, ho⟩ : ∃ o, valueL 8 3 (c :: r) = o := ⟨_, rfl⟩
  have hov : ∀ v, o = some v → v ≤ 4294967296 := fun v hv => valueL_top (by omega) (by omega) (by omega) (ho.trans hv)
  rw [ho] at HV HE
  have HOV := hide hov
  have q1 : ((c.toNat : Int) == 120) = false := byte_eqF 120 120 h120
  have q2 : ((c.toNat : Int) == 117) = false := byte_eqF 117 117 h117
  have q3 : ((c.toNat : Int) == 85) = false := byte_eqF 85 85 h85
  clear ho hov hS hc hb h120 h117 h85
  clear hmne hr
  go_enter Tryd.func57, Tryd.ntmps57
  go_wp2_with fail
  go_loopw [8] (fun i W' => ∃ W, W = W' ∧ Below w.heap.size w W ∧ ∃ k : Nat, k ≤ 9 ∧ i = .int .i64 (k : Int)) (fun i _ => 9 - (intOf i).toNat)
  case atStart => exact ⟨_, rfl, (Below.refl _ w).alloc (Nat.le_refl _) _, 0, Nat.zero_le _, rfl⟩
  case round =>
    obtain ⟨W, rfl, hbw, k, hk, rfl⟩ := hrel
    by_cases hk9 : k < 9
    · have hxk := from_at ⟨k, hk9⟩
      simp only at hxk
      have k9 : (k : Int) < 9 := by omega
      have hne : ((c.toNat : Int) == ((froms.getD k 0).toNat : Int)) = false := by
        rw [beq_eq_false_iff_ne]
        intro e
        exact HMN.out k hk9 (UInt8.toNat_inj.1 (by omega)).symm
      obtain ⟨f, hf⟩ : ∃ f, froms.getD k 0 = f := ⟨_, rfl⟩
      rw [hf] at hne hxk
      clear hf
      go_wp2_with fail
      go_still (by kernel_rfl)
      rw [drew_lit]
      go_wp2_with fail
      go_roundw
      case rel => exact ⟨_, rfl, hbw.drew, k + 1, by omega, by go_num⟩
      case measure => simp [intOf]; omega
    · have k9 : ¬ (k : Int) < 9 := by omega
      have HBW := hide hbw
      clear hbw
      cases o with
      | none =>
        go_wp2_with fail
        refine (HV.out _).mono ?_
        rintro e W1 ⟨rfl, hb1⟩
        have HB1 := hide (HBW.out.trans (hb1.mono HBW.out.size)); clear hb1
        have hneg : vInt none = -1 := rfl
        rw [hneg]
        clear hneg
        go_wp2_with fail
        go_ret2
        rw [HC.out]
        exact PtRet.no HE.out HB1.out
      | some v =>
        have hv := HOV.out v rfl
        have v0 : (0 : Int) ≤ (v : Int) := by omega
        have v2 : (v : Int) ≤ 4294967296 := by omega
        by_cases hv256 : v < 256
        · have v1 : (v : Int) < 256 := by omega
          have HE2 : Hid (escL (c :: r) = some ([UInt8.ofNat v], 3)) := hide (by rw [HE.out]; show (if v < 256 then _ else _) = _; rw [if_pos hv256])
          have HUN := hide (u8_nat hv256)
          clear hv hv256
          go_wp2_with fail
          refine (HV.out _).mono ?_
          rintro e W1 ⟨rfl, hb1⟩
          have HB1 := hide (HBW.out.trans (hb1.mono HBW.out.size)); clear hb1
          have hpos : vInt (some v) = (v : Int) := rfl
          rw [hpos]
          clear hpos
          go_wp2_with fail
          go_ret2
          rw [HC.out]
          exact PtRet.one HE2.out (Nat.le_refl _) (by rw [cells_at (heap_alloc_new _ _) 0, HUN.out]; rfl) (HB1.out.alloc HB1.out.size _)
        · have v1 : ¬ (v : Int) < 256 := by omega
          have HE2 : Hid (escL (c :: r) = none) := hide (by rw [HE.out]; show (if v < 256 then _ else _) = _; rw [if_neg hv256])
          clear hv hv256
          go_wp2_with fail
          refine (HV.out _).mono ?_
          rintro e W1 ⟨rfl, hb1⟩
          have HB1 := hide (HBW.out.trans (hb1.mono HBW.out.size)); clear hb1
          have hpos : vInt (some v) = (v : Int) := rfl
          rw [hpos]
          clear hpos
          go_wp2_with fail
          go_ret2
          rw [HC.out]
          exact PtRet.no HE2.out HB1.out
theorem rpart_any (s : ByteArray) (S : Bs) (hS : s.data.toList = S) (hs : s.size ≤ 1000000) (p : Nat) (hp : p ≤ s.size) (w : World) :
    Calls Tryd.prog 57 #[.string s, .int .i64 (p : Int)] w (PtRet (escL (S.drop p)) w) := by
  cases hc : S.drop p with
  | nil =>
    have h1 := congrArg List.length hc
    rw [List.length_drop, ← hS, ← size_data] at h1
    have h2 : p = s.size := by simp at h1; omega
    subst h2
    rw [← hc]
    exact rpart_nil s S hS hs w
  | cons c r =>
    rw [← hc]
    cases hb : singleL c with
    | some b => exact rpart_single s S hS hs p c b r hc hb w
    | none =>
      by_cases h120 : c = 120
      · exact rpart_x s S hS hs p c r hc hb h120 w
      by_cases h117 : c = 117
      · exact rpart_u s S hS hs p c r hc hb h117 w
      by_cases h85 : c = 85
      · exact rpart_U s S hS hs p c r hc hb h85 w
      exact rpart_o s S hS hs p c r hc hb h120 h117 h85 w
end Go.Proofs.YtehflgllfkkfoaaDoor
namespace Go.Proofs.YtehflgllfkkfoaaDoor
open Go.RowKit Go.Proofs.Dm

/-- How the reference's Text ends. -/
def RTxRet (s : Bs) (w : World) (e : Ending) (w' : World) : Prop :=
  (match textL s with
  | .long => False
  | .bad => e = .returned (.tuple #[.string ⟨#[]⟩, .int .i64 4])
  | .ok t => e = .returned (.tuple #[.string (bs t), .int .i64 0])) ∧ Below w.heap.size w w'
theorem RTxRet.bad {s : Bs} {w w' : World} (h : textL s = .bad) (hb : Below w.heap.size w w') : RTxRet s w (.returned (.tuple #[.string ⟨#[]⟩, .int .i64 4])) w' := by
  unfold RTxRet; rw [h]; exact ⟨rfl, hb⟩
theorem RTxRet.good {s t : Bs} {w w' : World} (h : textL s = .ok t) (hb : Below w.heap.size w w') : RTxRet s w (.returned (.tuple #[.string (bs t), .int .i64 0])) w' := by
  unfold RTxRet; rw [h]; exact ⟨rfl, hb⟩
theorem rtextL_two (S : Bs) (c : UInt8) (r : Bs) (hS : S = c :: r) (hl : S.length ≤ 65536) : (S.length < 2 → textL S = .bad) ∧ (S.head? ≠ S.getLast? → textL S = .bad) ∧ (wrongL S.length S 0 ≠ none → textL S = .bad) ∧
    (¬ S.length < 2 → S.head? = S.getLast? → wrongL S.length S 0 = none → textL S = if c = 34 then (match bodyQ r.length r.dropLast with | none => .bad | some t => .ok t) else if c = 96 then (if (96 : UInt8) ∈ r.dropLast then .bad else .ok (r.dropLast.filter (· ≠ 13))) else .bad) ∧
    (c ≠ 34 → c ≠ 96 → textL S = .bad) := by
  have h4 : ¬ S.length < 2 → S.head? = S.getLast? → wrongL S.length S 0 = none → textL S = if c = 34 then (match bodyQ r.length r.dropLast with | none => .bad | some t => .ok t) else if c = 96 then (if (96 : UInt8) ∈ r.dropLast then .bad else .ok (r.dropLast.filter (· ≠ 13))) else .bad := by
    intro h1 h2 h3
    unfold textL
    rw [if_neg (by omega), if_neg (by rintro (h | h | h); exact h1 h; exact h h2; exact h h3), hS]
    rfl
  refine ⟨fun h => ?_, fun h => ?_, fun h => ?_, h4, fun h5 h6 => ?_⟩
  · unfold textL; rw [if_neg (by omega), if_pos (.inl h)]
  · unfold textL; rw [if_neg (by omega), if_pos (.inr (.inl h))]
  · unfold textL; rw [if_neg (by omega), if_pos (.inr (.inr h))]
  · by_cases h1 : S.length < 2
    · unfold textL; rw [if_neg (by omega), if_pos (.inl h1)]
    by_cases h2 : S.head? = S.getLast?
    · by_cases h3 : wrongL S.length S 0 = none
      · rw [h4 h1 h2 h3, if_neg h5, if_neg h6]
      · unfold textL; rw [if_neg (by omega), if_pos (.inr (.inr h3))]
    · unfold textL; rw [if_neg (by omega), if_pos (.inr (.inl h2))]
theorem byte_ne {d : UInt8} (x : UInt8) (n : Nat) (h : d ≠ x) (hx : x.toNat = n := by rfl) : ((d.toNat : Int) != (n : Int)) = true := by
  rw [bne_iff_ne]
  intro e
  exact h (UInt8.toNat_inj.1 (by omega))
theorem escL_len4 {s b : Bs} {n : Nat} (h : escL s = some (b, n)) : b.length ≤ 4 := by
  unfold escL at h
  split at h
  · cases h
  · split at h
    · injection h with h; injection h with h _; subst h; simp
    · split at h
      · obtain ⟨v, _, h⟩ := Option.map_eq_some_iff.1 h; injection h with h _; subst h; simp
      · split at h
        · obtain ⟨v, h1, h⟩ := Option.map_eq_some_iff.1 h
          injection h with h _; subst h
          obtain ⟨u, _, h2⟩ := Option.bind_eq_some_iff.1 h1
          exact signU_len h2
        · split at h
          · obtain ⟨v, h1, h⟩ := Option.map_eq_some_iff.1 h
            injection h with h _; subst h
            obtain ⟨u, _, h2⟩ := Option.bind_eq_some_iff.1 h1
            exact signU_len h2
          · obtain ⟨v, _, h⟩ := Option.bind_eq_some_iff.1 h
            split at h
            · injection h with h; injection h with h _; subst h; simp
            · cases h
theorem wpList_push_bytes {ops : Array Oper} {rest : List Oper} {o : Oper} {a : Act} {Q : Exit → Act → World → Prop} {W1 : World} (s x : Operand) (hgd : o.guard = none)
    (ho : o.op = .call { callee := .builtin .append, args := #[s, x], argTypes := #[22, 22] }) (base : Nat) (A : Option Addr) (n c : Nat) (xs : List Value) (hs : a.eval s = .slice A n c) (hown : W1.ownsRow base 5 1 (.slice A n c) n xs)
    (ad : Addr) (m cc : Nat) (news : List Value) (hx : a.eval x = .slice (some ad) m cc) (hl : news.length = m * 1) (hnews : ∀ j u, news[j]? = some u → W1.cell? (ad.add j) = some u) (hone : ∀ u ∈ news, u.oneCell' = true) (hm : 0 < m) (hn : n + m ≤ 1000000000) (hbase : base ≤ W1.heap.size)
    (h : ∀ g cap w', w'.ownsRow base 5 1 (.slice (some ⟨g, 0, none⟩) (n + m) cap) (n + m) (xs ++ news) → W1.grownBy w' (Value.slice A n c).ownBlock → ((Value.slice A n c).ownBlock = some g ∨ g = W1.heap.size) → g < w'.heap.size →
      wpList Tryd.prog ops Q rest (a.put o.dst (.slice (some ⟨g, 0, none⟩) (n + m) cap)) w') : wpList Tryd.prog ops Q (o :: rest) a W1 := by
  obtain ⟨i0, hi0, hz0, hz1, hz2⟩ := info_parts byteInfo
  exact wpList_append_lies _ hgd s x 22 ho base 5 i0 _ 1 1 Tryd.underlying22 hi0 hz0 hz1 hz2 rfl (by omega) (.slice A n c) n xs hs hown ad m cc news hx hl hnews hone hm (by simp only [maxLen]; omega) (by omega) hbase W1.heap.size rfl h
theorem wpList_push_byte {ops : Array Oper} {rest : List Oper} {o : Oper} {a : Act} {Q : Exit → Act → World → Prop} {W1 : World} (s x : Operand) (hgd : o.guard = none)
    (ho : o.op = .call { callee := .builtin .append, args := #[s, x], argTypes := #[22, 22] }) (base : Nat) (A : Option Addr) (n c : Nat) (xs : List Value) (hs : a.eval s = .slice A n c) (hown : W1.ownsRow base 5 1 (.slice A n c) n xs)
    (v : Int) (hx : a.eval x = .slice (some ⟨W1.heap.size, 0, none⟩) 1 1) (hn : n ≤ 1000000000) (hbase : base ≤ W1.heap.size)
    (h : ∀ g cap w', w'.ownsRow base 5 1 (.slice (some ⟨g, 0, none⟩) (n + 1) cap) (n + 1) (xs ++ [.int .u8 v]) → (W1.alloc (.cells #[.int .u8 v] 5)).grownBy w' (Value.slice A n c).ownBlock → ((Value.slice A n c).ownBlock = some g ∨ g = W1.heap.size + 1) → g < w'.heap.size →
      wpList Tryd.prog ops Q rest (a.put o.dst (.slice (some ⟨g, 0, none⟩) (n + 1) cap)) w') : wpList Tryd.prog ops Q (o :: rest) a (W1.alloc (.cells #[.int .u8 v] 5)) := by
  obtain ⟨i0, hi0, hz0, hz1, hz2⟩ := info_parts byteInfo
  exact wpList_append_lies _ hgd s x 22 ho base 5 i0 _ 1 1 Tryd.underlying22 hi0 hz0 hz1 hz2 rfl (by omega) (.slice A n c) n xs hs (hown.alloc _) ⟨W1.heap.size, 0, none⟩ 1 1 [.int .u8 v] hx rfl
    (World.news_of_block (cs := #[.int .u8 v]) (t := 5) (fr := (0, 0)) (heap_alloc_new _ _)) (by simp [Value.oneCell']) (by omega) (by simp only [maxLen]; omega) (by omega) (by simp; omega) (W1.heap.size + 1) (by simp) h
set_option maxRecDepth 100000 in
set_option maxHeartbeats 51200000 in
theorem rtext_any (X : ByteArray) (hl : X.size ≤ 500) (w : World) : Calls Tryd.prog 32 #[.string X] w (RTxRet X.data.toList w) := by
  have hz := size_data X
  obtain ⟨S, hS⟩ : ∃ S, X.data.toList = S := ⟨_, rfl⟩
  rw [hS] at hz ⊢
  have x5 : (X.size : Int) ≤ 500 := by omega
  have hlong : ¬ (65536 : Int) < (X.size : Int) := by omega
  cases hSc : S with
  | nil =>
    have HE : Hid (textL [] = .bad) := hide (by decide)
    obtain rfl : X = ⟨#[]⟩ := by rw [← bs_of X, hS, hSc]; rfl
    clear hz hS hSc hl x5 hlong
    go_enter Tryd.func32, Tryd.ntmps32
    go_wp2_with fail
    refine wp_region_still_tail 25 (by kernel_rfl) (by kernel_rfl) ?_
    simp only [List.take_succ_cons, List.take_zero, List.drop_succ_cons, List.drop_zero]
    iterate 25 ((with_reducible refine wpStill_step (fun K hK => ?_)); go_simp; (try refine (if_neg (by decide)).mpr ?_); (with_reducible refine hK _ ?_); clear hK K)
    with_reducible refine wpStill_nil ?_
    rw [drew_lit]
    go_wp2_with fail
    go_ret2
    exact RTxRet.bad HE.out (Below.refl _ w).drew
  | cons c r =>
  rw [← hSc]
  obtain ⟨t1, t2, t3, t4, t5⟩ := rtextL_two S c r hSc (by omega)
  by_cases h2 : S.length < 2
  · have HE := hide (t1 h2)
    have hr0 : r = [] := List.eq_nil_of_length_eq_zero (by rw [hSc, List.length_cons] at h2; omega)
    subst hr0
    obtain rfl : X = ⟨#[c]⟩ := by rw [← bs_of X, hS, hSc]; rfl
    clear hz hS hSc hl t1 t2 t3 t4 t5 h2 x5 hlong
    go_enter Tryd.func32, Tryd.ntmps32
    go_wp2_with fail
    refine wp_region_still_tail 25 (by kernel_rfl) (by kernel_rfl) ?_
    simp only [List.take_succ_cons, List.take_zero, List.drop_succ_cons, List.drop_zero]
    iterate 25 ((with_reducible refine wpStill_step (fun K hK => ?_)); go_simp; (try refine (if_neg (by decide)).mpr ?_); (with_reducible refine hK _ ?_); clear hK K)
    with_reducible refine wpStill_nil ?_
    rw [drew_lit]
    go_wp2_with fail
    go_ret2
    exact RTxRet.bad HE.out (Below.refl _ w).drew
  obtain ⟨i0, e0⟩ := byte_at0 (s := X) (d := c) (r := r) (by rw [hS, hSc])
  obtain ⟨m, hm⟩ : ∃ m, X.size - 1 = m := ⟨_, rfl⟩
  have i1 : m < X.size := by omega
  obtain ⟨cl, e1⟩ : ∃ cl, X[m]'i1 = cl := ⟨_, rfl⟩
  have hlast : S.getLast? = some cl := by
    have h9 : S[m]'(by omega) = cl := by
      rw [← e1]
      have : X.data.toList[m]'(by rw [hS]; omega) = S[m]'(by omega) := by simp [hS]
      rw [← this]; rfl
    rw [List.getLast?_eq_getElem?, show S.length - 1 = m from by omega, List.getElem?_eq_getElem (by omega), h9]
  obtain ⟨I, hIe⟩ : ∃ I, r.dropLast = I := ⟨_, rfl⟩
  have hI : X.extract 1 m = bs I := by
    have h8 : (X.extract 1 m).data.toList = I := by
      have h1 : (X.extract 1 m).data.toList = (X.data.toList.drop 1).take (m - 1) := by simp [ByteArray.extract, ByteArray.copySlice]
      rw [h1, hS, hSc, ← hIe, List.dropLast_eq_take]
      have : S.length = r.length + 1 := by rw [hSc]; rfl
      rw [show m - 1 = r.length - 1 from by omega]; rfl
    rw [← bs_of (X.extract 1 m), h8]
  have hSr : S.length = r.length + 1 := by rw [hSc]; rfl
  have hIl : I.length + 1 = m := by rw [← hIe, List.length_dropLast]; omega
  have hmi : (X.size : Int) - 1 = (m : Int) := by omega
  have hwr : IntKind.i64.wrap ((X.size : Int) - 1) = (m : Int) := by rw [hmi]; exact IntWalk.i64_in _ (by omega)
  have hwr2 : IntKind.i64.wrap (m : Int) = (m : Int) := IntWalk.i64_in _ (by omega)
  have z2 : ¬ (X.size : Int) < 2 := by omega
  have z1 : (1 : Int) ≤ (X.size : Int) := by omega
  have z0 : (0 : Int) < (X.size : Int) := by omega
  have m0 : (0 : Int) ≤ (m : Int) := by omega
  have m1 : (m : Int) < (X.size : Int) := by omega
  have m2 : (1 : Int) ≤ (m : Int) := by omega
  have m3 : (m : Int) ≤ (X.size : Int) := by omega
  have hhead : S.head? = some c := by rw [hSc]; rfl
  by_cases hcc : ¬ c = cl
  · have HE := hide (t2 (by rw [hhead, hlast]; intro h; injection h with h; exact hcc h))
    have qcc : (((c.toNat : Int)) != (cl.toNat : Int)) = true := by
      rw [bne_iff_ne]; intro h; exact hcc (UInt8.toNat_inj.1 (by omega))
    clear hSr hz hS hSc hl t1 t2 t3 t4 t5 h2 hlast hhead hcc hm hI hIe hIl hmi
    go_enter Tryd.func32, Tryd.ntmps32
    go_wp2_with fail
    refine wp_region_still_tail 25 (by kernel_rfl) (by kernel_rfl) ?_
    simp only [List.take_succ_cons, List.take_zero, List.drop_succ_cons, List.drop_zero]
    iterate 25 ((with_reducible refine wpStill_step (fun K hK => ?_)); go_simp; (try refine (if_neg (by decide)).mpr ?_); (with_reducible refine hK _ ?_); clear hK K)
    with_reducible refine wpStill_nil ?_
    rw [drew_lit]
    go_wp2_with fail
    go_ret2
    exact RTxRet.bad HE.out (Below.refl _ w).drew
  have hcc : c = cl := Decidable.not_not.1 hcc
  subst hcc
  have qcs : (((c.toNat : Int)) != (c.toNat : Int)) = false := by simp
  by_cases hck : c ≠ 34 ∧ c ≠ 96
  · have HE := hide (t5 hck.1 hck.2)
    have q1 := byte_ne 34 34 hck.1
    have q2 := byte_ne 96 96 hck.2
    have q3 : ¬ (c.toNat : Int) = 34 := beq_eq_false_iff_ne.1 (byte_eqF 34 34 hck.1)
    have q4 : ¬ (c.toNat : Int) = 96 := beq_eq_false_iff_ne.1 (byte_eqF 96 96 hck.2)
    clear hSr hz hS hSc hl t1 t2 t3 t4 t5 h2 hlast hhead hck hm hI hIe hIl hmi
    go_enter Tryd.func32, Tryd.ntmps32
    go_wp2_with fail
    refine wp_region_still_tail 25 (by kernel_rfl) (by kernel_rfl) ?_
    simp only [List.take_succ_cons, List.take_zero, List.drop_succ_cons, List.drop_zero]
    iterate 25 ((with_reducible refine wpStill_step (fun K hK => ?_)); go_simp; (try refine (if_neg (by decide)).mpr ?_); (with_reducible refine hK _ ?_); clear hK K)
    with_reducible refine wpStill_nil ?_
    rw [drew_lit]
    go_wp2_with fail
    go_ret2
    exact RTxRet.bad HE.out (Below.refl _ w).drew
  have hcb : ∀ W : World, (convert 9 22 (.string X)).run Tryd.prog W = .ok (.slice (some ⟨W.heap.size, 0, none⟩) X.size (grownCap W X.size 0 5)) (Lib.bytesWorld W 5 X) := fun W =>
    Lib.run_convert_string_bytes (P := Tryd.prog) W 9 22 5 X Tryd.underlying9 Tryd.underlying22 Tryd.underlying5
  have HWR : Hid (∀ W : World, Calls Tryd.prog 36 #[.slice (some ⟨W.heap.size, 0, none⟩) X.size (grownCap W X.size 0 5)] (Lib.bytesWorld W 5 X) fun e w' => e = .returned (.int .i64 (wrongInt S)) ∧ Below W.heap.size W w') := hide (fun W => by
    have hbl : Below W.heap.size W (Lib.bytesWorld W 5 X) := Lib.bytesWorld_below W _ X
    rcases bytes_made W X with ⟨A, c', hv, h0⟩ | ⟨a, o, cap, hv, h5, h6⟩
    · rw [hS, hSc] at h0; cases h0
    · injection hv with hv1 hv2 hv3
      injection hv1 with hv1
      have hba : BA (Lib.bytesWorld W 5 X) a o cap S := by rw [hS] at h5 h6; exact ⟨h5, h6⟩
      have := rwrong_some _ a o cap S hba (by omega)
      rw [hv1, hv3, hz]
      exact this.mono fun e w' h => ⟨h.1, h.2 ▸ hbl⟩)
  cases hwl : wrongL S.length S 0 with
  | some p =>
    have HE := hide (t3 (by rw [hwl]; simp))
    rw [wrongInt_some hwl] at HWR
    have p0 : (0 : Int) ≤ (p : Int) := by omega
    have hck2 : c = 34 ∨ c = 96 := by
      by_cases h : c = 34
      · exact .inl h
      · exact .inr (Decidable.not_not.1 fun h' => hck ⟨h, h'⟩)
    clear hSr hz hS hSc hl t1 t2 t3 t4 t5 h2 hlast hhead hck hm hI hIe hIl hmi hwl
    rcases hck2 with rfl | rfl
    all_goals
      go_enter Tryd.func32, Tryd.ntmps32
      go_wp2_with fail
      refine wp_region_still_tail 25 (by kernel_rfl) (by kernel_rfl) ?_
      simp only [List.take_succ_cons, List.take_zero, List.drop_succ_cons, List.drop_zero]
      iterate 25 ((with_reducible refine wpStill_step (fun K hK => ?_)); go_simp; (try refine (if_neg (by decide)).mpr ?_); (with_reducible refine hK _ ?_); clear hK K)
      with_reducible refine wpStill_nil ?_
      rw [drew_lit]
      go_wp2_with fail
      refine (HWR.out w.drew).mono ?_
      rintro e w4 ⟨rfl, hb4⟩
      have HB4 := hide ((Below.refl _ w).drew.trans hb4); clear hb4
      go_wp2_with fail
      go_ret2
      exact RTxRet.bad HE.out HB4.out
  | none =>
  rw [wrongInt_none hwl] at HWR
  have ht := t4 h2 (by rw [hhead, hlast]) hwl
  have hrl : S.length = r.length + 1 := by rw [hSc]; rfl
  by_cases hc34 : c = 34
  · subst hc34
    rw [if_pos rfl, hIe] at ht
    have hbf : bodyQ r.length I = bodyQ (I.length + 1) I := bodyQ_fuel I.length _ _ _ (Nat.le_refl _) (by omega) (by omega)
    rw [hbf] at ht
    have HTX := hide ht
    have HIL := hide hIl
    have ibi : (I.length : Int) ≤ 500 := by omega
    obtain ⟨nI, hnI⟩ : ∃ nI, I.length = nI := ⟨_, rfl⟩
    rw [hnI] at ibi
    obtain ⟨Y, hY⟩ : ∃ Y, bs I = Y := ⟨_, rfl⟩
    have hYd : Y.data.toList = I := by rw [← hY]; rfl
    have hYs : Y.size = nI := by rw [← hY, bs_size, hnI]
    rw [hY] at hI
    have hys : (Y.size : Int) ≤ 500 := by omega
    have hy500 : Y.size ≤ 500 := by omega
    have HYS := hide hYs
    have HNI := hide hnI
    have HYD := hide hYd
    clear hSr hz hS hSc hl t1 t2 t3 t4 t5 h2 hlast hhead hck hm hIe hIl hmi hwl ht hrl hbf hY hnI hYs hYd ibi
    go_enter Tryd.func32, Tryd.ntmps32
    go_wp2_with fail
    refine wp_region_still_tail 25 (by kernel_rfl) (by kernel_rfl) ?_
    simp only [List.take_succ_cons, List.take_zero, List.drop_succ_cons, List.drop_zero]
    iterate 25 ((with_reducible refine wpStill_step (fun K hK => ?_)); go_simp; (try refine (if_neg (by decide)).mpr ?_); (with_reducible refine hK _ ?_); clear hK K)
    with_reducible refine wpStill_nil ?_
    rw [drew_lit]
    go_wp2_with fail
    refine (HWR.out w.drew).mono ?_
    rintro e w4 ⟨rfl, hb4⟩
    have HB4 := hide ((Below.refl _ w).drew.trans hb4); clear hb4
    go_wp2_with fail
    go_loopw [4, 6] (fun v i W' => ∃ W, W = W' ∧ Below w.heap.size w W ∧ ∃ k : Nat, k ≤ Y.size ∧ i = .int .i64 (k : Int) ∧ ∃ A c O, v = .slice A (List.length O) c ∧ W.ownsRow w.heap.size 5 1 (.slice A (List.length O) c) O.length (bcells O) ∧ O.length ≤ 4 * k ∧ bodyQ (I.length + 1) I = (bodyQ (I.length + 1) (I.drop k)).map (O ++ ·)) (fun _ i _ => Y.size - (intOf i).toNat)
    case atStart => exact ⟨_, rfl, HB4.out, 0, Nat.zero_le _, rfl, none, 0, [], rfl, own_none _ _ _ _, by simp, by simp⟩
    case round =>
      obtain ⟨W, rfl, hbw, k, hk, rfl, A, cO, O, rfl, hown, hO4, hinv⟩ := hrel
      have HBW := hide hbw; have HO := hide hown; have HINV := hide hinv
      obtain ⟨nO, hnO⟩ : ∃ nO, O.length = nO := ⟨_, rfl⟩
      rw [hnO] at HO hO4 ⊢
      have HNO := hide hnO
      clear hbw hown hinv hnO
      have hwW := HBW.out.size
      by_cases hlt : k < Y.size
      · have hlti : (k : Int) < (Y.size : Int) := by omega
        have hkI : k < I.length := by have := HYS.out; have := HNI.out; omega
        obtain ⟨d, hd⟩ : ∃ d, I[k]? = some d := ⟨I[k], by simp⟩
        obtain ⟨rr, hrr⟩ : ∃ rr, I.drop (k + 1) = rr := ⟨_, rfl⟩
        have hdr : I.drop k = d :: rr := by
          obtain ⟨h8, h9⟩ := List.getElem?_eq_some_iff.1 hd
          rw [List.drop_eq_getElem_cons h8, h9, hrr]
        obtain ⟨ik, ek⟩ := byte_at_v HYD.out hdr
        have hst := bodyQ_step d rr (I.length + 1) (by rw [← hrr, List.length_drop]; omega)
        rw [← hdr] at hst
        have HST := hide hst; have HRR := hide hrr
        clear hst hd hkI
        by_cases hb : d = 34 ∨ d = 10
        · have HBAD : Hid (textL S = .bad) := hide (by rw [HTX.out, HINV.out, HST.out, if_pos hb]; rfl)
          clear hrr hdr
          have qd : d = 34 ∨ ((((d.toNat : Int)) == 34) = false ∧ (((d.toNat : Int)) == 10) = true) := by
            rcases hb with hb | hb
            · exact .inl hb
            · subst hb; exact .inr ⟨rfl, rfl⟩
          clear hb
          rcases qd with rfl | ⟨qd1, qd2⟩
          all_goals
            go_wp2_with fail
            go_ret2
            exact RTxRet.bad HBAD.out HBW.out
        · have hb1 : d ≠ 34 := fun h => hb (.inl h)
          have hb2 : d ≠ 10 := fun h => hb (.inr h)
          have qd1 : ((d.toNat : Int) == 34) = false := byte_eqF 34 34 hb1
          have qd2 : ((d.toNat : Int) == 10) = false := byte_eqF 10 10 hb2
          by_cases h92 : d = 92
          · have hstep : bodyQ (I.length + 1) (I.drop k) = (match escL rr with | none => none | some (b, n) => (bodyQ (I.length + 1) (rr.drop n)).map (b ++ ·)) := by rw [HST.out, if_neg hb, if_pos h92]; cases escL rr <;> rfl
            have hpt := fun W => rpart_any Y I HYD.out (by omega) (k + 1) (by omega) W
            rw [show ((k + 1 : Nat) : Int) = (k : Int) + 1 from by omega, hrr] at hpt
            have qd3 : (((d.toNat : Int)) == 92) = true := by rw [h92]; rfl
            have hesc := fun b n => @escL_le rr b n
            have hrl2 : rr.length + (k + 1) = Y.size := by rw [← hrr, List.length_drop]; have := HYS.out; have := HNI.out; omega
            cases hes : escL rr with
            | none =>
              rw [hes] at hstep hpt
              have HBAD : Hid (textL S = .bad) := hide (by rw [HTX.out, HINV.out, hstep]; rfl)
              have HPT := hide hpt
              clear hstep hpt hesc hrl2 hes hrr hdr hb hb1 hb2 h92
              go_wp2_with fail
              refine (HPT.out _).mono ?_
              rintro e W1 ⟨rfl, hb5⟩
              have HB5 := hide (HBW.out.trans (hb5.mono HBW.out.size)); clear hb5
              go_wp2_with fail
              go_ret2
              exact RTxRet.bad HBAD.out HB5.out
            | some bn =>
              obtain ⟨bb, nn⟩ := bn
              rw [hes] at hstep hpt
              obtain ⟨hn1, hn2⟩ := hesc bb nn hes
              have hbl4 : bb.length ≤ 4 := escL_len4 hes
              have n0 : ((nn : Int) == 0) = false := by rw [beq_eq_false_iff_ne]; omega
              have n1 : (nn : Int) ≤ 500 := by omega
              have hkn : k + nn + 1 ≤ Y.size := by omega
              have HKN := hide hkn
              have HPT := hide hpt
              have HSTEP := hide hstep
              clear hstep hpt hesc hrl2 hes hrr hdr hb hb1 hb2 h92 hn2 hkn
              go_wp2_with fail
              refine (HPT.out _).mono ?_
              rintro e W1 ⟨g, q, cc, rfl, hbc, hb0, hcells, hb5⟩
              have HB5 := hide (HBW.out.trans (hb5.mono HBW.out.size))
              have HO5 := hide (own_below' HO.out hb5)
              have hs5 : w.heap.size ≤ W1.heap.size := HB5.out.size
              obtain ⟨nb, hnb⟩ : ∃ nb, bb.length = nb := ⟨_, rfl⟩
              rw [hnb] at hbc hb0 hbl4 ⊢
              have HCE : Hid (∀ j u, (bcells bb)[j]? = some u → W1.cell? ((⟨g, q, none⟩ : Addr).add j) = some u) := hide (fun j u hu => by
                have hj : j < bb.length := by
                  have := (List.getElem?_eq_some_iff.1 hu).1
                  rwa [bcells_length] at this
                have h9 := hcells j hj
                have h10 : (⟨g, q, none⟩ : Addr).add j = ⟨g, q + j, none⟩ := by unfold Addr.add; split <;> simp_all
                rw [h10, h9, ← hu]
                simp [bcells, hj])
              have HNB := hide hnb
              have hbcl : (bcells bb).length = nb * 1 := by rw [bcells_length, hnb, Nat.mul_one]
              have hone : ∀ u ∈ bcells bb, u.oneCell' = true := by
                intro u hu
                obtain ⟨x, _, rfl⟩ := List.mem_map.1 hu
                rfl
              have HBCL := hide hbcl
              have HONE := hide hone
              clear hb5 hcells hnb hbcl hone
              go_wp2_with ((at_builtin; refine wpList_push_bytes _ _ rfl rfl w.heap.size A nO cO (bcells O) rfl HO5.out ⟨g, q, none⟩ nb cc (bcells bb) rfl HBCL.out HCE.out HONE.out hb0 (by omega) hs5 ?_; intro gg c9 w9 hown9 hgrow9 hat9 hlt9))
              have HO9 : Hid (w9.ownsRow w.heap.size 5 1 (.slice (some ⟨gg, 0, none⟩) (O ++ bb).length c9) (O ++ bb).length (bcells (O ++ bb))) := hide (by rw [List.length_append, HNO.out, HNB.out, bcells_append]; exact hown9)
              have HB9 := hide (HB5.out.grown hgrow9 hs5 (fun k hk => (own_lt' HO5.out k hk).2))
              have hln : nO + nb = (O ++ bb).length := by rw [List.length_append, HNO.out, HNB.out]
              have HLN := hide hln
              clear hown9 hgrow9 hat9 hlt9 hln
              go_roundw
              case rel =>
                refine ⟨_, rfl, HB9.out, k + nn + 1, HKN.out, by go_num, _, _, O ++ bb, by rw [← HLN.out], HO9.out, by rw [List.length_append, HNO.out, HNB.out]; omega, ?_⟩
                rw [HINV.out, HSTEP.out]
                show Option.map _ (Option.map _ (bodyQ _ (rr.drop nn))) = _
                rw [Option.map_map, ← HRR.out, List.drop_drop, show k + 1 + nn = k + nn + 1 from by omega]
                congr 1
                funext z
                simp
              case measure => (simp [intOf]) <;> omega
          · have hstep : bodyQ (I.length + 1) (I.drop k) = (bodyQ (I.length + 1) rr).map (d :: ·) := by rw [HST.out, if_neg hb, if_neg h92]
            have qd3 : ((d.toNat : Int) == 92) = false := byte_eqF 92 92 h92
            have HSTEP := hide hstep
            clear hstep hrr hdr hb hb1 hb2 h92
            go_wp2_with ((at_builtin; refine wpList_push_byte _ _ rfl rfl w.heap.size A nO cO (bcells O) rfl HO.out (d.toNat : Int) rfl (by omega) hwW ?_; intro gg c9 w9 hown9 hgrow9 hat9 hlt9))
            have HO9 : Hid (w9.ownsRow w.heap.size 5 1 (.slice (some ⟨gg, 0, none⟩) (O ++ [d]).length c9) (O ++ [d]).length (bcells (O ++ [d]))) := hide (by rw [List.length_append, HNO.out, bcells_append]; exact hown9)
            have HB9 := hide (HBW.out.grown (grow_of0 hgrow9) hwW (fun k hk => (own_lt' HO.out k hk).2))
            have hln : nO + 1 = (O ++ [d]).length := by rw [List.length_append, HNO.out]; rfl
            have HLN := hide hln
            clear hown9 hgrow9 hat9 hlt9 hln
            go_roundw
            case rel =>
              refine ⟨_, rfl, HB9.out, k + 1, hlt, by go_num, _, _, O ++ [d], by rw [← HLN.out], HO9.out, by rw [List.length_append, HNO.out]; simp; omega, ?_⟩
              rw [HINV.out, HSTEP.out, Option.map_map, HRR.out]
              congr 1
              funext z
              simp
            case measure => (simp [intOf]) <;> omega
      · have hlti : ¬ (k : Int) < (Y.size : Int) := by omega
        have hfin : textL S = .ok O := by
          rw [HTX.out, HINV.out, List.drop_eq_nil_of_le (by have := HYS.out; have := HNI.out; omega)]
          have hnil : bodyQ (I.length + 1) [] = some [] := rfl
          rw [hnil]
          simp
        have HFIN := hide hfin
        have hcv : (convert 22 9 (.slice A nO cO)).run Tryd.prog W = .ok (.string (bs O)) W := by
          have h9 := HO.out
          rw [← HNO.out] at h9 ⊢
          exact (own_bytes h9).cv
        clear hfin
        go_wp2_with fail
        go_ret2
        exact RTxRet.good HFIN.out HBW.out
  · have hc96 : c = 96 := Decidable.not_not.1 fun h' => hck ⟨hc34, h'⟩
    subst hc96
    rw [if_neg (by decide), if_pos rfl, hIe] at ht
    have HTX := hide ht
    have HIL := hide hIl
    obtain ⟨nI, hnI⟩ : ∃ nI, I.length = nI := ⟨_, rfl⟩
    obtain ⟨Y, hY⟩ : ∃ Y, bs I = Y := ⟨_, rfl⟩
    have hYd : Y.data.toList = I := by rw [← hY]; rfl
    have hYs : Y.size = nI := by rw [← hY, bs_size, hnI]
    rw [hY] at hI
    have hys : (Y.size : Int) ≤ 500 := by omega
    have hy500 : Y.size ≤ 500 := by omega
    have HYS := hide hYs
    have HNI := hide hnI
    have HYD := hide hYd
    clear hSr hz hS hSc hl t1 t2 t3 t4 t5 h2 hlast hhead hck hm hIe hIl hmi hwl ht hrl hY hnI hYs hYd hc34
    go_enter Tryd.func32, Tryd.ntmps32
    go_wp2_with fail
    refine wp_region_still_tail 25 (by kernel_rfl) (by kernel_rfl) ?_
    simp only [List.take_succ_cons, List.take_zero, List.drop_succ_cons, List.drop_zero]
    iterate 25 ((with_reducible refine wpStill_step (fun K hK => ?_)); go_simp; (try refine (if_neg (by decide)).mpr ?_); (with_reducible refine hK _ ?_); clear hK K)
    with_reducible refine wpStill_nil ?_
    rw [drew_lit]
    go_wp2_with fail
    refine (HWR.out w.drew).mono ?_
    rintro e w4 ⟨rfl, hb4⟩
    have HB4 := hide ((Below.refl _ w).drew.trans hb4); clear hb4
    go_wp2_with fail
    go_loopw [4, 6] (fun v i W' => ∃ W, W = W' ∧ Below w.heap.size w W ∧ ∃ k : Nat, k ≤ Y.size ∧ i = .int .i64 (k : Int) ∧ ∃ A c O, v = .slice A (List.length O) c ∧ W.ownsRow w.heap.size 5 1 (.slice A (List.length O) c) O.length (bcells O) ∧ O.length ≤ k ∧ O = (I.take k).filter (· ≠ 13) ∧ (96 : UInt8) ∉ I.take k) (fun _ i _ => Y.size - (intOf i).toNat)
    case atStart => exact ⟨_, rfl, HB4.out, 0, Nat.zero_le _, rfl, none, 0, [], rfl, own_none _ _ _ _, by simp, by simp, by simp⟩
    case round =>
      obtain ⟨W, rfl, hbw, k, hk, rfl, A, cO, O, rfl, hown, hO4, hinv, hno⟩ := hrel
      have HBW := hide hbw; have HO := hide hown; have HINV := hide hinv; have HNO2 := hide hno
      obtain ⟨nO, hnO⟩ : ∃ nO, O.length = nO := ⟨_, rfl⟩
      rw [hnO] at HO hO4 ⊢
      have HNO := hide hnO
      clear hbw hown hinv hnO hno
      have hwW := HBW.out.size
      by_cases hlt : k < Y.size
      · have hlti : (k : Int) < (Y.size : Int) := by omega
        have hkI : k < I.length := by have := HYS.out; have := HNI.out; omega
        obtain ⟨d, hd⟩ : ∃ d, I[k]? = some d := ⟨I[k], by simp⟩
        have hdr : I.drop k = d :: I.drop (k + 1) := by
          obtain ⟨h8, h9⟩ := List.getElem?_eq_some_iff.1 hd
          rw [List.drop_eq_getElem_cons h8, h9]
        have htk : I.take (k + 1) = I.take k ++ [d] := by
          obtain ⟨h8, h9⟩ := List.getElem?_eq_some_iff.1 hd
          rw [List.take_succ_eq_append_getElem h8, h9]
        obtain ⟨ik, ek⟩ := byte_at_v HYD.out hdr
        have HTK := hide htk; have HD := hide hd
        clear hd hkI hdr htk
        by_cases hb : d = 96
        · have hmem : (96 : UInt8) ∈ I := by rw [← hb]; exact List.mem_of_getElem? HD.out
          have HBAD : Hid (textL S = .bad) := hide (by rw [HTX.out, if_pos hmem])
          clear hmem
          subst hb
          go_wp2_with fail
          go_ret2
          exact RTxRet.bad HBAD.out HBW.out
        · have qd1 : ((d.toNat : Int) == 96) = false := byte_eqF 96 96 hb
          have HNB : Hid ((96 : UInt8) ∉ I.take (k + 1)) := hide (by
            rw [HTK.out, List.mem_append]
            rintro (h | h)
            · exact HNO2.out h
            · exact hb (List.mem_singleton.1 h).symm)
          by_cases h13 : d = 13
          · have qd2 : ((d.toNat : Int) == 13) = true := by rw [h13]; rfl
            have HF : Hid (O = (I.take (k + 1)).filter (· ≠ 13)) := hide (by rw [HTK.out, List.filter_append, ← HINV.out, h13]; simp)
            clear hb h13
            go_wp2_with fail
            go_roundw
            case rel =>
              exact ⟨_, rfl, HBW.out, k + 1, hlt, by go_num, A, cO, O, by rw [HNO.out], by rw [HNO.out]; exact HO.out, by rw [HNO.out]; omega, HF.out, HNB.out⟩
            case measure => (simp [intOf]) <;> omega
          · have qd2 : ((d.toNat : Int) == 13) = false := byte_eqF 13 13 h13
            have HF : Hid (O ++ [d] = (I.take (k + 1)).filter (· ≠ 13)) := hide (by rw [HTK.out, List.filter_append, ← HINV.out]; simp [h13])
            clear hb h13
            go_wp2_with ((at_builtin; refine wpList_push_byte _ _ rfl rfl w.heap.size A nO cO (bcells O) rfl HO.out (d.toNat : Int) rfl (by omega) hwW ?_; intro gg c9 w9 hown9 hgrow9 hat9 hlt9))
            have HO9 : Hid (w9.ownsRow w.heap.size 5 1 (.slice (some ⟨gg, 0, none⟩) (O ++ [d]).length c9) (O ++ [d]).length (bcells (O ++ [d]))) := hide (by rw [List.length_append, HNO.out, bcells_append]; exact hown9)
            have HB9 := hide (HBW.out.grown (grow_of0 hgrow9) hwW (fun k hk => (own_lt' HO.out k hk).2))
            have hln : nO + 1 = (O ++ [d]).length := by rw [List.length_append, HNO.out]; rfl
            have HLN := hide hln
            clear hown9 hgrow9 hat9 hlt9 hln
            go_roundw
            case rel =>
              refine ⟨_, rfl, HB9.out, k + 1, hlt, by go_num, _, _, O ++ [d], by rw [← HLN.out], HO9.out, by rw [List.length_append, HNO.out]; simp; omega, HF.out, HNB.out⟩
            case measure => (simp [intOf]) <;> omega
      · have hlti : ¬ (k : Int) < (Y.size : Int) := by omega
        have htk : I.take k = I := List.take_of_length_le (by have := HYS.out; have := HNI.out; omega)
        have hfin : textL S = .ok O := by
          rw [HTX.out, if_neg (by have := HNO2.out; rwa [htk] at this), HINV.out, htk]
        have HFIN := hide hfin
        have hcv : (convert 22 9 (.slice A nO cO)).run Tryd.prog W = .ok (.string (bs O)) W := by
          have h9 := HO.out
          rw [← HNO.out] at h9 ⊢
          exact (own_bytes h9).cv
        clear hfin htk
        go_wp2_with fail
        go_ret2
        exact RTxRet.good HFIN.out HBW.out
end Go.Proofs.YtehflgllfkkfoaaDoor
