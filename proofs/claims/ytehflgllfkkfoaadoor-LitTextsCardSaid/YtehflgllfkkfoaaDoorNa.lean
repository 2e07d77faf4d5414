/- Package lit: digit, base, times, Plain. -/
import Derived.Test.YtehflgllfkkfoaaDoorRg
import Derived.Test.YtehflgllfkkfoaaDoorLitP
import Derived.OwnWalk
import Derived.Laws.OwnMore
import Derived.StillTactics
set_option linter.unusedVariables false
set_option linter.unusedSimpArgs false
namespace Go.Proofs.YtehflgllfkkfoaaDoor
open Go.RowKit Go.Proofs.Dm

def digI (c : Int) : Int := if 48 ≤ c ∧ c ≤ 57 then c - 48 else if 97 ≤ c ∧ c ≤ 102 then c - 87 else if 65 ≤ c ∧ c ≤ 70 then c - 55 else -1
set_option maxHeartbeats 3200000 in
theorem digit_any (c : Int) (h0 : 0 ≤ c) (h1 : c ≤ 1114111) (w : World) : Calls Tryd.prog 47 #[.int .i32 c] w fun e w' => e = .returned (.int .i64 (digI c)) ∧ w = w' := by
  obtain ⟨V, hV⟩ : ∃ V, digI c = V := ⟨_, rfl⟩
  rw [hV]
  unfold digI at hV
  by_cases a : 48 ≤ c ∧ c ≤ 57
  · rw [if_pos a] at hV
    obtain ⟨a1, a2⟩ := a
    have HV := hide hV; clear hV
    go_enter Tryd.func47, Tryd.ntmps47
    go_wp2
    go_ret
    exact ⟨ret_int HV.out, rfl⟩
  rw [if_neg a] at hV
  by_cases b : 97 ≤ c ∧ c ≤ 102
  · rw [if_pos b] at hV
    obtain ⟨a1, a2⟩ := b
    have a3 : 57 < c := by omega
    have HV := hide hV; clear hV a
    go_enter Tryd.func47, Tryd.ntmps47
    go_wp2
    go_ret
    exact ⟨ret_int (by have := HV.out; omega), rfl⟩
  rw [if_neg b] at hV
  by_cases d : 65 ≤ c ∧ c ≤ 70
  · rw [if_pos d] at hV
    obtain ⟨a1, a2⟩ := d
    have a3 : 57 < c := by omega
    have a4 : c < 97 := by omega
    have HV := hide hV; clear hV a b
    go_enter Tryd.func47, Tryd.ntmps47
    go_wp2
    go_ret
    exact ⟨ret_int (by have := HV.out; omega), rfl⟩
  rw [if_neg d] at hV
  have HV := hide hV; clear hV
  have hc : c < 48 ∨ (57 < c ∧ c < 65) ∨ (70 < c ∧ c < 97) ∨ 102 < c := by omega
  clear a b d
  rcases hc with hc | ⟨hc, hc'⟩ | ⟨hc, hc'⟩ | hc
  all_goals
    go_enter Tryd.func47, Tryd.ntmps47
    go_wp2
    go_ret
    exact ⟨ret_int HV.out, rfl⟩
/-- What a sign is worth its first byte is. -/
theorem rune_dig (d : UInt8) (r : Bs) : digI ((decodeL (d :: r)).1 : Int) = (if digL d = 99 then -1 else (digL d : Int)) ∧ ((digL d < 99 ∨ d = 95) → (decodeL (d :: r)).2 = 1) ∧ ((((decodeL (d :: r)).1 : Int)) == 95) = decide (d = 95) := by
  have hb : byteAt (d :: r) 0 = d.toNat := rfl
  have hlow : ∀ c : Fin 128, digI ((c.val : Nat) : Int) = (if digL (UInt8.ofNat c.val) = 99 then -1 else (digL (UInt8.ofNat c.val) : Int)) := by decide +kernel
  rcases Nat.lt_or_ge d.toNat 128 with h | h
  · have e := decodeL_low (d :: r) (by rw [hb]; exact h)
    rw [e, hb]
    have h1 := hlow ⟨d.toNat, h⟩
    simp only [UInt8.ofNat_toNat] at h1
    refine ⟨h1, fun _ => rfl, ?_⟩
    rw [Bool.eq_iff_iff]
    simp only [beq_iff_eq, decide_eq_true_eq]
    constructor
    · intro e; exact UInt8.toNat_inj.1 (by show d.toNat = 95; omega)
    · intro e; rw [e]; rfl
  · have h1 : 128 ≤ (decodeL (d :: r)).1 := by
      rcases decodeL_rune (d :: r) (by simp) with h2 | h2
      · rw [hb] at h2; omega
      · exact h2
    have hd : digL d = 99 := by unfold digL; rw [if_neg (by omega), if_neg (by omega), if_neg (by omega)]
    have h95 : d ≠ 95 := by rintro rfl; revert h; decide
    refine ⟨?_, ?_, ?_⟩
    · rw [if_pos hd]
      unfold digI
      rw [if_neg (by omega), if_neg (by omega), if_neg (by omega)]
    · intro hh
      rcases hh with hh | hh
      · omega
      · exact absurd hh h95
    · rw [decide_eq_false h95, beq_eq_false_iff_ne]; omega
theorem decodeL_max (b : Bs) : (decodeL b).1 ≤ 1114111 := by
  unfold decodeL
  have h8 : ∀ k, byteAt b k ≤ 255 := by intro k; unfold byteAt; have := (b.getD k 0).toNat_lt; omega
  have := h8 0
  split
  · simp only; omega
  · split
    · split
      · simp only; omega
      · simp
    · split
      · split
        · rename_i h; simp only [Bool.and_eq_true, decide_eq_true_eq, validR, Bool.or_eq_true] at h; simp only; omega
        · simp
      · split
        · split
          · rename_i h; simp only [Bool.and_eq_true, decide_eq_true_eq, validR, Bool.or_eq_true] at h; simp only; omega
          · simp
        · simp

theorem ret_istr {a b : Int} {s t : ByteArray} (h : a = b) (h2 : s = t) : Ending.returned (.tuple #[.int .i64 a, .string s]) = .returned (.tuple #[.int .i64 b, .string t]) := by rw [h, h2]
theorem extract_from (s : ByteArray) (k : Nat) : s.extract k s.size = bs (s.data.toList.drop k) := by
  rw [extract_bs, List.take_of_length_le (by rw [List.length_drop, ← size_data]; omega)]
set_option maxRecDepth 100000 in
set_option maxHeartbeats 6400000 in
theorem base_any (s : ByteArray) (hs : s.size ≤ 100000) (w : World) : Calls Tryd.prog 46 #[.string s] w fun e w' => e = .returned (.tuple #[.int .i64 ((baseL s.data.toList).1 : Int), .string (bs (baseL s.data.toList).2)]) ∧ Below w.heap.size w w' := by
  obtain ⟨R1, h1⟩ : ∃ R1 : Int, ((baseL s.data.toList).1 : Int) = R1 := ⟨_, rfl⟩
  obtain ⟨R2, h2⟩ : ∃ R2, bs (baseL s.data.toList).2 = R2 := ⟨_, rfl⟩
  rw [h1, h2]
  have z0 : (s.size : Int) ≤ 100000 := by omega
  have hself : bs s.data.toList = s := bs_of s
  by_cases hl : (s.size : Int) < 2
  · have hb : baseL s.data.toList = (10, s.data.toList) := by
      unfold baseL
      split
      · rename_i c0 c r he
        have := congrArg List.length he
        rw [← size_data] at this
        simp at this; omega
      · rfl
    rw [hb] at h1 h2
    have HR := hide (ret_istr h1 (show s = R2 by rw [← h2]; exact hself.symm))
    have d1 : decide ((s.size : Int) < 2) = true := decide_eq_true hl
    clear h1 h2 hb
    go_enter Tryd.func46, Tryd.ntmps46
    go_wp2_with fail
    go_ret2
    exact ⟨HR.out, Below.refl _ _⟩
  have d1 : decide ((s.size : Int) < 2) = false := decide_eq_false hl
  obtain ⟨x, y, r, hx⟩ : ∃ x y r, s.data.toList = x :: y :: r := by
    have hsz := size_data s
    cases h : s.data.toList with
    | nil => have h9 : s.size = 0 := (by rw [size_data, h]; rfl); omega
    | cons x t =>
      cases t with
      | nil => have h9 : s.size = 1 := (by rw [size_data, h]; rfl); omega
      | cons y r => exact ⟨x, y, r, rfl⟩
  have i0 : 0 < s.size := by omega
  have i1 : 1 < s.size := by omega
  have e0 : s[0]'i0 = x := by
    have : s.data.toList[0]'(by rw [hx]; simp) = x := by simp [hx]
    exact this
  have e1 : s[1]'i1 = y := by
    have : s.data.toList[1]'(by rw [hx]; simp) = y := by simp [hx]
    exact this
  have j0 : (0 : Int) < (s.size : Int) := by omega
  have j1 : (1 : Int) < (s.size : Int) := by omega
  have j2 : (1 : Int) ≤ (s.size : Int) := by omega
  have j3 : (2 : Int) ≤ (s.size : Int) := by omega
  have j4 : 1 ≤ s.size := by omega
  have x2 : s.extract 2 s.size = bs r := by rw [extract_from, hx]; rfl
  have x1 : s.extract 1 s.size = bs (y :: r) := by rw [extract_from, hx]; rfl
  rw [hx] at h1 h2
  have hx' := hide hx; clear hx
  by_cases hx48 : x = 48
  case neg =>
    have hb : baseL (x :: y :: r) = (10, x :: y :: r) := by unfold baseL; simp only; rw [if_neg hx48]
    rw [hb] at h1 h2
    have HR := hide (ret_istr h1 (show s = R2 by rw [← h2]; show s = bs (x :: y :: r); rw [← hx'.out]; exact hself.symm))
    have n48 : (((x.toNat : Int)) != 48) = true := byte_neT 48 48 hx48
    clear h1 h2 hb hx48 hself
    go_enter Tryd.func46, Tryd.ntmps46
    go_wp2_with fail
    go_ret2
    exact ⟨HR.out, Below.refl _ _⟩
  have n48 : (((x.toNat : Int)) != 48) = false := by rw [hx48]; rfl
  have hb : baseL (x :: y :: r) = (if y = 120 ∨ y = 88 then (16, r) else if y = 98 ∨ y = 66 then (2, r) else if y = 111 ∨ y = 79 then (8, r) else (8, y :: r)) := by
    unfold baseL; simp only; rw [if_pos hx48]
  rw [hb] at h1 h2
  clear hx48 hb hself
  have hy : y = 120 ∨ y = 88 ∨ y = 98 ∨ y = 66 ∨ y = 111 ∨ y = 79 ∨ (y ≠ 120 ∧ y ≠ 88 ∧ y ≠ 98 ∧ y ≠ 66 ∧ y ≠ 111 ∧ y ≠ 79) := by
    by_cases q1 : y = 120; exact .inl q1
    by_cases q2 : y = 88; exact .inr (.inl q2)
    by_cases q3 : y = 98; exact .inr (.inr (.inl q3))
    by_cases q4 : y = 66; exact .inr (.inr (.inr (.inl q4)))
    by_cases q5 : y = 111; exact .inr (.inr (.inr (.inr (.inl q5))))
    by_cases q6 : y = 79; exact .inr (.inr (.inr (.inr (.inr (.inl q6)))))
    exact .inr (.inr (.inr (.inr (.inr (.inr ⟨q1, q2, q3, q4, q5, q6⟩)))))
  rcases hy with hy | hy | hy | hy | hy | hy | ⟨q1, q2, q3, q4, q5, q6⟩
  iterate 6
    · subst hy
      have HR := hide (ret_istr h1 h2)
      clear h1 h2
      go_enter Tryd.func46, Tryd.ntmps46
      go_wp2_with fail
      go_still (by kernel_rfl)
      rw [drew_lit]
      go_wp2_with fail
      go_ret2
      exact ⟨HR.out, (Below.refl _ _).drew⟩
  · rw [if_neg (by simp [q1, q2]), if_neg (by simp [q3, q4]), if_neg (by simp [q5, q6])] at h1 h2
    have HR := hide (ret_istr h1 h2)
    have f1 : (((y.toNat : Int)) == 120) = false := byte_eqF 120 120 q1
    have f2 : (((y.toNat : Int)) == 88) = false := byte_eqF 88 88 q2
    have f3 : (((y.toNat : Int)) == 98) = false := byte_eqF 98 98 q3
    have f4 : (((y.toNat : Int)) == 66) = false := byte_eqF 66 66 q4
    have f5 : (((y.toNat : Int)) == 111) = false := byte_eqF 111 111 q5
    have f6 : (((y.toNat : Int)) == 79) = false := byte_eqF 79 79 q6
    clear h1 h2 q1 q2 q3 q4 q5 q6
    go_enter Tryd.func46, Tryd.ntmps46
    go_wp2_with fail
    go_still (by kernel_rfl)
    rw [drew_lit]
    go_wp2_with fail
    go_ret2
    exact ⟨HR.out, (Below.refl _ _).drew⟩

/-! ### times -/
theorem intInfo : (Tryd.prog.info? 3).map (fun i => (i.zero, i.size, i.bytes)) = some (some (.int .i64 0), 1, 8) := by kernel_rfl
def icells (xs : List Nat) : List Value := xs.map (fun x : Nat => .int .i64 (x : Int))
theorem icells_length (xs : List Nat) : (icells xs).length = xs.length := by simp [icells]
theorem icells_append (a b : List Nat) : icells (a ++ b) = icells a ++ icells b := by simp [icells]
theorem icells_get (xs : List Nat) (k : Nat) (hk : k < xs.length) : (icells xs)[k]? = some (.int .i64 ((xs[k]'hk : Nat) : Int)) := by simp [icells, hk]
theorem icells_set (outs ys : List Nat) (x r : Nat) (k : Nat) (hk : k = outs.length) : (icells (outs ++ x :: ys)).set k (.int .i64 (r : Int)) = icells (outs ++ [r] ++ ys) := by
  subst hk
  rw [icells_append, List.set_append_right _ _ (by rw [icells_length]; exact Nat.le_refl _), icells_length, Nat.sub_self]
  simp [icells]
/-- A row of whole numbers of a call's own. -/
def IRow (base : Nat) (w : World) (A : Option Addr) (c : Nat) (xs : List Nat) : Prop := w.ownsRow base 3 1 (.slice A xs.length c) xs.length (icells xs)
theorem IRow.form {base : Nat} {w : World} {A : Option Addr} {c : Nat} {xs : List Nat} (h : IRow base w A c xs) (h0 : 0 < xs.length) : ∃ g, A = some ⟨g, 0, none⟩ ∧ xs.length ≤ c ∧ base ≤ g := by
  rcases h.2 with ⟨_, h1⟩ | ⟨g, cap, cur, hv, hb, _, hle, _⟩
  · omega
  · injection hv with hA _ hc
    exact ⟨g, hA, by omega, hb⟩
theorem IRow.to {base : Nat} {w w' : World} {A : Option Addr} {c : Nat} {xs : List Nat} (h : IRow base w A c xs) (hb : Below w.heap.size w w') : IRow base w' A c xs := own_below' h hb
def TimesRet (base : Nat) (w : World) (r : List Nat) (e : Ending) (w' : World) : Prop := ∃ A' c', e = .returned (.slice A' r.length c') ∧ IRow base w' A' c' r ∧ Below base w w'
theorem TimesRet.mk {base : Nat} {w w' : World} {r : List Nat} {A : Option Addr} {c : Nat} {ys : List Nat} (h : r = ys) (hi : IRow base w' A c ys) (hb : Below base w w') : TimesRet base w r (.returned (.slice A ys.length c)) w' := by
  subst h; exact ⟨A, c, rfl, hi, hb⟩
theorem slice_len (A : Option Addr) (c : Nat) {n m : Nat} (h : n = m) : Value.slice A n c = .slice A m c := by rw [h]

set_option maxRecDepth 100000 in
set_option maxHeartbeats 12800000 in
theorem times_any (base : Nat) (w : World) (A : Option Addr) (c : Nat) (xs : List Nat) (f m : Nat) (h : IRow base w A c xs) (hx : ∀ x ∈ xs, x < 10) (hf : f ≤ 16) (hm : m < 16) (hl : xs.length ≤ 300) (hbase : base ≤ w.heap.size) :
    Calls Tryd.prog 48 #[.slice A xs.length c, .int .i64 (f : Int), .int .i64 (m : Int)] w (TimesRet base w (timesL f xs m)) := by
  obtain ⟨R, hR⟩ : ∃ R, timesL f xs m = R := ⟨_, rfl⟩
  rw [hR]
  have HR := hide hR; clear hR
  have HX := hide hx; clear hx
  have H0 := hide h; clear h
  obtain ⟨i0, hi0, hz0, hz1, hz2⟩ := info_parts intInfo
  obtain ⟨n, hn⟩ : ∃ n, xs.length = n := ⟨_, rfl⟩
  rw [hn] at hl
  rw [hn]
  have HN := hide hn; clear hn
  have n0 : (n : Int) ≤ 300 := by omega
  have f0 : (f : Int) ≤ 16 := by omega
  have m0 : (m : Int) < 16 := by omega
  go_enter Tryd.func48, Tryd.ntmps48
  go_wp2_with fail
  go_loopw [2, 11] (fun s2 s11 W' => ∃ W, W = W' ∧ ∃ (k mk : Nat) (outs : List Nat), k ≤ n ∧ s11 = .int .i64 (k : Int) ∧ s2 = .int .i64 (mk : Int) ∧ mk < 16 ∧ outs.length = k ∧ W.ownsRow base 3 1 (.slice A n c) n (icells (outs ++ xs.drop k)) ∧ R = outs ++ timesL f (xs.drop k) mk ∧ Below base w W) (fun _ s11 _ => n - (intOf s11).toNat)
  case atStart =>
    refine ⟨_, rfl, 0, m, [], Nat.zero_le _, rfl, rfl, hm, rfl, ?_, ?_, Below.refl _ _⟩
    · have := H0.out; unfold IRow at this; rw [HN.out] at this; exact this
    · rw [List.drop_zero, List.nil_append]; exact HR.out.symm
  case round =>
    obtain ⟨W, rfl, k, mk, outs, hk, rfl, rfl, hmk, hol, hown, hRk, hbl⟩ := hrel
    have HO := hide hown; clear hown
    have HK := hide hRk; clear hRk
    have HBL := hide hbl; clear hbl
    have HOL := hide hol; clear hol
    have k0 : (0 : Int) ≤ (k : Int) := by omega
    have mk0 : (mk : Int) < 16 := by omega
    by_cases hlt : k < n
    · have k1 : (k : Int) < (n : Int) := by omega
      have hkx : k < xs.length := by rw [HN.out]; exact hlt
      obtain ⟨g, rfl, hgc, hgb⟩ := H0.out.form (by omega)
      have hgc' : (n : Int) ≤ (c : Int) := by have := HN.out; omega
      have hdr := List.drop_eq_getElem_cons hkx
      obtain ⟨x, hx⟩ : ∃ x, xs[k]'hkx = x := ⟨_, rfl⟩
      rw [hx] at hdr
      have hx10 : x < 10 := by rw [← hx]; exact HX.out _ (List.getElem_mem _)
      clear hx
      have hc := HO.out.cellAt k (by omega)
      have hc2 : W.cell? ⟨g, k, none⟩ = some (.int .i64 (x : Int)) := by
        rw [hc, hdr, icells_get _ k (by rw [List.length_append, List.length_cons, HOL.out]; omega)]
        congr 3
        rw [List.getElem_append_right (by rw [HOL.out]; exact Nat.le_refl _)]
        simp [HOL.out]
      clear hc
      have hfz := HO.out.frozenAt k
      obtain ⟨P, hP⟩ : ∃ P : Nat, (x : Int) * (f : Int) = (P : Int) := ⟨x * f, by push_cast; rfl⟩
      have hPb : (P : Int) ≤ 144 := by
        rw [← hP]
        have h1 : (x : Int) ≤ 9 := by omega
        have h2 : (x : Int) * (f : Int) ≤ 9 * (f : Int) := Int.mul_le_mul_of_nonneg_right h1 (by omega)
        omega
      obtain ⟨V, hV⟩ : ∃ V : Nat, (P : Int) + (mk : Int) = (V : Int) := ⟨P + mk, by push_cast; rfl⟩
      obtain ⟨r, hr⟩ : ∃ r : Nat, (V : Int) % 10 = (r : Int) := ⟨V % 10, by omega⟩
      obtain ⟨q, hq⟩ : ∃ q : Nat, (V : Int) / 10 = (q : Int) := ⟨V / 10, by omega⟩
      have hq16 : q < 16 := by omega
      have hVn : V = x * f + mk := by
        have : (P : Int) = ((x * f : Nat) : Int) := by rw [← hP]; push_cast; rfl
        omega
      have hrn : r = V % 10 := by omega
      have hqn : q = V / 10 := by omega
      have hst := HO.out.stored k (.int .i64 (r : Int))
      rw [hdr, icells_set outs _ x r k HOL.out.symm] at hst
      have HST := hide hst; clear hst
      have HK2 : Hid (R = (outs ++ [r]) ++ timesL f (xs.drop (k + 1)) q) := hide (by
        rw [HK.out, hdr, timesL, ← hVn, ← hrn, ← hqn, List.append_assoc]; rfl)
      have HB2 : Hid (Below base w (W.setCell ⟨g, k, none⟩ (.int .i64 (r : Int)))) := hide (HBL.out.setCell (p := ⟨g, k, none⟩) hgb _)
      clear hdr hVn hrn hqn hgc
      go_wp2_with fail
      go_roundw
      case rel => exact ⟨_, rfl, k + 1, q, outs ++ [r], by omega, by go_num, rfl, hq16, by rw [List.length_append, HOL.out]; rfl, HST.out.1, HK2.out, HB2.out⟩
      case measure => simp [intOf]; omega
    · have hkn : k = n := by omega
      have k1 : ¬ (k : Int) < (n : Int) := by omega
      have hd0 : xs.drop k = [] := List.drop_of_length_le (by rw [HN.out]; omega)
      have hown := HO.out
      have hRk := HK.out
      rw [hd0] at hown hRk
      rw [List.append_nil] at hown
      have hon : outs.length = n := by rw [HOL.out]; exact hkn
      have HO2 : Hid (IRow base W A c outs) := hide (by unfold IRow; rw [hon]; exact hown)
      have HK2 : Hid (R = outs ++ ldL mk) := hide hRk
      have HON := hide hon
      clear hd0 hown hRk hkn hon
      go_wp2_with fail
      go_loopw [0, 2] (fun s0 s2 W' => ∃ W2, W2 = W' ∧ ∃ (m2 : Nat) (ys : List Nat) (A2 : Option Addr) (c2 : Nat), s0 = .slice A2 ys.length c2 ∧ s2 = .int .i64 (m2 : Int) ∧ m2 < 16 ∧ ys.length + m2 ≤ n + 16 ∧ IRow base W2 A2 c2 ys ∧ R = ys ++ ldL m2 ∧ Below base w W2) (fun _ s2 _ => (intOf s2).toNat)
      case atStart => exact ⟨_, rfl, mk, outs, A, c, slice_len A c HON.out.symm, rfl, hmk, by rw [HON.out]; omega, HO2.out, HK2.out, HBL.out⟩
      case round =>
        obtain ⟨W2, rfl, m2, ys, A2, c2, rfl, rfl, hm2, hyl, hir, hR2, hb2⟩ := hrel
        have HI := hide hir; clear hir
        have HR2 := hide hR2; clear hR2
        have HB2 := hide hb2; clear hb2
        by_cases hpos : 0 < m2
        · have m1 : (0 : Int) < (m2 : Int) := by omega
          have m3 : (m2 : Int) < 16 := by omega
          obtain ⟨r, hr⟩ : ∃ r : Nat, (m2 : Int) % 10 = (r : Int) := ⟨m2 % 10, by omega⟩
          obtain ⟨q, hq⟩ : ∃ q : Nat, (m2 : Int) / 10 = (q : Int) := ⟨m2 / 10, by omega⟩
          have hrn : r = m2 % 10 := by omega
          have hqn : q = m2 / 10 := by omega
          have HK3 : Hid (R = (ys ++ [r]) ++ ldL q) := hide (by rw [HR2.out, ldL_pos hpos, ← hrn, ← hqn, List.append_assoc]; rfl)
          have hbs : base ≤ W2.heap.size := Nat.le_trans hbase HB2.out.size
          have hq1 : q + 1 ≤ m2 := by omega
          clear hrn hqn
          go_wp2_with ((at_builtin; refine wpList_append_lies _ rfl _ _ _ rfl base 3 i0 _ 1 8 Tryd.underlying62 hi0 hz0 hz1 hz2 rfl (by omega) (.slice A2 ys.length c2) ys.length (icells ys) rfl (HI.out.alloc _) ⟨W2.heap.size, 0, none⟩ 1 1 [.int .i64 (r : Int)] rfl rfl (World.news_of_block (cs := #[.int .i64 (r : Int)]) (t := 3) (fr := (0, 0)) (heap_alloc_new W2 _)) (by simp [Value.oneCell']) (by omega) (by simp only [maxLen]; omega) (by omega) (by simp; omega) (W2.heap.size + 1) (by simp) ?_; intro gg cc w9 hown1 hgrow hat hlt9; have hg1 := grow_of0 hgrow))
          have HI2 : Hid (IRow base w9 (some ⟨gg, 0, none⟩) cc (ys ++ [r])) := hide (by
            unfold IRow
            rw [List.length_append, List.length_singleton, icells_append]
            exact hown1)
          have HB3 : Hid (Below base w w9) := hide (HB2.out.grown hg1 hbs (fun k hk => (own_lt' HI.out k hk).2))
          clear hown1 hgrow hat hlt9 hg1
          go_roundw
          case rel => exact ⟨_, rfl, q, ys ++ [r], _, _, by rw [List.length_append, List.length_singleton], rfl, by omega, by rw [List.length_append, List.length_singleton]; omega, HI2.out, HK3.out, HB3.out⟩
          case measure => simp [intOf]; omega
        · have m1 : ¬ (0 : Int) < (m2 : Int) := by omega
          have HK3 : Hid (R = ys) := hide (by
            obtain rfl : m2 = 0 := by omega
            rw [HR2.out, ldL_zero, List.append_nil])
          go_wp2_with fail
          go_ret
          exact TimesRet.mk HK3.out HI.out HB2.out
end Go.Proofs.YtehflgllfkkfoaaDoor
