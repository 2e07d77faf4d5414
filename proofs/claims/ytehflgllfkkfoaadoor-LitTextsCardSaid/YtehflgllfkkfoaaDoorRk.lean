/- The reference's 'Sign' and 'Wrong', walked. -/
import Derived.Test.YtehflgllfkkfoaaDoorRi
set_option linter.unusedVariables false
set_option linter.unusedSimpArgs false
namespace Go.Proofs.YtehflgllfkkfoaaDoor
open Go.RowKit Go.Proofs.Dm

theorem ret_pair {a b c d : Int} (h : a = c) (h2 : b = d) : Ending.returned (.tuple #[.int .i64 a, .int .i64 b]) = .returned (.tuple #[.int .i64 c, .int .i64 d]) := by rw [h, h2]
theorem gath_succ (off : Nat) (L : Bs) (k : Nat) (h : 1 ≤ k) : gath off L (k + 1) = 64 * gath off L k + (byteAt L k : Int) - 128 := by
  obtain ⟨k, rfl⟩ : ∃ m, k = m + 1 := ⟨k - 1, by omega⟩
  rfl
theorem pow64 : ∀ k, k ≤ 4 → (64 : Int) ^ (k - 1) ≤ 262144 := by
  intro k h
  have : k = 0 ∨ k = 1 ∨ k = 2 ∨ k = 3 ∨ k = 4 := by omega
  rcases this with rfl | rfl | rfl | rfl | rfl <;> decide
theorem gath_up {L : Bs} {n off least k : Nat} (h : Cls L n off least) (hm : ∀ j, 0 < j → j < k → midB L j = true) (h1 : 1 ≤ k) (h2 : k ≤ n) : 0 ≤ gath off L k ∧ gath off L k ≤ 8388608 := by
  induction k with
  | zero => omega
  | succ k ih =>
    have hn := h.n4
    cases k with
    | zero =>
      have := h.off_le
      have := h.lt
      simp only [gath]; omega
    | succ k =>
      have hb : ∀ q, 1 ≤ q → q ≤ k + 1 → 0 ≤ gath off L q ∧ gath off L q < 32 * 64 ^ (q - 1) := by
        intro q
        induction q with
        | zero => intro h; omega
        | succ q ihq =>
          intro _ hq
          cases q with
          | zero =>
            have := h.off_le
            have := h.lt
            simp only [gath]; omega
          | succ q =>
            have h3 := ihq (by omega) (by omega)
            have hmk := hm (q + 1) (by omega) (by omega)
            simp only [midB, Bool.and_eq_true, decide_eq_true_eq] at hmk
            rw [gath_succ _ _ _ (by omega)]
            have e : (64 : Int) ^ (q + 1 + 1 - 1) = 64 ^ (q + 1 - 1) * 64 := by rw [show q + 1 + 1 - 1 = (q + 1 - 1) + 1 from by omega, Int.pow_succ]
            rw [e]
            omega
      have h3 := hb (k + 1) (by omega) (Nat.le_refl _)
      have h4 : (64 : Int) ^ (k + 1 - 1) ≤ 4096 := by
        have : k = 0 ∨ k = 1 ∨ k = 2 := by omega
        rcases this with rfl | rfl | rfl <;> decide
      have hmk := hm (k + 1) (by omega) (by omega)
      simp only [midB, Bool.and_eq_true, decide_eq_true_eq] at hmk
      rw [gath_succ _ _ _ (by omega)]
      omega

set_option maxRecDepth 100000 in
set_option maxHeartbeats 25600000 in
theorem rSign_any (w : World) (a o cap : Nat) (b : Bs) (hba : BA w a o cap b) (hb : b.length ≤ 65536) (p : Nat) (hp : p < b.length) :
    Calls Tryd.prog 61 #[.slice (some ⟨a, o, none⟩) b.length cap, .int .i64 (p : Int)] w fun e w' => e = .returned (.tuple #[.int .i64 ((decodeL (b.drop p)).2 : Int), .int .i64 (signV (b.drop p))]) ∧ w = w' := by
  have hcap : (b.length : Int) ≤ (cap : Int) := by have := hba.1; omega
  have HBA := hide hba; clear hba
  have p0 : (0 : Int) ≤ (p : Int) := by omega
  have p1 : (p : Int) < (b.length : Int) := by omega
  have p2 : (b.length : Int) ≤ 65536 := by omega
  obtain ⟨L, hL⟩ : ∃ L, b.drop p = L := ⟨_, rfl⟩
  rw [hL]
  have hLl : L.length = b.length - p := by rw [← hL, List.length_drop]
  have hcell : ∀ j, p + j < b.length → w.cell? ⟨a, o + (p + j), none⟩ = some (.int .u8 (byteAt L j : Int)) := by
    intro j hj
    rw [HBA.out.2 (p + j) hj]
    unfold byteAt
    rw [← hL, List.getD_eq_getElem?_getD, List.getElem?_drop, List.getElem?_eq_getElem hj]; rfl
  have hbyte : ∀ j, byteAt L j ≤ 255 := by intro j; unfold byteAt; have := (L.getD j 0).toNat_lt; omega
  have c0 := hcell 0 (by omega)
  rw [Nat.add_zero] at c0
  have HC := hide hcell; clear hcell
  obtain ⟨R1, h1⟩ : ∃ R1 : Int, ((decodeL L).2 : Int) = R1 := ⟨_, rfl⟩
  obtain ⟨R2, h2⟩ : ∃ R2, signV L = R2 := ⟨_, rfl⟩
  rw [h1, h2]
  have hbad : decodeL L = (65533, 1) → 1 = R1 ∧ -1 = R2 := by
    intro h
    have := signV_bad h
    rw [this.1] at h2
    rw [this.2] at h1
    exact ⟨h1, h2⟩
  have HBAD := hide hbad; clear hbad
  obtain ⟨c, hc⟩ : ∃ c, byteAt L 0 = c := ⟨_, rfl⟩
  have hc5 := hbyte 0
  rw [hc] at c0 hc5
  have c5 : (c : Int) ≤ 255 := by omega
  have cc0 : (0 : Int) ≤ (c : Int) := by omega
  have HLL := hide hLl; clear hLl
  have HBY := hide hbyte; clear hbyte
  have HL := hide hL; clear hL
  by_cases k1 : (c : Int) < 128
  · have hr := signV_low (L := L) (by omega)
    rw [h2, hc] at hr
    rw [hr.2] at h1
    have HR1 := hide h1
    have HR2 := hide hr.1
    clear h1 h2 hc hr hc5
    go_enter Tryd.func61, Tryd.ntmps61
    go_wp2_with fail
    go_ret2
    exact ⟨ret_pair HR1.out HR2.out.symm, rfl⟩
  by_cases k2 : (c : Int) < 194
  · have hb1 := HBAD.out (decX (by omega) (by omega))
    have HR1 := hide hb1.1
    have HR2 := hide hb1.2
    clear h1 h2 hc hb1 hc5
    go_enter Tryd.func61, Tryd.ntmps61
    go_wp2_with fail
    go_ret2
    exact ⟨ret_pair HR1.out HR2.out, rfl⟩
  by_cases k5 : 244 < (c : Int)
  · have hb1 := HBAD.out (decX (by omega) (by omega))
    have HR1 := hide hb1.1
    have HR2 := hide hb1.2
    clear h1 h2 hc hb1 hc5
    go_enter Tryd.func61, Tryd.ntmps61
    go_wp2_with fail
    go_ret2
    exact ⟨ret_pair HR1.out HR2.out, rfl⟩
  by_cases k3 : (c : Int) ≤ 223
  · have hcls := cls2 (L := L) (by omega) (by omega)
    have HCLS := hide hcls; clear hcls
    have f1 : (194 : Int) ≤ (c : Int) := by omega
    have f2 : (c : Int) ≤ 223 := by omega
    have hg1 : gath 192 L 1 = (c : Int) - 192 := by simp only [gath, hc]; rfl
    have HG1 := hide hg1
    have H1 := hide h1
    have H2 := hide h2
    clear h1 h2 hc hc5 hg1
    by_cases hn : (b.length : Int) < (p : Int) + 2
    · have hb1 := HBAD.out (HCLS.out.bad L.length (by have := HLL.out; omega) (by have := HLL.out; omega) (.inl (Nat.le_refl _)))
      have HR1 := hide hb1.1
      have HR2 := hide hb1.2
      clear hb1
      go_enter Tryd.func61, Tryd.ntmps61
      go_wp2_with fail
      go_ret2
      exact ⟨ret_pair HR1.out HR2.out, rfl⟩
    · go_enter Tryd.func61, Tryd.ntmps61
      go_wp2_with fail
      go_loop [8, 10] (fun v i => ∃ k : Nat, 1 ≤ k ∧ k ≤ 2 ∧ i = .int .i64 k ∧ v = .int .i64 (gath 192 L k) ∧ ∀ j, 0 < j → j < k → midB L j = true) (fun _ i => 2 - (intOf i).toNat)
      case atStart => exact ⟨1, Nat.le_refl _, by omega, rfl, by rw [HG1.out], fun j h1 h2 => by omega⟩
      case round =>
        obtain ⟨k, hk1, hk2, rfl, rfl, hmid⟩ := hrel
        have hgb := gath_up HCLS.out hmid hk1 hk2
        have hgs := gath_succ 192 L k hk1
        have HMID := hide hmid; clear hmid
        obtain ⟨v, hv⟩ : ∃ v, gath 192 L k = v := ⟨_, rfl⟩
        rw [hv] at hgb hgs
        rw [hv]
        have g0 := hgb.1
        have g1 := hgb.2
        clear hgb
        have HV := hide hv; clear hv
        have HGS := hide hgs; clear hgs
        have i0 : (1 : Int) ≤ (k : Int) := by omega
        have i1 : (k : Int) ≤ 2 := by omega
        by_cases hlt : k < 2
        · have i2 : (k : Int) < 2 := by omega
          have hpk : p + k < b.length := by omega
          have i3 : (p : Int) + (k : Int) < (b.length : Int) := by omega
          have ck := HC.out k hpk
          have y1 := HBY.out k
          obtain ⟨y, hy⟩ : ∃ y, byteAt L k = y := ⟨_, rfl⟩
          rw [hy] at ck y1
          have HY := hide hy; clear hy
          have y2 : (y : Int) ≤ 255 := by omega
          have y0 : (0 : Int) ≤ (y : Int) := by omega
          by_cases hy1 : (y : Int) < 128
          · have hb1 := HBAD.out (HCLS.out.bad k hk1 hlt (.inr (by unfold midB; rw [HY.out]; simp; omega)))
            have HR1 := hide hb1.1
            have HR2 := hide hb1.2
            clear hb1
            go_wp2_with fail
            go_ret2
            exact ⟨ret_pair HR1.out HR2.out, rfl⟩
          · by_cases hy2 : (191 : Int) < (y : Int)
            · have hb1 := HBAD.out (HCLS.out.bad k hk1 hlt (.inr (by unfold midB; rw [HY.out]; simp; omega)))
              have HR1 := hide hb1.1
              have HR2 := hide hb1.2
              clear hb1
              go_wp2_with fail
              go_ret2
              exact ⟨ret_pair HR1.out HR2.out, rfl⟩
            · have hm2 : Hid (∀ j, 0 < j → j < k + 1 → midB L j = true) := hide (by
                intro j j1 j2
                by_cases hjk : j = k
                · subst hjk; unfold midB; rw [HY.out]; simp; omega
                · exact HMID.out j j1 (by omega))
              go_wp2_with fail
              go_round
              case rel => exact ⟨k + 1, by omega, by omega, by go_num, by rw [HGS.out, HY.out], hm2.out⟩
              case measure => simp [intOf]; omega
        · have hkn : k = 2 := by omega
          have i2 : ¬ (k : Int) < 2 := by omega
          have hgood := HCLS.out.good (by have := HLL.out; omega) (by rw [← hkn]; exact HMID.out)
          rw [← hkn, HV.out] at hgood
          by_cases t1 : v < 128
          · rw [if_neg (fun x => by omega)] at hgood
            have hb1 := HBAD.out hgood
            have HR1 := hide hb1.1
            have HR2 := hide hb1.2
            clear hb1 hgood hkn
            go_wp2_with fail
            go_ret2
            exact ⟨ret_pair HR1.out HR2.out, rfl⟩
          by_cases t2 : 1114111 < v
          · rw [if_neg (fun x => by omega)] at hgood
            have hb1 := HBAD.out hgood
            have HR1 := hide hb1.1
            have HR2 := hide hb1.2
            clear hb1 hgood hkn
            go_wp2_with fail
            go_ret2
            exact ⟨ret_pair HR1.out HR2.out, rfl⟩
          by_cases t3 : 55296 ≤ v ∧ v ≤ 57343
          · rw [if_neg (fun x => x.2.2 t3)] at hgood
            have hb1 := HBAD.out hgood
            have HR1 := hide hb1.1
            have HR2 := hide hb1.2
            obtain ⟨t4, t5⟩ := t3
            clear hb1 hgood hkn
            go_wp2_with fail
            go_ret2
            exact ⟨ret_pair HR1.out HR2.out, rfl⟩
          · rw [if_pos ⟨by omega, by omega, t3⟩] at hgood
            have e1 := H1.out
            rw [hgood] at e1
            have e2 := H2.out
            unfold signV at e2
            rw [hgood, if_neg (by intro e; injection e with _ e; omega)] at e2
            have HR1 : Hid (2 = R1) := hide (by rw [← e1, hkn]; rfl)
            have HR2 : Hid (v = R2) := hide (by rw [← e2]; show v = ((v.toNat : Nat) : Int); omega)
            clear e1 e2 hgood hkn
            by_cases t4 : 55296 ≤ v
            · have t5 : ¬ v ≤ 57343 := fun h => t3 ⟨t4, h⟩
              clear t3
              go_wp2_with fail
              go_ret2
              exact ⟨ret_pair HR1.out HR2.out, rfl⟩
            · clear t3
              go_wp2_with fail
              go_ret2
              exact ⟨ret_pair HR1.out HR2.out, rfl⟩
  by_cases k4 : (c : Int) ≤ 239
  · have hcls := cls3 (L := L) (by omega) (by omega)
    have HCLS := hide hcls; clear hcls
    have f1 : (224 : Int) ≤ (c : Int) := by omega
    have f2 : (c : Int) ≤ 239 := by omega
    have hg1 : gath 224 L 1 = (c : Int) - 224 := by simp only [gath, hc]; rfl
    have HG1 := hide hg1
    have H1 := hide h1
    have H2 := hide h2
    clear h1 h2 hc hc5 hg1
    by_cases hn : (b.length : Int) < (p : Int) + 3
    · have hb1 := HBAD.out (HCLS.out.bad L.length (by have := HLL.out; omega) (by have := HLL.out; omega) (.inl (Nat.le_refl _)))
      have HR1 := hide hb1.1
      have HR2 := hide hb1.2
      clear hb1
      go_enter Tryd.func61, Tryd.ntmps61
      go_wp2_with fail
      go_ret2
      exact ⟨ret_pair HR1.out HR2.out, rfl⟩
    · go_enter Tryd.func61, Tryd.ntmps61
      go_wp2_with fail
      go_loop [8, 10] (fun v i => ∃ k : Nat, 1 ≤ k ∧ k ≤ 3 ∧ i = .int .i64 k ∧ v = .int .i64 (gath 224 L k) ∧ ∀ j, 0 < j → j < k → midB L j = true) (fun _ i => 3 - (intOf i).toNat)
      case atStart => exact ⟨1, Nat.le_refl _, by omega, rfl, by rw [HG1.out], fun j h1 h2 => by omega⟩
      case round =>
        obtain ⟨k, hk1, hk2, rfl, rfl, hmid⟩ := hrel
        have hgb := gath_up HCLS.out hmid hk1 hk2
        have hgs := gath_succ 224 L k hk1
        have HMID := hide hmid; clear hmid
        obtain ⟨v, hv⟩ : ∃ v, gath 224 L k = v := ⟨_, rfl⟩
        rw [hv] at hgb hgs
        rw [hv]
        have g0 := hgb.1
        have g1 := hgb.2
        clear hgb
        have HV := hide hv; clear hv
        have HGS := hide hgs; clear hgs
        have i0 : (1 : Int) ≤ (k : Int) := by omega
        have i1 : (k : Int) ≤ 3 := by omega
        by_cases hlt : k < 3
        · have i2 : (k : Int) < 3 := by omega
          have hpk : p + k < b.length := by omega
          have i3 : (p : Int) + (k : Int) < (b.length : Int) := by omega
          have ck := HC.out k hpk
          have y1 := HBY.out k
          obtain ⟨y, hy⟩ : ∃ y, byteAt L k = y := ⟨_, rfl⟩
          rw [hy] at ck y1
          have HY := hide hy; clear hy
          have y2 : (y : Int) ≤ 255 := by omega
          have y0 : (0 : Int) ≤ (y : Int) := by omega
          by_cases hy1 : (y : Int) < 128
          · have hb1 := HBAD.out (HCLS.out.bad k hk1 hlt (.inr (by unfold midB; rw [HY.out]; simp; omega)))
            have HR1 := hide hb1.1
            have HR2 := hide hb1.2
            clear hb1
            go_wp2_with fail
            go_ret2
            exact ⟨ret_pair HR1.out HR2.out, rfl⟩
          · by_cases hy2 : (191 : Int) < (y : Int)
            · have hb1 := HBAD.out (HCLS.out.bad k hk1 hlt (.inr (by unfold midB; rw [HY.out]; simp; omega)))
              have HR1 := hide hb1.1
              have HR2 := hide hb1.2
              clear hb1
              go_wp2_with fail
              go_ret2
              exact ⟨ret_pair HR1.out HR2.out, rfl⟩
            · have hm2 : Hid (∀ j, 0 < j → j < k + 1 → midB L j = true) := hide (by
                intro j j1 j2
                by_cases hjk : j = k
                · subst hjk; unfold midB; rw [HY.out]; simp; omega
                · exact HMID.out j j1 (by omega))
              go_wp2_with fail
              go_round
              case rel => exact ⟨k + 1, by omega, by omega, by go_num, by rw [HGS.out, HY.out], hm2.out⟩
              case measure => simp [intOf]; omega
        · have hkn : k = 3 := by omega
          have i2 : ¬ (k : Int) < 3 := by omega
          have hgood := HCLS.out.good (by have := HLL.out; omega) (by rw [← hkn]; exact HMID.out)
          rw [← hkn, HV.out] at hgood
          by_cases t1 : v < 2048
          · rw [if_neg (fun x => by omega)] at hgood
            have hb1 := HBAD.out hgood
            have HR1 := hide hb1.1
            have HR2 := hide hb1.2
            clear hb1 hgood hkn
            go_wp2_with fail
            go_ret2
            exact ⟨ret_pair HR1.out HR2.out, rfl⟩
          by_cases t2 : 1114111 < v
          · rw [if_neg (fun x => by omega)] at hgood
            have hb1 := HBAD.out hgood
            have HR1 := hide hb1.1
            have HR2 := hide hb1.2
            clear hb1 hgood hkn
            go_wp2_with fail
            go_ret2
            exact ⟨ret_pair HR1.out HR2.out, rfl⟩
          by_cases t3 : 55296 ≤ v ∧ v ≤ 57343
          · rw [if_neg (fun x => x.2.2 t3)] at hgood
            have hb1 := HBAD.out hgood
            have HR1 := hide hb1.1
            have HR2 := hide hb1.2
            obtain ⟨t4, t5⟩ := t3
            clear hb1 hgood hkn
            go_wp2_with fail
            go_ret2
            exact ⟨ret_pair HR1.out HR2.out, rfl⟩
          · rw [if_pos ⟨by omega, by omega, t3⟩] at hgood
            have e1 := H1.out
            rw [hgood] at e1
            have e2 := H2.out
            unfold signV at e2
            rw [hgood, if_neg (by intro e; injection e with _ e; omega)] at e2
            have HR1 : Hid (3 = R1) := hide (by rw [← e1, hkn]; rfl)
            have HR2 : Hid (v = R2) := hide (by rw [← e2]; show v = ((v.toNat : Nat) : Int); omega)
            clear e1 e2 hgood hkn
            by_cases t4 : 55296 ≤ v
            · have t5 : ¬ v ≤ 57343 := fun h => t3 ⟨t4, h⟩
              clear t3
              go_wp2_with fail
              go_ret2
              exact ⟨ret_pair HR1.out HR2.out, rfl⟩
            · clear t3
              go_wp2_with fail
              go_ret2
              exact ⟨ret_pair HR1.out HR2.out, rfl⟩
  have hcls := cls4 (L := L) (by omega) (by omega)
  have HCLS := hide hcls; clear hcls
  have f1 : (240 : Int) ≤ (c : Int) := by omega
  have f2 : (c : Int) ≤ 244 := by omega
  have hg1 : gath 240 L 1 = (c : Int) - 240 := by simp only [gath, hc]; rfl
  have HG1 := hide hg1
  have H1 := hide h1
  have H2 := hide h2
  clear h1 h2 hc hc5 hg1
  by_cases hn : (b.length : Int) < (p : Int) + 4
  · have hb1 := HBAD.out (HCLS.out.bad L.length (by have := HLL.out; omega) (by have := HLL.out; omega) (.inl (Nat.le_refl _)))
    have HR1 := hide hb1.1
    have HR2 := hide hb1.2
    clear hb1
    go_enter Tryd.func61, Tryd.ntmps61
    go_wp2_with fail
    go_ret2
    exact ⟨ret_pair HR1.out HR2.out, rfl⟩
  · go_enter Tryd.func61, Tryd.ntmps61
    go_wp2_with fail
    go_loop [8, 10] (fun v i => ∃ k : Nat, 1 ≤ k ∧ k ≤ 4 ∧ i = .int .i64 k ∧ v = .int .i64 (gath 240 L k) ∧ ∀ j, 0 < j → j < k → midB L j = true) (fun _ i => 4 - (intOf i).toNat)
    case atStart => exact ⟨1, Nat.le_refl _, by omega, rfl, by rw [HG1.out], fun j h1 h2 => by omega⟩
    case round =>
      obtain ⟨k, hk1, hk2, rfl, rfl, hmid⟩ := hrel
      have hgb := gath_up HCLS.out hmid hk1 hk2
      have hgs := gath_succ 240 L k hk1
      have HMID := hide hmid; clear hmid
      obtain ⟨v, hv⟩ : ∃ v, gath 240 L k = v := ⟨_, rfl⟩
      rw [hv] at hgb hgs
      rw [hv]
      have g0 := hgb.1
      have g1 := hgb.2
      clear hgb
      have HV := hide hv; clear hv
      have HGS := hide hgs; clear hgs
      have i0 : (1 : Int) ≤ (k : Int) := by omega
      have i1 : (k : Int) ≤ 4 := by omega
      by_cases hlt : k < 4
      · have i2 : (k : Int) < 4 := by omega
        have hpk : p + k < b.length := by omega
        have i3 : (p : Int) + (k : Int) < (b.length : Int) := by omega
        have ck := HC.out k hpk
        have y1 := HBY.out k
        obtain ⟨y, hy⟩ : ∃ y, byteAt L k = y := ⟨_, rfl⟩
        rw [hy] at ck y1
        have HY := hide hy; clear hy
        have y2 : (y : Int) ≤ 255 := by omega
        have y0 : (0 : Int) ≤ (y : Int) := by omega
        by_cases hy1 : (y : Int) < 128
        · have hb1 := HBAD.out (HCLS.out.bad k hk1 hlt (.inr (by unfold midB; rw [HY.out]; simp; omega)))
          have HR1 := hide hb1.1
          have HR2 := hide hb1.2
          clear hb1
          go_wp2_with fail
          go_ret2
          exact ⟨ret_pair HR1.out HR2.out, rfl⟩
        · by_cases hy2 : (191 : Int) < (y : Int)
          · have hb1 := HBAD.out (HCLS.out.bad k hk1 hlt (.inr (by unfold midB; rw [HY.out]; simp; omega)))
            have HR1 := hide hb1.1
            have HR2 := hide hb1.2
            clear hb1
            go_wp2_with fail
            go_ret2
            exact ⟨ret_pair HR1.out HR2.out, rfl⟩
          · have hm2 : Hid (∀ j, 0 < j → j < k + 1 → midB L j = true) := hide (by
              intro j j1 j2
              by_cases hjk : j = k
              · subst hjk; unfold midB; rw [HY.out]; simp; omega
              · exact HMID.out j j1 (by omega))
            go_wp2_with fail
            go_round
            case rel => exact ⟨k + 1, by omega, by omega, by go_num, by rw [HGS.out, HY.out], hm2.out⟩
            case measure => simp [intOf]; omega
      · have hkn : k = 4 := by omega
        have i2 : ¬ (k : Int) < 4 := by omega
        have hgood := HCLS.out.good (by have := HLL.out; omega) (by rw [← hkn]; exact HMID.out)
        rw [← hkn, HV.out] at hgood
        by_cases t1 : v < 65536
        · rw [if_neg (fun x => by omega)] at hgood
          have hb1 := HBAD.out hgood
          have HR1 := hide hb1.1
          have HR2 := hide hb1.2
          clear hb1 hgood hkn
          go_wp2_with fail
          go_ret2
          exact ⟨ret_pair HR1.out HR2.out, rfl⟩
        by_cases t2 : 1114111 < v
        · rw [if_neg (fun x => by omega)] at hgood
          have hb1 := HBAD.out hgood
          have HR1 := hide hb1.1
          have HR2 := hide hb1.2
          clear hb1 hgood hkn
          go_wp2_with fail
          go_ret2
          exact ⟨ret_pair HR1.out HR2.out, rfl⟩
        by_cases t3 : 55296 ≤ v ∧ v ≤ 57343
        · rw [if_neg (fun x => x.2.2 t3)] at hgood
          have hb1 := HBAD.out hgood
          have HR1 := hide hb1.1
          have HR2 := hide hb1.2
          obtain ⟨t4, t5⟩ := t3
          clear hb1 hgood hkn
          go_wp2_with fail
          go_ret2
          exact ⟨ret_pair HR1.out HR2.out, rfl⟩
        · rw [if_pos ⟨by omega, by omega, t3⟩] at hgood
          have e1 := H1.out
          rw [hgood] at e1
          have e2 := H2.out
          unfold signV at e2
          rw [hgood, if_neg (by intro e; injection e with _ e; omega)] at e2
          have HR1 : Hid (4 = R1) := hide (by rw [← e1, hkn]; rfl)
          have HR2 : Hid (v = R2) := hide (by rw [← e2]; show v = ((v.toNat : Nat) : Int); omega)
          clear e1 e2 hgood hkn
          by_cases t4 : 55296 ≤ v
          · have t5 : ¬ v ≤ 57343 := fun h => t3 ⟨t4, h⟩
            clear t3
            go_wp2_with fail
            go_ret2
            exact ⟨ret_pair HR1.out HR2.out, rfl⟩
          · clear t3
            go_wp2_with fail
            go_ret2
            exact ⟨ret_pair HR1.out HR2.out, rfl⟩

theorem signV_test (L : Bs) (hL : L ≠ []) : (signV L ≤ 0 ↔ badSign (decodeL L) = true) ∧ (signV L = 65279 ↔ (decodeL L).1 = 65279) := by
  unfold signV badSign
  by_cases h : decodeL L = (65533, 1)
  · rw [if_pos h, h]; simp
  · rw [if_neg h]
    refine ⟨?_, by omega⟩
    have hx : ¬ ((decodeL L).1 = 65533 ∧ (decodeL L).2 = 1) := fun hh => h (Prod.ext hh.1 hh.2)
    simp only [Bool.or_eq_true, beq_iff_eq, Bool.and_eq_true]
    constructor
    · intro h1; left; omega
    · intro h1
      rcases h1 with h1 | h1
      · omega
      · exact absurd h1 hx
set_option maxRecDepth 100000 in
set_option maxHeartbeats 12800000 in
theorem rwrong_some (w : World) (a o cap : Nat) (b : Bs) (hba : BA w a o cap b) (hb : b.length ≤ 65536) :
    Calls Tryd.prog 36 #[.slice (some ⟨a, o, none⟩) b.length cap] w fun e w' => e = .returned (.int .i64 (wrongInt b)) ∧ w = w' := by
  have hcap : (b.length : Int) ≤ (cap : Int) := by have := hba.1; omega
  have p2 : (b.length : Int) ≤ 65536 := by omega
  have HBA := hide hba; clear hba
  obtain ⟨V, hV⟩ : ∃ V, wrongInt b = V := ⟨_, rfl⟩
  rw [hV]
  have HV := hide hV; clear hV
  go_enter Tryd.func36, Tryd.ntmps36
  go_wp2_with fail
  go_loop [3] (fun i => ∃ k f : Nat, k ≤ b.length ∧ i = .int .i64 k ∧ (b.drop k).length ≤ f ∧ wrongL b.length b 0 = wrongL f (b.drop k) k) (fun i => b.length - (intOf i).toNat)
  case atStart => exact ⟨0, b.length, Nat.zero_le _, rfl, by simp, by simp⟩
  case round =>
    obtain ⟨k, f, hk, rfl, hf, hwr⟩ := hrel
    have HF := hide hf; clear hf
    have HWR := hide hwr; clear hwr
    have k0 : (0 : Int) ≤ (k : Int) := by omega
    by_cases hlt : k < b.length
    · have k1 : (k : Int) < (b.length : Int) := by omega
      have hdr := List.drop_eq_getElem_cons hlt
      have hgo := wl_go hdr HF.out HWR.out
      rw [← hdr] at hgo
      have hs := rSign_any w a o cap b HBA.out hb k hlt
      have hlen := decodeL_len (b.drop k) (by rw [hdr]; exact List.cons_ne_nil _ _)
      rw [List.length_drop] at hlen
      have htst := signV_test (b.drop k) (by rw [hdr]; exact List.cons_ne_nil _ _)
      obtain ⟨n, hn⟩ : ∃ n, (decodeL (b.drop k)).2 = n := ⟨_, rfl⟩
      obtain ⟨r, hr⟩ : ∃ r, (decodeL (b.drop k)).1 = r := ⟨_, rfl⟩
      rw [hn] at hs hlen hgo
      rw [hr] at htst hgo
      obtain ⟨v, hv⟩ : ∃ v, signV (b.drop k) = v := ⟨_, rfl⟩
      rw [hv] at hs htst
      obtain ⟨B, hB⟩ : ∃ B, badSign (decodeL (b.drop k)) = B := ⟨_, rfl⟩
      rw [hB] at htst hgo
      clear hn hr hv hB hdr
      obtain ⟨n1, n2, n3⟩ := hlen
      have HS := hide hs; clear hs
      have n4 : (n : Int) ≤ 4 := by omega
      have n5 : (1 : Int) ≤ (n : Int) := by omega
      by_cases t1 : v ≤ 0
      · have hv : Hid (V = (k : Int)) := hide (by
          rw [← HV.out, wrongInt_some (hgo.1 (by rw [htst.1.1 t1]; rfl))])
        clear hgo htst
        go_wp2_with fail
        refine HS.out.mono ?_
        rintro e w' ⟨rfl, rfl⟩
        go_wp2_with fail
        go_ret
        exact ⟨ret_int hv.out.symm, rfl⟩
      · have hB : B = false := by
          cases B with
          | false => rfl
          | true => exact absurd (htst.1.2 rfl) t1
        by_cases t2 : v = 65279
        · by_cases t3 : (0 : Int) < (k : Int)
          · have hv : Hid (V = (k : Int)) := hide (by
              rw [← HV.out, wrongInt_some (hgo.1 (by rw [htst.2.1 t2]; simp; omega))])
            have e1 : (v == 65279) = true := by rw [t2]; rfl
            clear hgo htst t2 hB
            go_wp2_with fail
            refine HS.out.mono ?_
            rintro e w' ⟨rfl, rfl⟩
            go_wp2_with fail
            go_ret
            exact ⟨ret_int hv.out.symm, rfl⟩
          · have hnx := hgo.2 (by rw [hB, show decide (0 < k) = false from by simp; omega]; simp)
            have HNX := hide hnx
            have e1 : (v == 65279) = true := by rw [t2]; rfl
            clear hgo htst t2 hB hnx
            go_wp2_with fail
            refine HS.out.mono ?_
            rintro e w' ⟨rfl, rfl⟩
            go_wp2_with fail
            go_round
            case rel =>
              obtain ⟨f', h1, h2⟩ := HNX.out
              exact ⟨k + n, f', by omega, by go_num, h1, h2⟩
            case measure => simp [intOf]; omega
        · have hnx := hgo.2 (by
            rw [hB]
            have : (r == 65279) = false := by rw [beq_eq_false_iff_ne]; exact fun e => t2 (htst.2.2 e)
            rw [this]; rfl)
          have HNX := hide hnx
          have e1 : (v == 65279) = false := by rw [beq_eq_false_iff_ne]; exact t2
          clear hgo htst t2 hB hnx
          go_wp2_with fail
          refine HS.out.mono ?_
          rintro e w' ⟨rfl, rfl⟩
          go_wp2_with fail
          go_round
          case rel =>
            obtain ⟨f', h1, h2⟩ := HNX.out
            exact ⟨k + n, f', by omega, by go_num, h1, h2⟩
          case measure => simp [intOf]; omega
    · have k1 : ¬ (k : Int) < (b.length : Int) := by omega
      have hv : Hid (V = -1) := hide (by
        rw [← HV.out]
        refine wrongInt_none ?_
        rw [HWR.out, List.drop_of_length_le (by omega)]
        cases f <;> rfl)
      go_wp2_with fail
      go_ret
      exact ⟨ret_int hv.out.symm, rfl⟩
theorem rwrong_nil (w : World) (A : Option Addr) (c : Nat) : Calls Tryd.prog 36 #[.slice A 0 c] w fun e w' => e = .returned (.int .i64 (-1)) ∧ w = w' := by
  go_enter Tryd.func36, Tryd.ntmps36
  go_wp2_with fail
  refine wp_loop_rounds 1 ?_
  rw [rounds_succ]
  go_wp2_with fail
  go_ret
  exact ⟨rfl, rfl⟩
end Go.Proofs.YtehflgllfkkfoaaDoor
