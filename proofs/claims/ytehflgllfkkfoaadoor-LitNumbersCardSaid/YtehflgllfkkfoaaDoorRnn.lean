/- Package demoticref03: Number. -/
import Derived.Test.YtehflgllfkkfoaaDoorRnd
set_option linter.unusedVariables false
set_option linter.unusedSimpArgs false
namespace Go.Proofs.YtehflgllfkkfoaaDoor
open Go.RowKit Go.Proofs.Dm

theorem numL_match (c : UInt8) (r : Bs) (b : Nat) (R : Bs) (hl : (c :: r).length ≤ 200) (hf : figure c = true) (hb : baseL (c :: r) = (b, R)) :
    numL (c :: r) = match digsL b false R with
      | none => .bad
      | some [] => .bad
      | some (d :: ds) => .ok (decS (valL b (d :: ds))) := by
  unfold numL
  rw [if_neg (by omega)]
  simp only
  rw [hf, if_neg (by simp), hb]
  rfl
theorem byte_at_k {s : ByteArray} {S : Bs} (hS : s.data.toList = S) {k : Nat} {d : UInt8} {r : Bs} (h : S.drop k = d :: r) : ∃ hk : k < s.size, s[k]'hk = d := by
  have hk : k < S.length := by
    rcases Nat.lt_or_ge k S.length with h1 | h1
    · exact h1
    · rw [List.drop_of_length_le h1] at h; cases h
  have h2 := List.drop_eq_getElem_cons hk
  rw [h] at h2
  injection h2 with h2 _
  have hk2 : k < s.size := by rw [size_data, hS]; exact hk
  refine ⟨hk2, ?_⟩
  have : s.data.toList[k]'(by rw [hS]; exact hk) = d := by rw [h2]; simp [hS]
  exact this
set_option maxRecDepth 100000 in
set_option maxHeartbeats 51200000 in
theorem rNumber_any (T : ByteArray) (hT : T.size ≤ maxLen) (w : World) : Calls Tryd.prog 29 #[.string T] w (NumRet T.data.toList w) := by
  have hsz := size_data T
  obtain ⟨S, hS⟩ : ∃ S, T.data.toList = S := ⟨_, rfl⟩
  rw [hS] at hsz ⊢
  by_cases hlong : (200 : Int) < (T.size : Int)
  · have HL : Hid (numL S = .long) := hide (by unfold numL; rw [if_pos (by omega)])
    clear hsz hS hT
    go_enter Tryd.func29, Tryd.ntmps29
    go_wp2_with fail
    go_ret2
    unfold NumRet
    rw [HL.out]
    exact ⟨rfl, Below.refl _ _⟩
  have t0 : (T.size : Int) ≤ 200 := by omega
  have HS := hide hS
  cases hSc : S with
  | nil =>
    have hb : Hid (numL [] = .bad) := hide rfl
    have z : ((T.size : Int) == 0) = true := by rw [hsz, hSc]; rfl
    clear hsz hS hT hlong
    go_enter Tryd.func29, Tryd.ntmps29
    go_wp2_with fail
    go_ret2
    exact NumRet.bad hb.out (Below.refl _ _)
  | cons c0 R0 =>
  rw [← hSc]
  obtain ⟨i0, e0⟩ := byte_at0 (s := T) (d := c0) (r := R0) (by rw [hS, hSc])
  have j0 : (0 : Int) < (T.size : Int) := by omega
  have z : ((T.size : Int) == 0) = false := by rw [beq_eq_false_iff_ne]; omega
  have hlS : (c0 :: R0).length ≤ 200 := by rw [← hSc]; omega
  cases hf : figure c0 with
  | false =>
    have hb : Hid (numL S = .bad) := hide (by rw [hSc]; unfold numL; rw [if_neg (by omega)]; simp only; rw [hf, if_pos rfl])
    have hq : (c0.toNat : Int) < 48 ∨ ((48 : Int) ≤ (c0.toNat : Int) ∧ (57 : Int) < (c0.toNat : Int)) := by
      unfold figure at hf
      simp [UInt8.le_iff_toNat_le] at hf
      by_cases h5 : 48 ≤ c0.toNat
      · right; have := hf h5; omega
      · left; omega
    clear hsz hS hT hlong hSc hf hlS
    rcases hq with q1 | ⟨q1, q2⟩
    all_goals
      go_enter Tryd.func29, Tryd.ntmps29
      go_wp2_with fail
      go_ret2
      exact NumRet.bad hb.out (Below.refl _ _)
  | true =>
  have hf2 : 48 ≤ c0.toNat ∧ c0.toNat ≤ 57 := by
    unfold figure at hf
    simp [UInt8.le_iff_toNat_le] at hf
    exact hf
  have f1 : (48 : Int) ≤ (c0.toNat : Int) := by omega
  have f2 : (c0.toNat : Int) ≤ 57 := by omega
  have HFC := hide hf
  have HSZ := hide hsz
  have HSC := hide hSc
  have HLS := hide hlS
  obtain ⟨ti, hti, hz0, hz1, hz2⟩ := info_parts intInfo
  clear hf2 hf hlong hsz hlS hS hT
  have hshape : (((((c0.toNat : Int)) == 48) = false ∨ (c0 = 48 ∧ ¬ (1 : Int) < (T.size : Int))) ∧ baseL S = (10, S.drop 0)) ∨ (c0 = 48 ∧ (1 : Int) < (T.size : Int) ∧ ∃ (i1 : 1 < T.size) (c1 : UInt8), T[1]'i1 = c1 ∧
      ((c1 = 120 ∧ baseL S = (16, S.drop 2)) ∨ (c1 = 88 ∧ baseL S = (16, S.drop 2)) ∨ (c1 = 98 ∧ baseL S = (2, S.drop 2)) ∨ (c1 = 66 ∧ baseL S = (2, S.drop 2)) ∨ (c1 = 111 ∧ baseL S = (8, S.drop 2)) ∨ (c1 = 79 ∧ baseL S = (8, S.drop 2)) ∨
       ((((c1.toNat : Int)) == 120) = false ∧ (((c1.toNat : Int)) == 88) = false ∧ (((c1.toNat : Int)) == 98) = false ∧ (((c1.toNat : Int)) == 66) = false ∧ (((c1.toNat : Int)) == 111) = false ∧ (((c1.toNat : Int)) == 79) = false ∧ baseL S = (8, S.drop 1)))) := by
    rw [hSc]
    by_cases h48 : c0 = 48
    · cases R0 with
      | nil =>
        left
        refine ⟨.inr ⟨h48, ?_⟩, rfl⟩
        have := HSZ.out; rw [hSc] at this; simp at this; omega
      | cons c1 r =>
        right
        obtain ⟨i1, e1⟩ := byte_at_k HS.out (k := 1) (d := c1) (r := r) (by rw [hSc]; rfl)
        refine ⟨h48, by omega, i1, c1, e1, ?_⟩
        subst h48
        by_cases h1 : c1 = 120
        · subst h1; exact .inl ⟨rfl, rfl⟩
        by_cases h2 : c1 = 88
        · subst h2; exact .inr (.inl ⟨rfl, rfl⟩)
        by_cases h3 : c1 = 98
        · subst h3; exact .inr (.inr (.inl ⟨rfl, rfl⟩))
        by_cases h4 : c1 = 66
        · subst h4; exact .inr (.inr (.inr (.inl ⟨rfl, rfl⟩)))
        by_cases h5 : c1 = 111
        · subst h5; exact .inr (.inr (.inr (.inr (.inl ⟨rfl, rfl⟩))))
        by_cases h6 : c1 = 79
        · subst h6; exact .inr (.inr (.inr (.inr (.inr (.inl ⟨rfl, rfl⟩)))))
        refine .inr (.inr (.inr (.inr (.inr (.inr ⟨byte_eqF 120 120 h1, byte_eqF 88 88 h2, byte_eqF 98 98 h3, byte_eqF 66 66 h4, byte_eqF 111 111 h5, byte_eqF 79 79 h6, ?_⟩)))))
        unfold baseL
        simp [h1, h2, h3, h4, h5, h6]
    · left
      refine ⟨.inl (byte_eqF 48 48 h48), ?_⟩
      unfold baseL
      cases R0 with
      | nil => rfl
      | cons c1 r => simp [h48]
  rcases hshape with ⟨hg | ⟨hg, hg1⟩, hbase⟩ | ⟨hg, hg1, i1, c1, e1, ⟨hc1, hbase⟩ | ⟨hc1, hbase⟩ | ⟨hc1, hbase⟩ | ⟨hc1, hbase⟩ | ⟨hc1, hbase⟩ | ⟨hc1, hbase⟩ | ⟨x1, x2, x3, x4, x5, x6, hbase⟩⟩
  · have hnm := numL_match c0 R0 10 (S.drop 0) HLS.out HFC.out (by rw [← HSC.out]; exact hbase)
    rw [← HSC.out] at hnm
    have HNM := hide hnm
    have j1 : (1 : Int) ≤ (T.size : Int) := by omega
    clear hbase hnm hSc
    go_enter Tryd.func29, Tryd.ntmps29
    go_wp2_with fail
    go_loopw [6, 7] (fun s6 s7 W' => ∃ W, W = W' ∧ ∃ (k : Nat) (line : Bool) (ds : List Nat) (A : Option Addr) (c : Nat), k ≤ T.size ∧ s7 = .int .i64 (k : Int) ∧ s6 = .slice A ds.length c ∧ ds.length ≤ k ∧ (∀ d ∈ ds, d < 10) ∧ digsL 10 false (S.drop 0) = (digsL 10 line (S.drop k)).map (ds ++ ·) ∧ (line = true → ∃ d r, S.drop k = d :: r ∧ d ≠ 95) ∧ IRow w.heap.size W A c ds ∧ Below w.heap.size w W) (fun _ s7 _ => T.size - (intOf s7).toNat)
    case atStart =>
      refine ⟨_, rfl, 0, false, [], none, 0, by omega, rfl, rfl, Nat.zero_le _, (fun d h => by cases h), ?_, (fun h => by cases h), ⟨rfl, .inl ⟨rfl, rfl⟩⟩, Below.refl _ _⟩
      cases digsL 10 false (S.drop 0) <;> simp
    case round =>
      obtain ⟨W, rfl, k, line, ds, A, c, hk, rfl, rfl, hdk, hdb, hdg, hline, hir, hbl⟩ := hrel
      have HIR := hide hir; clear hir
      have HBL := hide hbl; clear hbl
      have HDB := hide hdb; clear hdb
      have k0 : (0 : Int) ≤ (k : Int) := by omega
      obtain ⟨m, hm⟩ : ∃ m, ds.length = m := ⟨_, rfl⟩
      have HM := hide hm
      rw [hm] at hdk
      rw [hm]
      clear hm
      cases hdr : S.drop k with
      | nil =>
        have hkn : ¬ (k : Int) < (T.size : Int) := by
          intro h
          have h2 : k < S.length := by have := HSZ.out; omega
          rw [List.drop_eq_getElem_cons h2] at hdr
          cases hdr
        rw [hdr] at hdg hline
        have hlf : line = false := by
          cases line with
          | false => rfl
          | true => obtain ⟨d, r, h, _⟩ := hline rfl; cases h
        subst hlf
        have hds : digsL 10 false (S.drop 0) = some ds := by rw [hdg]; simp [digsL]
        have hnum := HNM.out
        rw [hds] at hnum
        by_cases hm0 : m = 0
        · have hd0 : ds = [] := List.eq_nil_of_length_eq_zero (by rw [HM.out]; exact hm0)
          rw [hd0] at hnum
          have HN := hide hnum
          have z1 : (((m : Int)) == 0) = true := by rw [hm0]; rfl
          clear hnum hds hdg hline hdr hd0
          go_wp2_with fail
          go_ret2
          exact NumRet.bad HN.out HBL.out
        · have hnum2 : numL S = .ok (decS (valL 10 ds)) := by
            cases ds with
            | nil => exact absurd (by rw [← HM.out]; rfl) hm0
            | cons d ds => exact hnum
          have HN := hide hnum2
          have z1 : (((m : Int)) == 0) = false := by rw [beq_eq_false_iff_ne]; omega
          have hdec := decimal_any w.heap.size W A c ds 10 HIR.out (by rw [HM.out]; omega) (by rw [HM.out]; omega) HDB.out (by omega) (by omega)
          rw [HM.out] at hdec
          have HDEC := hide hdec
          clear hnum hnum2 hds hdg hline hdr hdec
          go_wp2_with fail
          refine (HDEC.out).mono ?_
          rintro e w9 ⟨rfl, hb9⟩
          have HB9 := hide (HBL.out.trans (hb9.mono HBL.out.size)); clear hb9
          go_wp2_with fail
          go_ret2
          exact NumRet.good HN.out HB9.out
      | cons d r =>
        obtain ⟨hkt, ed⟩ := byte_at_k HS.out hdr
        have k1 : (k : Int) < (T.size : Int) := by omega
        have hkS : k < S.length := by have := HSZ.out; omega
        have hdr1 : S.drop (k + 1) = r := by rw [← List.drop_drop, hdr]; rfl
        rw [hdr] at hdg hline
        have hstep := digs_step hdg (by omega)
        obtain ⟨k', hk'⟩ : ∃ k', k + 1 = k' := ⟨_, rfl⟩
        have hki : (k : Int) + 1 = (k' : Int) := by omega
        rw [hk'] at hdr1
        have HK' := hide hk'
        by_cases h95 : d = 95
        · have hlf : line = false := by
            cases line with
            | false => rfl
            | true =>
              obtain ⟨d', r', h, h2⟩ := hline rfl
              injection h with h _
              exact absurd (h ▸ h95) h2
          subst hlf h95
          have h1 := hstep.1 rfl rfl
          cases hr : r with
          | nil =>
            rw [hr] at h1 hdr1
            have hbad : numL S = .bad := by rw [HNM.out, h1]; rfl
            have HBAD := hide hbad
            have hke : k' = T.size := by
              have h9 := congrArg List.length hdr1
              rw [List.length_drop] at h9
              have := HSZ.out
              simp at h9
              omega
            have z1 : (((k' : Int)) == (T.size : Int)) = true := by rw [hke]; simp
            clear hbad h1 hstep hdg hline hdr hdr1 hke hk'
            go_wp2_with fail
            go_ret2
            exact NumRet.bad HBAD.out HBL.out
          | cons e r' =>
            rw [hr] at h1 hdr1
            obtain ⟨hkt', ee⟩ := byte_at_k HS.out hdr1
            have z1 : (((k' : Int)) == (T.size : Int)) = false := by rw [beq_eq_false_iff_ne]; omega
            have k3 : (k' : Int) < (T.size : Int) := by omega
            have k2 : (0 : Int) ≤ (k' : Int) := by omega
            by_cases he : e = 95
            · subst he
              have hbad : numL S = .bad := by rw [HNM.out, h1]; simp [digsL]; rfl
              have HBAD := hide hbad
              clear hbad h1 hstep hdg hline hdr hdr1 hk'
              go_wp2_with fail
              go_ret2
              exact NumRet.bad HBAD.out HBL.out
            · have z2 : (((e.toNat : Int)) == 95) = false := byte_eqF 95 95 he
              have H1 := hide h1
              have HDR1 := hide hdr1
              have HE := hide he
              clear h1 hstep hdg hline hdr hdr1 hk' he
              go_wp2_with fail
              go_roundw
              case rel => exact ⟨_, rfl, k', true, ds, A, c, by omega, by go_num, by rw [HM.out], by rw [HM.out]; omega, HDB.out, by rw [HDR1.out]; exact H1.out, fun _ => ⟨_, _, HDR1.out, HE.out⟩, HIR.out, HBL.out⟩
              case measure => (simp [intOf]) <;> omega
        · have z0 : (((d.toNat : Int)) == 95) = false := byte_eqF 95 95 h95
          have hdig := fun W => rdigit_any d W
          obtain ⟨x, hx⟩ : ∃ x, digL d = x := ⟨_, rfl⟩
          rw [hx] at hdig
          rw [hx] at hstep
          have HDIG := hide hdig
          have x0 : (0 : Int) ≤ (x : Int) := by omega
          have hne : ¬ (d = 95 ∧ line = false) := fun h => h95 h.1
          by_cases hxb : 10 ≤ x
          · have hbad : numL S = .bad := by rw [HNM.out, hstep.2.1 hne hxb]
            have HBAD := hide hbad
            have x1 : (10 : Int) ≤ (x : Int) := by omega
            clear hbad hstep hdg hline hdr hdr1 hk' hx hdig h95 hne hxb
            go_wp2_with fail
            refine (HDIG.out _).mono ?_
            rintro e w' ⟨rfl, rfl⟩
            go_wp2_with fail
            go_ret2
            exact NumRet.bad HBAD.out HBL.out
          · have H1 := hide (hstep.2.2 hne (by omega))
            have HDR1 := hide hdr1
            have x1 : (x : Int) < 10 := by omega
            have hx99 : (x : Int) ≤ 15 := by omega
            have hbs : w.heap.size ≤ W.heap.size := HBL.out.size
            have hir := HIR.out
            unfold IRow at hir
            rw [HM.out] at hir
            have HO := hide hir
            have HDB2 : Hid (∀ y ∈ ds ++ [x], y < 10) := hide (by
              intro y hy
              rcases List.mem_append.1 hy with hy | hy
              · exact HDB.out y hy
              · rw [List.mem_singleton.1 hy]; omega)
            have m0 : (m : Int) ≤ 200 := by omega
            clear hstep hdg hline hdr hdr1 hk' hx hdig h95 hne hxb hir
            go_wp2_with fail
            refine (HDIG.out _).mono ?_
            rintro e w' ⟨rfl, rfl⟩
            go_wp2_with (first | (go_at_call 55; refine (HDIG.out _).mono ?_; rintro e w' ⟨rfl, hw⟩; rw [← hw]; clear hw) | (at_builtin; refine wpList_append_lies _ rfl _ _ _ rfl w.heap.size 3 ti _ 1 8 Tryd.underlying62 hti hz0 hz1 hz2 rfl (by omega) (.slice A m c) m (icells ds) rfl (HO.out.alloc _) ⟨W.heap.size, 0, none⟩ 1 1 [.int .i64 (x : Int)] rfl rfl (World.news_of_block (cs := #[.int .i64 (x : Int)]) (t := 3) (fr := (0, 0)) (heap_alloc_new W _)) (by simp [Value.oneCell']) (by omega) (by simp only [maxLen]; omega) (by omega) (by simp; omega) (W.heap.size + 1) (by simp) ?_; intro gg cc w9 hown1 hgrow hat hlt9; have hg1 := grow_of0 hgrow))
            have HI2 : Hid (IRow w.heap.size w9 (some ⟨gg, 0, none⟩) cc (ds ++ [x])) := hide (by
              unfold IRow
              rw [List.length_append, List.length_singleton, icells_append, HM.out]
              exact hown1)
            have HB3 : Hid (Below w.heap.size w w9) := hide (HBL.out.grown hg1 hbs (fun k hk => (own_lt' HO.out k hk).2))
            clear hown1 hgrow hat hlt9 hg1
            go_roundw
            case rel => exact ⟨_, rfl, k', false, ds ++ [x], _, _, by omega, by go_num, by rw [List.length_append, HM.out]; rfl, by rw [List.length_append, HM.out, List.length_singleton]; omega, HDB2.out, by rw [HDR1.out]; exact H1.out, (fun h => by cases h), HI2.out, HB3.out⟩
            case measure => (simp [intOf]) <;> omega
  · subst hg
    have hnm := numL_match 48 R0 10 (S.drop 0) HLS.out HFC.out (by rw [← HSC.out]; exact hbase)
    rw [← HSC.out] at hnm
    have HNM := hide hnm
    have j1 : (1 : Int) ≤ (T.size : Int) := by omega
    clear hbase hnm hSc
    go_enter Tryd.func29, Tryd.ntmps29
    go_wp2_with fail
    go_loopw [6, 7] (fun s6 s7 W' => ∃ W, W = W' ∧ ∃ (k : Nat) (line : Bool) (ds : List Nat) (A : Option Addr) (c : Nat), k ≤ T.size ∧ s7 = .int .i64 (k : Int) ∧ s6 = .slice A ds.length c ∧ ds.length ≤ k ∧ (∀ d ∈ ds, d < 10) ∧ digsL 10 false (S.drop 0) = (digsL 10 line (S.drop k)).map (ds ++ ·) ∧ (line = true → ∃ d r, S.drop k = d :: r ∧ d ≠ 95) ∧ IRow w.heap.size W A c ds ∧ Below w.heap.size w W) (fun _ s7 _ => T.size - (intOf s7).toNat)
    case atStart =>
      refine ⟨_, rfl, 0, false, [], none, 0, by omega, rfl, rfl, Nat.zero_le _, (fun d h => by cases h), ?_, (fun h => by cases h), ⟨rfl, .inl ⟨rfl, rfl⟩⟩, Below.refl _ _⟩
      cases digsL 10 false (S.drop 0) <;> simp
    case round =>
      obtain ⟨W, rfl, k, line, ds, A, c, hk, rfl, rfl, hdk, hdb, hdg, hline, hir, hbl⟩ := hrel
      have HIR := hide hir; clear hir
      have HBL := hide hbl; clear hbl
      have HDB := hide hdb; clear hdb
      have k0 : (0 : Int) ≤ (k : Int) := by omega
      obtain ⟨m, hm⟩ : ∃ m, ds.length = m := ⟨_, rfl⟩
      have HM := hide hm
      rw [hm] at hdk
      rw [hm]
      clear hm
      cases hdr : S.drop k with
      | nil =>
        have hkn : ¬ (k : Int) < (T.size : Int) := by
          intro h
          have h2 : k < S.length := by have := HSZ.out; omega
          rw [List.drop_eq_getElem_cons h2] at hdr
          cases hdr
        rw [hdr] at hdg hline
        have hlf : line = false := by
          cases line with
          | false => rfl
          | true => obtain ⟨d, r, h, _⟩ := hline rfl; cases h
        subst hlf
        have hds : digsL 10 false (S.drop 0) = some ds := by rw [hdg]; simp [digsL]
        have hnum := HNM.out
        rw [hds] at hnum
        by_cases hm0 : m = 0
        · have hd0 : ds = [] := List.eq_nil_of_length_eq_zero (by rw [HM.out]; exact hm0)
          rw [hd0] at hnum
          have HN := hide hnum
          have z1 : (((m : Int)) == 0) = true := by rw [hm0]; rfl
          clear hnum hds hdg hline hdr hd0
          go_wp2_with fail
          go_ret2
          exact NumRet.bad HN.out HBL.out
        · have hnum2 : numL S = .ok (decS (valL 10 ds)) := by
            cases ds with
            | nil => exact absurd (by rw [← HM.out]; rfl) hm0
            | cons d ds => exact hnum
          have HN := hide hnum2
          have z1 : (((m : Int)) == 0) = false := by rw [beq_eq_false_iff_ne]; omega
          have hdec := decimal_any w.heap.size W A c ds 10 HIR.out (by rw [HM.out]; omega) (by rw [HM.out]; omega) HDB.out (by omega) (by omega)
          rw [HM.out] at hdec
          have HDEC := hide hdec
          clear hnum hnum2 hds hdg hline hdr hdec
          go_wp2_with fail
          refine (HDEC.out).mono ?_
          rintro e w9 ⟨rfl, hb9⟩
          have HB9 := hide (HBL.out.trans (hb9.mono HBL.out.size)); clear hb9
          go_wp2_with fail
          go_ret2
          exact NumRet.good HN.out HB9.out
      | cons d r =>
        obtain ⟨hkt, ed⟩ := byte_at_k HS.out hdr
        have k1 : (k : Int) < (T.size : Int) := by omega
        have hkS : k < S.length := by have := HSZ.out; omega
        have hdr1 : S.drop (k + 1) = r := by rw [← List.drop_drop, hdr]; rfl
        rw [hdr] at hdg hline
        have hstep := digs_step hdg (by omega)
        obtain ⟨k', hk'⟩ : ∃ k', k + 1 = k' := ⟨_, rfl⟩
        have hki : (k : Int) + 1 = (k' : Int) := by omega
        rw [hk'] at hdr1
        have HK' := hide hk'
        by_cases h95 : d = 95
        · have hlf : line = false := by
            cases line with
            | false => rfl
            | true =>
              obtain ⟨d', r', h, h2⟩ := hline rfl
              injection h with h _
              exact absurd (h ▸ h95) h2
          subst hlf h95
          have h1 := hstep.1 rfl rfl
          cases hr : r with
          | nil =>
            rw [hr] at h1 hdr1
            have hbad : numL S = .bad := by rw [HNM.out, h1]; rfl
            have HBAD := hide hbad
            have hke : k' = T.size := by
              have h9 := congrArg List.length hdr1
              rw [List.length_drop] at h9
              have := HSZ.out
              simp at h9
              omega
            have z1 : (((k' : Int)) == (T.size : Int)) = true := by rw [hke]; simp
            clear hbad h1 hstep hdg hline hdr hdr1 hke hk'
            go_wp2_with fail
            go_ret2
            exact NumRet.bad HBAD.out HBL.out
          | cons e r' =>
            rw [hr] at h1 hdr1
            obtain ⟨hkt', ee⟩ := byte_at_k HS.out hdr1
            have z1 : (((k' : Int)) == (T.size : Int)) = false := by rw [beq_eq_false_iff_ne]; omega
            have k3 : (k' : Int) < (T.size : Int) := by omega
            have k2 : (0 : Int) ≤ (k' : Int) := by omega
            by_cases he : e = 95
            · subst he
              have hbad : numL S = .bad := by rw [HNM.out, h1]; simp [digsL]; rfl
              have HBAD := hide hbad
              clear hbad h1 hstep hdg hline hdr hdr1 hk'
              go_wp2_with fail
              go_ret2
              exact NumRet.bad HBAD.out HBL.out
            · have z2 : (((e.toNat : Int)) == 95) = false := byte_eqF 95 95 he
              have H1 := hide h1
              have HDR1 := hide hdr1
              have HE := hide he
              clear h1 hstep hdg hline hdr hdr1 hk' he
              go_wp2_with fail
              go_roundw
              case rel => exact ⟨_, rfl, k', true, ds, A, c, by omega, by go_num, by rw [HM.out], by rw [HM.out]; omega, HDB.out, by rw [HDR1.out]; exact H1.out, fun _ => ⟨_, _, HDR1.out, HE.out⟩, HIR.out, HBL.out⟩
              case measure => (simp [intOf]) <;> omega
        · have z0 : (((d.toNat : Int)) == 95) = false := byte_eqF 95 95 h95
          have hdig := fun W => rdigit_any d W
          obtain ⟨x, hx⟩ : ∃ x, digL d = x := ⟨_, rfl⟩
          rw [hx] at hdig
          rw [hx] at hstep
          have HDIG := hide hdig
          have x0 : (0 : Int) ≤ (x : Int) := by omega
          have hne : ¬ (d = 95 ∧ line = false) := fun h => h95 h.1
          by_cases hxb : 10 ≤ x
          · have hbad : numL S = .bad := by rw [HNM.out, hstep.2.1 hne hxb]
            have HBAD := hide hbad
            have x1 : (10 : Int) ≤ (x : Int) := by omega
            clear hbad hstep hdg hline hdr hdr1 hk' hx hdig h95 hne hxb
            go_wp2_with fail
            refine (HDIG.out _).mono ?_
            rintro e w' ⟨rfl, rfl⟩
            go_wp2_with fail
            go_ret2
            exact NumRet.bad HBAD.out HBL.out
          · have H1 := hide (hstep.2.2 hne (by omega))
            have HDR1 := hide hdr1
            have x1 : (x : Int) < 10 := by omega
            have hx99 : (x : Int) ≤ 15 := by omega
            have hbs : w.heap.size ≤ W.heap.size := HBL.out.size
            have hir := HIR.out
            unfold IRow at hir
            rw [HM.out] at hir
            have HO := hide hir
            have HDB2 : Hid (∀ y ∈ ds ++ [x], y < 10) := hide (by
              intro y hy
              rcases List.mem_append.1 hy with hy | hy
              · exact HDB.out y hy
              · rw [List.mem_singleton.1 hy]; omega)
            have m0 : (m : Int) ≤ 200 := by omega
            clear hstep hdg hline hdr hdr1 hk' hx hdig h95 hne hxb hir
            go_wp2_with fail
            refine (HDIG.out _).mono ?_
            rintro e w' ⟨rfl, rfl⟩
            go_wp2_with (first | (go_at_call 55; refine (HDIG.out _).mono ?_; rintro e w' ⟨rfl, hw⟩; rw [← hw]; clear hw) | (at_builtin; refine wpList_append_lies _ rfl _ _ _ rfl w.heap.size 3 ti _ 1 8 Tryd.underlying62 hti hz0 hz1 hz2 rfl (by omega) (.slice A m c) m (icells ds) rfl (HO.out.alloc _) ⟨W.heap.size, 0, none⟩ 1 1 [.int .i64 (x : Int)] rfl rfl (World.news_of_block (cs := #[.int .i64 (x : Int)]) (t := 3) (fr := (0, 0)) (heap_alloc_new W _)) (by simp [Value.oneCell']) (by omega) (by simp only [maxLen]; omega) (by omega) (by simp; omega) (W.heap.size + 1) (by simp) ?_; intro gg cc w9 hown1 hgrow hat hlt9; have hg1 := grow_of0 hgrow))
            have HI2 : Hid (IRow w.heap.size w9 (some ⟨gg, 0, none⟩) cc (ds ++ [x])) := hide (by
              unfold IRow
              rw [List.length_append, List.length_singleton, icells_append, HM.out]
              exact hown1)
            have HB3 : Hid (Below w.heap.size w w9) := hide (HBL.out.grown hg1 hbs (fun k hk => (own_lt' HO.out k hk).2))
            clear hown1 hgrow hat hlt9 hg1
            go_roundw
            case rel => exact ⟨_, rfl, k', false, ds ++ [x], _, _, by omega, by go_num, by rw [List.length_append, HM.out]; rfl, by rw [List.length_append, HM.out, List.length_singleton]; omega, HDB2.out, by rw [HDR1.out]; exact H1.out, (fun h => by cases h), HI2.out, HB3.out⟩
            case measure => (simp [intOf]) <;> omega
  · subst hg hc1
    have hnm := numL_match 48 R0 16 (S.drop 2) HLS.out HFC.out (by rw [← HSC.out]; exact hbase)
    rw [← HSC.out] at hnm
    have HNM := hide hnm
    have j1 : (1 : Int) ≤ (T.size : Int) := by omega
    clear hbase hnm hSc
    go_enter Tryd.func29, Tryd.ntmps29
    go_wp2_with fail
    go_loopw [6, 7] (fun s6 s7 W' => ∃ W, W = W' ∧ ∃ (k : Nat) (line : Bool) (ds : List Nat) (A : Option Addr) (c : Nat), k ≤ T.size ∧ s7 = .int .i64 (k : Int) ∧ s6 = .slice A ds.length c ∧ ds.length ≤ k ∧ (∀ d ∈ ds, d < 16) ∧ digsL 16 false (S.drop 2) = (digsL 16 line (S.drop k)).map (ds ++ ·) ∧ (line = true → ∃ d r, S.drop k = d :: r ∧ d ≠ 95) ∧ IRow w.heap.size W A c ds ∧ Below w.heap.size w W) (fun _ s7 _ => T.size - (intOf s7).toNat)
    case atStart =>
      refine ⟨_, rfl, 2, false, [], none, 0, by omega, rfl, rfl, Nat.zero_le _, (fun d h => by cases h), ?_, (fun h => by cases h), ⟨rfl, .inl ⟨rfl, rfl⟩⟩, Below.refl _ _⟩
      cases digsL 16 false (S.drop 2) <;> simp
    case round =>
      obtain ⟨W, rfl, k, line, ds, A, c, hk, rfl, rfl, hdk, hdb, hdg, hline, hir, hbl⟩ := hrel
      have HIR := hide hir; clear hir
      have HBL := hide hbl; clear hbl
      have HDB := hide hdb; clear hdb
      have k0 : (0 : Int) ≤ (k : Int) := by omega
      obtain ⟨m, hm⟩ : ∃ m, ds.length = m := ⟨_, rfl⟩
      have HM := hide hm
      rw [hm] at hdk
      rw [hm]
      clear hm
      cases hdr : S.drop k with
      | nil =>
        have hkn : ¬ (k : Int) < (T.size : Int) := by
          intro h
          have h2 : k < S.length := by have := HSZ.out; omega
          rw [List.drop_eq_getElem_cons h2] at hdr
          cases hdr
        rw [hdr] at hdg hline
        have hlf : line = false := by
          cases line with
          | false => rfl
          | true => obtain ⟨d, r, h, _⟩ := hline rfl; cases h
        subst hlf
        have hds : digsL 16 false (S.drop 2) = some ds := by rw [hdg]; simp [digsL]
        have hnum := HNM.out
        rw [hds] at hnum
        by_cases hm0 : m = 0
        · have hd0 : ds = [] := List.eq_nil_of_length_eq_zero (by rw [HM.out]; exact hm0)
          rw [hd0] at hnum
          have HN := hide hnum
          have z1 : (((m : Int)) == 0) = true := by rw [hm0]; rfl
          clear hnum hds hdg hline hdr hd0
          go_wp2_with fail
          go_ret2
          exact NumRet.bad HN.out HBL.out
        · have hnum2 : numL S = .ok (decS (valL 16 ds)) := by
            cases ds with
            | nil => exact absurd (by rw [← HM.out]; rfl) hm0
            | cons d ds => exact hnum
          have HN := hide hnum2
          have z1 : (((m : Int)) == 0) = false := by rw [beq_eq_false_iff_ne]; omega
          have hdec := decimal_any w.heap.size W A c ds 16 HIR.out (by rw [HM.out]; omega) (by rw [HM.out]; omega) HDB.out (by omega) (by omega)
          rw [HM.out] at hdec
          have HDEC := hide hdec
          clear hnum hnum2 hds hdg hline hdr hdec
          go_wp2_with fail
          refine (HDEC.out).mono ?_
          rintro e w9 ⟨rfl, hb9⟩
          have HB9 := hide (HBL.out.trans (hb9.mono HBL.out.size)); clear hb9
          go_wp2_with fail
          go_ret2
          exact NumRet.good HN.out HB9.out
      | cons d r =>
        obtain ⟨hkt, ed⟩ := byte_at_k HS.out hdr
        have k1 : (k : Int) < (T.size : Int) := by omega
        have hkS : k < S.length := by have := HSZ.out; omega
        have hdr1 : S.drop (k + 1) = r := by rw [← List.drop_drop, hdr]; rfl
        rw [hdr] at hdg hline
        have hstep := digs_step hdg (by omega)
        obtain ⟨k', hk'⟩ : ∃ k', k + 1 = k' := ⟨_, rfl⟩
        have hki : (k : Int) + 1 = (k' : Int) := by omega
        rw [hk'] at hdr1
        have HK' := hide hk'
        by_cases h95 : d = 95
        · have hlf : line = false := by
            cases line with
            | false => rfl
            | true =>
              obtain ⟨d', r', h, h2⟩ := hline rfl
              injection h with h _
              exact absurd (h ▸ h95) h2
          subst hlf h95
          have h1 := hstep.1 rfl rfl
          cases hr : r with
          | nil =>
            rw [hr] at h1 hdr1
            have hbad : numL S = .bad := by rw [HNM.out, h1]; rfl
            have HBAD := hide hbad
            have hke : k' = T.size := by
              have h9 := congrArg List.length hdr1
              rw [List.length_drop] at h9
              have := HSZ.out
              simp at h9
              omega
            have z1 : (((k' : Int)) == (T.size : Int)) = true := by rw [hke]; simp
            clear hbad h1 hstep hdg hline hdr hdr1 hke hk'
            go_wp2_with fail
            go_ret2
            exact NumRet.bad HBAD.out HBL.out
          | cons e r' =>
            rw [hr] at h1 hdr1
            obtain ⟨hkt', ee⟩ := byte_at_k HS.out hdr1
            have z1 : (((k' : Int)) == (T.size : Int)) = false := by rw [beq_eq_false_iff_ne]; omega
            have k3 : (k' : Int) < (T.size : Int) := by omega
            have k2 : (0 : Int) ≤ (k' : Int) := by omega
            by_cases he : e = 95
            · subst he
              have hbad : numL S = .bad := by rw [HNM.out, h1]; simp [digsL]; rfl
              have HBAD := hide hbad
              clear hbad h1 hstep hdg hline hdr hdr1 hk'
              go_wp2_with fail
              go_ret2
              exact NumRet.bad HBAD.out HBL.out
            · have z2 : (((e.toNat : Int)) == 95) = false := byte_eqF 95 95 he
              have H1 := hide h1
              have HDR1 := hide hdr1
              have HE := hide he
              clear h1 hstep hdg hline hdr hdr1 hk' he
              go_wp2_with fail
              go_roundw
              case rel => exact ⟨_, rfl, k', true, ds, A, c, by omega, by go_num, by rw [HM.out], by rw [HM.out]; omega, HDB.out, by rw [HDR1.out]; exact H1.out, fun _ => ⟨_, _, HDR1.out, HE.out⟩, HIR.out, HBL.out⟩
              case measure => (simp [intOf]) <;> omega
        · have z0 : (((d.toNat : Int)) == 95) = false := byte_eqF 95 95 h95
          have hdig := fun W => rdigit_any d W
          obtain ⟨x, hx⟩ : ∃ x, digL d = x := ⟨_, rfl⟩
          rw [hx] at hdig
          rw [hx] at hstep
          have HDIG := hide hdig
          have x0 : (0 : Int) ≤ (x : Int) := by omega
          have hne : ¬ (d = 95 ∧ line = false) := fun h => h95 h.1
          by_cases hxb : 16 ≤ x
          · have hbad : numL S = .bad := by rw [HNM.out, hstep.2.1 hne hxb]
            have HBAD := hide hbad
            have x1 : (16 : Int) ≤ (x : Int) := by omega
            clear hbad hstep hdg hline hdr hdr1 hk' hx hdig h95 hne hxb
            go_wp2_with fail
            refine (HDIG.out _).mono ?_
            rintro e w' ⟨rfl, rfl⟩
            go_wp2_with fail
            go_ret2
            exact NumRet.bad HBAD.out HBL.out
          · have H1 := hide (hstep.2.2 hne (by omega))
            have HDR1 := hide hdr1
            have x1 : (x : Int) < 16 := by omega
            have hx99 : (x : Int) ≤ 15 := by omega
            have hbs : w.heap.size ≤ W.heap.size := HBL.out.size
            have hir := HIR.out
            unfold IRow at hir
            rw [HM.out] at hir
            have HO := hide hir
            have HDB2 : Hid (∀ y ∈ ds ++ [x], y < 16) := hide (by
              intro y hy
              rcases List.mem_append.1 hy with hy | hy
              · exact HDB.out y hy
              · rw [List.mem_singleton.1 hy]; omega)
            have m0 : (m : Int) ≤ 200 := by omega
            clear hstep hdg hline hdr hdr1 hk' hx hdig h95 hne hxb hir
            go_wp2_with fail
            refine (HDIG.out _).mono ?_
            rintro e w' ⟨rfl, rfl⟩
            go_wp2_with (first | (go_at_call 55; refine (HDIG.out _).mono ?_; rintro e w' ⟨rfl, hw⟩; rw [← hw]; clear hw) | (at_builtin; refine wpList_append_lies _ rfl _ _ _ rfl w.heap.size 3 ti _ 1 8 Tryd.underlying62 hti hz0 hz1 hz2 rfl (by omega) (.slice A m c) m (icells ds) rfl (HO.out.alloc _) ⟨W.heap.size, 0, none⟩ 1 1 [.int .i64 (x : Int)] rfl rfl (World.news_of_block (cs := #[.int .i64 (x : Int)]) (t := 3) (fr := (0, 0)) (heap_alloc_new W _)) (by simp [Value.oneCell']) (by omega) (by simp only [maxLen]; omega) (by omega) (by simp; omega) (W.heap.size + 1) (by simp) ?_; intro gg cc w9 hown1 hgrow hat hlt9; have hg1 := grow_of0 hgrow))
            have HI2 : Hid (IRow w.heap.size w9 (some ⟨gg, 0, none⟩) cc (ds ++ [x])) := hide (by
              unfold IRow
              rw [List.length_append, List.length_singleton, icells_append, HM.out]
              exact hown1)
            have HB3 : Hid (Below w.heap.size w w9) := hide (HBL.out.grown hg1 hbs (fun k hk => (own_lt' HO.out k hk).2))
            clear hown1 hgrow hat hlt9 hg1
            go_roundw
            case rel => exact ⟨_, rfl, k', false, ds ++ [x], _, _, by omega, by go_num, by rw [List.length_append, HM.out]; rfl, by rw [List.length_append, HM.out, List.length_singleton]; omega, HDB2.out, by rw [HDR1.out]; exact H1.out, (fun h => by cases h), HI2.out, HB3.out⟩
            case measure => (simp [intOf]) <;> omega
  · subst hg hc1
    have hnm := numL_match 48 R0 16 (S.drop 2) HLS.out HFC.out (by rw [← HSC.out]; exact hbase)
    rw [← HSC.out] at hnm
    have HNM := hide hnm
    have j1 : (1 : Int) ≤ (T.size : Int) := by omega
    clear hbase hnm hSc
    go_enter Tryd.func29, Tryd.ntmps29
    go_wp2_with fail
    go_loopw [6, 7] (fun s6 s7 W' => ∃ W, W = W' ∧ ∃ (k : Nat) (line : Bool) (ds : List Nat) (A : Option Addr) (c : Nat), k ≤ T.size ∧ s7 = .int .i64 (k : Int) ∧ s6 = .slice A ds.length c ∧ ds.length ≤ k ∧ (∀ d ∈ ds, d < 16) ∧ digsL 16 false (S.drop 2) = (digsL 16 line (S.drop k)).map (ds ++ ·) ∧ (line = true → ∃ d r, S.drop k = d :: r ∧ d ≠ 95) ∧ IRow w.heap.size W A c ds ∧ Below w.heap.size w W) (fun _ s7 _ => T.size - (intOf s7).toNat)
    case atStart =>
      refine ⟨_, rfl, 2, false, [], none, 0, by omega, rfl, rfl, Nat.zero_le _, (fun d h => by cases h), ?_, (fun h => by cases h), ⟨rfl, .inl ⟨rfl, rfl⟩⟩, Below.refl _ _⟩
      cases digsL 16 false (S.drop 2) <;> simp
    case round =>
      obtain ⟨W, rfl, k, line, ds, A, c, hk, rfl, rfl, hdk, hdb, hdg, hline, hir, hbl⟩ := hrel
      have HIR := hide hir; clear hir
      have HBL := hide hbl; clear hbl
      have HDB := hide hdb; clear hdb
      have k0 : (0 : Int) ≤ (k : Int) := by omega
      obtain ⟨m, hm⟩ : ∃ m, ds.length = m := ⟨_, rfl⟩
      have HM := hide hm
      rw [hm] at hdk
      rw [hm]
      clear hm
      cases hdr : S.drop k with
      | nil =>
        have hkn : ¬ (k : Int) < (T.size : Int) := by
          intro h
          have h2 : k < S.length := by have := HSZ.out; omega
          rw [List.drop_eq_getElem_cons h2] at hdr
          cases hdr
        rw [hdr] at hdg hline
        have hlf : line = false := by
          cases line with
          | false => rfl
          | true => obtain ⟨d, r, h, _⟩ := hline rfl; cases h
        subst hlf
        have hds : digsL 16 false (S.drop 2) = some ds := by rw [hdg]; simp [digsL]
        have hnum := HNM.out
        rw [hds] at hnum
        by_cases hm0 : m = 0
        · have hd0 : ds = [] := List.eq_nil_of_length_eq_zero (by rw [HM.out]; exact hm0)
          rw [hd0] at hnum
          have HN := hide hnum
          have z1 : (((m : Int)) == 0) = true := by rw [hm0]; rfl
          clear hnum hds hdg hline hdr hd0
          go_wp2_with fail
          go_ret2
          exact NumRet.bad HN.out HBL.out
        · have hnum2 : numL S = .ok (decS (valL 16 ds)) := by
            cases ds with
            | nil => exact absurd (by rw [← HM.out]; rfl) hm0
            | cons d ds => exact hnum
          have HN := hide hnum2
          have z1 : (((m : Int)) == 0) = false := by rw [beq_eq_false_iff_ne]; omega
          have hdec := decimal_any w.heap.size W A c ds 16 HIR.out (by rw [HM.out]; omega) (by rw [HM.out]; omega) HDB.out (by omega) (by omega)
          rw [HM.out] at hdec
          have HDEC := hide hdec
          clear hnum hnum2 hds hdg hline hdr hdec
          go_wp2_with fail
          refine (HDEC.out).mono ?_
          rintro e w9 ⟨rfl, hb9⟩
          have HB9 := hide (HBL.out.trans (hb9.mono HBL.out.size)); clear hb9
          go_wp2_with fail
          go_ret2
          exact NumRet.good HN.out HB9.out
      | cons d r =>
        obtain ⟨hkt, ed⟩ := byte_at_k HS.out hdr
        have k1 : (k : Int) < (T.size : Int) := by omega
        have hkS : k < S.length := by have := HSZ.out; omega
        have hdr1 : S.drop (k + 1) = r := by rw [← List.drop_drop, hdr]; rfl
        rw [hdr] at hdg hline
        have hstep := digs_step hdg (by omega)
        obtain ⟨k', hk'⟩ : ∃ k', k + 1 = k' := ⟨_, rfl⟩
        have hki : (k : Int) + 1 = (k' : Int) := by omega
        rw [hk'] at hdr1
        have HK' := hide hk'
        by_cases h95 : d = 95
        · have hlf : line = false := by
            cases line with
            | false => rfl
            | true =>
              obtain ⟨d', r', h, h2⟩ := hline rfl
              injection h with h _
              exact absurd (h ▸ h95) h2
          subst hlf h95
          have h1 := hstep.1 rfl rfl
          cases hr : r with
          | nil =>
            rw [hr] at h1 hdr1
            have hbad : numL S = .bad := by rw [HNM.out, h1]; rfl
            have HBAD := hide hbad
            have hke : k' = T.size := by
              have h9 := congrArg List.length hdr1
              rw [List.length_drop] at h9
              have := HSZ.out
              simp at h9
              omega
            have z1 : (((k' : Int)) == (T.size : Int)) = true := by rw [hke]; simp
            clear hbad h1 hstep hdg hline hdr hdr1 hke hk'
            go_wp2_with fail
            go_ret2
            exact NumRet.bad HBAD.out HBL.out
          | cons e r' =>
            rw [hr] at h1 hdr1
            obtain ⟨hkt', ee⟩ := byte_at_k HS.out hdr1
            have z1 : (((k' : Int)) == (T.size : Int)) = false := by rw [beq_eq_false_iff_ne]; omega
            have k3 : (k' : Int) < (T.size : Int) := by omega
            have k2 : (0 : Int) ≤ (k' : Int) := by omega
            by_cases he : e = 95
            · subst he
              have hbad : numL S = .bad := by rw [HNM.out, h1]; simp [digsL]; rfl
              have HBAD := hide hbad
              clear hbad h1 hstep hdg hline hdr hdr1 hk'
              go_wp2_with fail
              go_ret2
              exact NumRet.bad HBAD.out HBL.out
            · have z2 : (((e.toNat : Int)) == 95) = false := byte_eqF 95 95 he
              have H1 := hide h1
              have HDR1 := hide hdr1
              have HE := hide he
              clear h1 hstep hdg hline hdr hdr1 hk' he
              go_wp2_with fail
              go_roundw
              case rel => exact ⟨_, rfl, k', true, ds, A, c, by omega, by go_num, by rw [HM.out], by rw [HM.out]; omega, HDB.out, by rw [HDR1.out]; exact H1.out, fun _ => ⟨_, _, HDR1.out, HE.out⟩, HIR.out, HBL.out⟩
              case measure => (simp [intOf]) <;> omega
        · have z0 : (((d.toNat : Int)) == 95) = false := byte_eqF 95 95 h95
          have hdig := fun W => rdigit_any d W
          obtain ⟨x, hx⟩ : ∃ x, digL d = x := ⟨_, rfl⟩
          rw [hx] at hdig
          rw [hx] at hstep
          have HDIG := hide hdig
          have x0 : (0 : Int) ≤ (x : Int) := by omega
          have hne : ¬ (d = 95 ∧ line = false) := fun h => h95 h.1
          by_cases hxb : 16 ≤ x
          · have hbad : numL S = .bad := by rw [HNM.out, hstep.2.1 hne hxb]
            have HBAD := hide hbad
            have x1 : (16 : Int) ≤ (x : Int) := by omega
            clear hbad hstep hdg hline hdr hdr1 hk' hx hdig h95 hne hxb
            go_wp2_with fail
            refine (HDIG.out _).mono ?_
            rintro e w' ⟨rfl, rfl⟩
            go_wp2_with fail
            go_ret2
            exact NumRet.bad HBAD.out HBL.out
          · have H1 := hide (hstep.2.2 hne (by omega))
            have HDR1 := hide hdr1
            have x1 : (x : Int) < 16 := by omega
            have hx99 : (x : Int) ≤ 15 := by omega
            have hbs : w.heap.size ≤ W.heap.size := HBL.out.size
            have hir := HIR.out
            unfold IRow at hir
            rw [HM.out] at hir
            have HO := hide hir
            have HDB2 : Hid (∀ y ∈ ds ++ [x], y < 16) := hide (by
              intro y hy
              rcases List.mem_append.1 hy with hy | hy
              · exact HDB.out y hy
              · rw [List.mem_singleton.1 hy]; omega)
            have m0 : (m : Int) ≤ 200 := by omega
            clear hstep hdg hline hdr hdr1 hk' hx hdig h95 hne hxb hir
            go_wp2_with fail
            refine (HDIG.out _).mono ?_
            rintro e w' ⟨rfl, rfl⟩
            go_wp2_with (first | (go_at_call 55; refine (HDIG.out _).mono ?_; rintro e w' ⟨rfl, hw⟩; rw [← hw]; clear hw) | (at_builtin; refine wpList_append_lies _ rfl _ _ _ rfl w.heap.size 3 ti _ 1 8 Tryd.underlying62 hti hz0 hz1 hz2 rfl (by omega) (.slice A m c) m (icells ds) rfl (HO.out.alloc _) ⟨W.heap.size, 0, none⟩ 1 1 [.int .i64 (x : Int)] rfl rfl (World.news_of_block (cs := #[.int .i64 (x : Int)]) (t := 3) (fr := (0, 0)) (heap_alloc_new W _)) (by simp [Value.oneCell']) (by omega) (by simp only [maxLen]; omega) (by omega) (by simp; omega) (W.heap.size + 1) (by simp) ?_; intro gg cc w9 hown1 hgrow hat hlt9; have hg1 := grow_of0 hgrow))
            have HI2 : Hid (IRow w.heap.size w9 (some ⟨gg, 0, none⟩) cc (ds ++ [x])) := hide (by
              unfold IRow
              rw [List.length_append, List.length_singleton, icells_append, HM.out]
              exact hown1)
            have HB3 : Hid (Below w.heap.size w w9) := hide (HBL.out.grown hg1 hbs (fun k hk => (own_lt' HO.out k hk).2))
            clear hown1 hgrow hat hlt9 hg1
            go_roundw
            case rel => exact ⟨_, rfl, k', false, ds ++ [x], _, _, by omega, by go_num, by rw [List.length_append, HM.out]; rfl, by rw [List.length_append, HM.out, List.length_singleton]; omega, HDB2.out, by rw [HDR1.out]; exact H1.out, (fun h => by cases h), HI2.out, HB3.out⟩
            case measure => (simp [intOf]) <;> omega
  · subst hg hc1
    have hnm := numL_match 48 R0 2 (S.drop 2) HLS.out HFC.out (by rw [← HSC.out]; exact hbase)
    rw [← HSC.out] at hnm
    have HNM := hide hnm
    have j1 : (1 : Int) ≤ (T.size : Int) := by omega
    clear hbase hnm hSc
    go_enter Tryd.func29, Tryd.ntmps29
    go_wp2_with fail
    go_loopw [6, 7] (fun s6 s7 W' => ∃ W, W = W' ∧ ∃ (k : Nat) (line : Bool) (ds : List Nat) (A : Option Addr) (c : Nat), k ≤ T.size ∧ s7 = .int .i64 (k : Int) ∧ s6 = .slice A ds.length c ∧ ds.length ≤ k ∧ (∀ d ∈ ds, d < 2) ∧ digsL 2 false (S.drop 2) = (digsL 2 line (S.drop k)).map (ds ++ ·) ∧ (line = true → ∃ d r, S.drop k = d :: r ∧ d ≠ 95) ∧ IRow w.heap.size W A c ds ∧ Below w.heap.size w W) (fun _ s7 _ => T.size - (intOf s7).toNat)
    case atStart =>
      refine ⟨_, rfl, 2, false, [], none, 0, by omega, rfl, rfl, Nat.zero_le _, (fun d h => by cases h), ?_, (fun h => by cases h), ⟨rfl, .inl ⟨rfl, rfl⟩⟩, Below.refl _ _⟩
      cases digsL 2 false (S.drop 2) <;> simp
    case round =>
      obtain ⟨W, rfl, k, line, ds, A, c, hk, rfl, rfl, hdk, hdb, hdg, hline, hir, hbl⟩ := hrel
      have HIR := hide hir; clear hir
      have HBL := hide hbl; clear hbl
      have HDB := hide hdb; clear hdb
      have k0 : (0 : Int) ≤ (k : Int) := by omega
      obtain ⟨m, hm⟩ : ∃ m, ds.length = m := ⟨_, rfl⟩
      have HM := hide hm
      rw [hm] at hdk
      rw [hm]
      clear hm
      cases hdr : S.drop k with
      | nil =>
        have hkn : ¬ (k : Int) < (T.size : Int) := by
          intro h
          have h2 : k < S.length := by have := HSZ.out; omega
          rw [List.drop_eq_getElem_cons h2] at hdr
          cases hdr
        rw [hdr] at hdg hline
        have hlf : line = false := by
          cases line with
          | false => rfl
          | true => obtain ⟨d, r, h, _⟩ := hline rfl; cases h
        subst hlf
        have hds : digsL 2 false (S.drop 2) = some ds := by rw [hdg]; simp [digsL]
        have hnum := HNM.out
        rw [hds] at hnum
        by_cases hm0 : m = 0
        · have hd0 : ds = [] := List.eq_nil_of_length_eq_zero (by rw [HM.out]; exact hm0)
          rw [hd0] at hnum
          have HN := hide hnum
          have z1 : (((m : Int)) == 0) = true := by rw [hm0]; rfl
          clear hnum hds hdg hline hdr hd0
          go_wp2_with fail
          go_ret2
          exact NumRet.bad HN.out HBL.out
        · have hnum2 : numL S = .ok (decS (valL 2 ds)) := by
            cases ds with
            | nil => exact absurd (by rw [← HM.out]; rfl) hm0
            | cons d ds => exact hnum
          have HN := hide hnum2
          have z1 : (((m : Int)) == 0) = false := by rw [beq_eq_false_iff_ne]; omega
          have hdec := decimal_any w.heap.size W A c ds 2 HIR.out (by rw [HM.out]; omega) (by rw [HM.out]; omega) HDB.out (by omega) (by omega)
          rw [HM.out] at hdec
          have HDEC := hide hdec
          clear hnum hnum2 hds hdg hline hdr hdec
          go_wp2_with fail
          refine (HDEC.out).mono ?_
          rintro e w9 ⟨rfl, hb9⟩
          have HB9 := hide (HBL.out.trans (hb9.mono HBL.out.size)); clear hb9
          go_wp2_with fail
          go_ret2
          exact NumRet.good HN.out HB9.out
      | cons d r =>
        obtain ⟨hkt, ed⟩ := byte_at_k HS.out hdr
        have k1 : (k : Int) < (T.size : Int) := by omega
        have hkS : k < S.length := by have := HSZ.out; omega
        have hdr1 : S.drop (k + 1) = r := by rw [← List.drop_drop, hdr]; rfl
        rw [hdr] at hdg hline
        have hstep := digs_step hdg (by omega)
        obtain ⟨k', hk'⟩ : ∃ k', k + 1 = k' := ⟨_, rfl⟩
        have hki : (k : Int) + 1 = (k' : Int) := by omega
        rw [hk'] at hdr1
        have HK' := hide hk'
        by_cases h95 : d = 95
        · have hlf : line = false := by
            cases line with
            | false => rfl
            | true =>
              obtain ⟨d', r', h, h2⟩ := hline rfl
              injection h with h _
              exact absurd (h ▸ h95) h2
          subst hlf h95
          have h1 := hstep.1 rfl rfl
          cases hr : r with
          | nil =>
            rw [hr] at h1 hdr1
            have hbad : numL S = .bad := by rw [HNM.out, h1]; rfl
            have HBAD := hide hbad
            have hke : k' = T.size := by
              have h9 := congrArg List.length hdr1
              rw [List.length_drop] at h9
              have := HSZ.out
              simp at h9
              omega
            have z1 : (((k' : Int)) == (T.size : Int)) = true := by rw [hke]; simp
            clear hbad h1 hstep hdg hline hdr hdr1 hke hk'
            go_wp2_with fail
            go_ret2
            exact NumRet.bad HBAD.out HBL.out
          | cons e r' =>
            rw [hr] at h1 hdr1
            obtain ⟨hkt', ee⟩ := byte_at_k HS.out hdr1
            have z1 : (((k' : Int)) == (T.size : Int)) = false := by rw [beq_eq_false_iff_ne]; omega
            have k3 : (k' : Int) < (T.size : Int) := by omega
            have k2 : (0 : Int) ≤ (k' : Int) := by omega
            by_cases he : e = 95
            · subst he
              have hbad : numL S = .bad := by rw [HNM.out, h1]; simp [digsL]; rfl
              have HBAD := hide hbad
              clear hbad h1 hstep hdg hline hdr hdr1 hk'
              go_wp2_with fail
              go_ret2
              exact NumRet.bad HBAD.out HBL.out
            · have z2 : (((e.toNat : Int)) == 95) = false := byte_eqF 95 95 he
              have H1 := hide h1
              have HDR1 := hide hdr1
              have HE := hide he
              clear h1 hstep hdg hline hdr hdr1 hk' he
              go_wp2_with fail
              go_roundw
              case rel => exact ⟨_, rfl, k', true, ds, A, c, by omega, by go_num, by rw [HM.out], by rw [HM.out]; omega, HDB.out, by rw [HDR1.out]; exact H1.out, fun _ => ⟨_, _, HDR1.out, HE.out⟩, HIR.out, HBL.out⟩
              case measure => (simp [intOf]) <;> omega
        · have z0 : (((d.toNat : Int)) == 95) = false := byte_eqF 95 95 h95
          have hdig := fun W => rdigit_any d W
          obtain ⟨x, hx⟩ : ∃ x, digL d = x := ⟨_, rfl⟩
          rw [hx] at hdig
          rw [hx] at hstep
          have HDIG := hide hdig
          have x0 : (0 : Int) ≤ (x : Int) := by omega
          have hne : ¬ (d = 95 ∧ line = false) := fun h => h95 h.1
          by_cases hxb : 2 ≤ x
          · have hbad : numL S = .bad := by rw [HNM.out, hstep.2.1 hne hxb]
            have HBAD := hide hbad
            have x1 : (2 : Int) ≤ (x : Int) := by omega
            clear hbad hstep hdg hline hdr hdr1 hk' hx hdig h95 hne hxb
            go_wp2_with fail
            refine (HDIG.out _).mono ?_
            rintro e w' ⟨rfl, rfl⟩
            go_wp2_with fail
            go_ret2
            exact NumRet.bad HBAD.out HBL.out
          · have H1 := hide (hstep.2.2 hne (by omega))
            have HDR1 := hide hdr1
            have x1 : (x : Int) < 2 := by omega
            have hx99 : (x : Int) ≤ 15 := by omega
            have hbs : w.heap.size ≤ W.heap.size := HBL.out.size
            have hir := HIR.out
            unfold IRow at hir
            rw [HM.out] at hir
            have HO := hide hir
            have HDB2 : Hid (∀ y ∈ ds ++ [x], y < 2) := hide (by
              intro y hy
              rcases List.mem_append.1 hy with hy | hy
              · exact HDB.out y hy
              · rw [List.mem_singleton.1 hy]; omega)
            have m0 : (m : Int) ≤ 200 := by omega
            clear hstep hdg hline hdr hdr1 hk' hx hdig h95 hne hxb hir
            go_wp2_with fail
            refine (HDIG.out _).mono ?_
            rintro e w' ⟨rfl, rfl⟩
            go_wp2_with (first | (go_at_call 55; refine (HDIG.out _).mono ?_; rintro e w' ⟨rfl, hw⟩; rw [← hw]; clear hw) | (at_builtin; refine wpList_append_lies _ rfl _ _ _ rfl w.heap.size 3 ti _ 1 8 Tryd.underlying62 hti hz0 hz1 hz2 rfl (by omega) (.slice A m c) m (icells ds) rfl (HO.out.alloc _) ⟨W.heap.size, 0, none⟩ 1 1 [.int .i64 (x : Int)] rfl rfl (World.news_of_block (cs := #[.int .i64 (x : Int)]) (t := 3) (fr := (0, 0)) (heap_alloc_new W _)) (by simp [Value.oneCell']) (by omega) (by simp only [maxLen]; omega) (by omega) (by simp; omega) (W.heap.size + 1) (by simp) ?_; intro gg cc w9 hown1 hgrow hat hlt9; have hg1 := grow_of0 hgrow))
            have HI2 : Hid (IRow w.heap.size w9 (some ⟨gg, 0, none⟩) cc (ds ++ [x])) := hide (by
              unfold IRow
              rw [List.length_append, List.length_singleton, icells_append, HM.out]
              exact hown1)
            have HB3 : Hid (Below w.heap.size w w9) := hide (HBL.out.grown hg1 hbs (fun k hk => (own_lt' HO.out k hk).2))
            clear hown1 hgrow hat hlt9 hg1
            go_roundw
            case rel => exact ⟨_, rfl, k', false, ds ++ [x], _, _, by omega, by go_num, by rw [List.length_append, HM.out]; rfl, by rw [List.length_append, HM.out, List.length_singleton]; omega, HDB2.out, by rw [HDR1.out]; exact H1.out, (fun h => by cases h), HI2.out, HB3.out⟩
            case measure => (simp [intOf]) <;> omega
  · subst hg hc1
    have hnm := numL_match 48 R0 2 (S.drop 2) HLS.out HFC.out (by rw [← HSC.out]; exact hbase)
    rw [← HSC.out] at hnm
    have HNM := hide hnm
    have j1 : (1 : Int) ≤ (T.size : Int) := by omega
    clear hbase hnm hSc
    go_enter Tryd.func29, Tryd.ntmps29
    go_wp2_with fail
    go_loopw [6, 7] (fun s6 s7 W' => ∃ W, W = W' ∧ ∃ (k : Nat) (line : Bool) (ds : List Nat) (A : Option Addr) (c : Nat), k ≤ T.size ∧ s7 = .int .i64 (k : Int) ∧ s6 = .slice A ds.length c ∧ ds.length ≤ k ∧ (∀ d ∈ ds, d < 2) ∧ digsL 2 false (S.drop 2) = (digsL 2 line (S.drop k)).map (ds ++ ·) ∧ (line = true → ∃ d r, S.drop k = d :: r ∧ d ≠ 95) ∧ IRow w.heap.size W A c ds ∧ Below w.heap.size w W) (fun _ s7 _ => T.size - (intOf s7).toNat)
    case atStart =>
      refine ⟨_, rfl, 2, false, [], none, 0, by omega, rfl, rfl, Nat.zero_le _, (fun d h => by cases h), ?_, (fun h => by cases h), ⟨rfl, .inl ⟨rfl, rfl⟩⟩, Below.refl _ _⟩
      cases digsL 2 false (S.drop 2) <;> simp
    case round =>
      obtain ⟨W, rfl, k, line, ds, A, c, hk, rfl, rfl, hdk, hdb, hdg, hline, hir, hbl⟩ := hrel
      have HIR := hide hir; clear hir
      have HBL := hide hbl; clear hbl
      have HDB := hide hdb; clear hdb
      have k0 : (0 : Int) ≤ (k : Int) := by omega
      obtain ⟨m, hm⟩ : ∃ m, ds.length = m := ⟨_, rfl⟩
      have HM := hide hm
      rw [hm] at hdk
      rw [hm]
      clear hm
      cases hdr : S.drop k with
      | nil =>
        have hkn : ¬ (k : Int) < (T.size : Int) := by
          intro h
          have h2 : k < S.length := by have := HSZ.out; omega
          rw [List.drop_eq_getElem_cons h2] at hdr
          cases hdr
        rw [hdr] at hdg hline
        have hlf : line = false := by
          cases line with
          | false => rfl
          | true => obtain ⟨d, r, h, _⟩ := hline rfl; cases h
        subst hlf
        have hds : digsL 2 false (S.drop 2) = some ds := by rw [hdg]; simp [digsL]
        have hnum := HNM.out
        rw [hds] at hnum
        by_cases hm0 : m = 0
        · have hd0 : ds = [] := List.eq_nil_of_length_eq_zero (by rw [HM.out]; exact hm0)
          rw [hd0] at hnum
          have HN := hide hnum
          have z1 : (((m : Int)) == 0) = true := by rw [hm0]; rfl
          clear hnum hds hdg hline hdr hd0
          go_wp2_with fail
          go_ret2
          exact NumRet.bad HN.out HBL.out
        · have hnum2 : numL S = .ok (decS (valL 2 ds)) := by
            cases ds with
            | nil => exact absurd (by rw [← HM.out]; rfl) hm0
            | cons d ds => exact hnum
          have HN := hide hnum2
          have z1 : (((m : Int)) == 0) = false := by rw [beq_eq_false_iff_ne]; omega
          have hdec := decimal_any w.heap.size W A c ds 2 HIR.out (by rw [HM.out]; omega) (by rw [HM.out]; omega) HDB.out (by omega) (by omega)
          rw [HM.out] at hdec
          have HDEC := hide hdec
          clear hnum hnum2 hds hdg hline hdr hdec
          go_wp2_with fail
          refine (HDEC.out).mono ?_
          rintro e w9 ⟨rfl, hb9⟩
          have HB9 := hide (HBL.out.trans (hb9.mono HBL.out.size)); clear hb9
          go_wp2_with fail
          go_ret2
          exact NumRet.good HN.out HB9.out
      | cons d r =>
        obtain ⟨hkt, ed⟩ := byte_at_k HS.out hdr
        have k1 : (k : Int) < (T.size : Int) := by omega
        have hkS : k < S.length := by have := HSZ.out; omega
        have hdr1 : S.drop (k + 1) = r := by rw [← List.drop_drop, hdr]; rfl
        rw [hdr] at hdg hline
        have hstep := digs_step hdg (by omega)
        obtain ⟨k', hk'⟩ : ∃ k', k + 1 = k' := ⟨_, rfl⟩
        have hki : (k : Int) + 1 = (k' : Int) := by omega
        rw [hk'] at hdr1
        have HK' := hide hk'
        by_cases h95 : d = 95
        · have hlf : line = false := by
            cases line with
            | false => rfl
            | true =>
              obtain ⟨d', r', h, h2⟩ := hline rfl
              injection h with h _
              exact absurd (h ▸ h95) h2
          subst hlf h95
          have h1 := hstep.1 rfl rfl
          cases hr : r with
          | nil =>
            rw [hr] at h1 hdr1
            have hbad : numL S = .bad := by rw [HNM.out, h1]; rfl
            have HBAD := hide hbad
            have hke : k' = T.size := by
              have h9 := congrArg List.length hdr1
              rw [List.length_drop] at h9
              have := HSZ.out
              simp at h9
              omega
            have z1 : (((k' : Int)) == (T.size : Int)) = true := by rw [hke]; simp
            clear hbad h1 hstep hdg hline hdr hdr1 hke hk'
            go_wp2_with fail
            go_ret2
            exact NumRet.bad HBAD.out HBL.out
          | cons e r' =>
            rw [hr] at h1 hdr1
            obtain ⟨hkt', ee⟩ := byte_at_k HS.out hdr1
            have z1 : (((k' : Int)) == (T.size : Int)) = false := by rw [beq_eq_false_iff_ne]; omega
            have k3 : (k' : Int) < (T.size : Int) := by omega
            have k2 : (0 : Int) ≤ (k' : Int) := by omega
            by_cases he : e = 95
            · subst he
              have hbad : numL S = .bad := by rw [HNM.out, h1]; simp [digsL]; rfl
              have HBAD := hide hbad
              clear hbad h1 hstep hdg hline hdr hdr1 hk'
              go_wp2_with fail
              go_ret2
              exact NumRet.bad HBAD.out HBL.out
            · have z2 : (((e.toNat : Int)) == 95) = false := byte_eqF 95 95 he
              have H1 := hide h1
              have HDR1 := hide hdr1
              have HE := hide he
              clear h1 hstep hdg hline hdr hdr1 hk' he
              go_wp2_with fail
              go_roundw
              case rel => exact ⟨_, rfl, k', true, ds, A, c, by omega, by go_num, by rw [HM.out], by rw [HM.out]; omega, HDB.out, by rw [HDR1.out]; exact H1.out, fun _ => ⟨_, _, HDR1.out, HE.out⟩, HIR.out, HBL.out⟩
              case measure => (simp [intOf]) <;> omega
        · have z0 : (((d.toNat : Int)) == 95) = false := byte_eqF 95 95 h95
          have hdig := fun W => rdigit_any d W
          obtain ⟨x, hx⟩ : ∃ x, digL d = x := ⟨_, rfl⟩
          rw [hx] at hdig
          rw [hx] at hstep
          have HDIG := hide hdig
          have x0 : (0 : Int) ≤ (x : Int) := by omega
          have hne : ¬ (d = 95 ∧ line = false) := fun h => h95 h.1
          by_cases hxb : 2 ≤ x
          · have hbad : numL S = .bad := by rw [HNM.out, hstep.2.1 hne hxb]
            have HBAD := hide hbad
            have x1 : (2 : Int) ≤ (x : Int) := by omega
            clear hbad hstep hdg hline hdr hdr1 hk' hx hdig h95 hne hxb
            go_wp2_with fail
            refine (HDIG.out _).mono ?_
            rintro e w' ⟨rfl, rfl⟩
            go_wp2_with fail
            go_ret2
            exact NumRet.bad HBAD.out HBL.out
          · have H1 := hide (hstep.2.2 hne (by omega))
            have HDR1 := hide hdr1
            have x1 : (x : Int) < 2 := by omega
            have hx99 : (x : Int) ≤ 15 := by omega
            have hbs : w.heap.size ≤ W.heap.size := HBL.out.size
            have hir := HIR.out
            unfold IRow at hir
            rw [HM.out] at hir
            have HO := hide hir
            have HDB2 : Hid (∀ y ∈ ds ++ [x], y < 2) := hide (by
              intro y hy
              rcases List.mem_append.1 hy with hy | hy
              · exact HDB.out y hy
              · rw [List.mem_singleton.1 hy]; omega)
            have m0 : (m : Int) ≤ 200 := by omega
            clear hstep hdg hline hdr hdr1 hk' hx hdig h95 hne hxb hir
            go_wp2_with fail
            refine (HDIG.out _).mono ?_
            rintro e w' ⟨rfl, rfl⟩
            go_wp2_with (first | (go_at_call 55; refine (HDIG.out _).mono ?_; rintro e w' ⟨rfl, hw⟩; rw [← hw]; clear hw) | (at_builtin; refine wpList_append_lies _ rfl _ _ _ rfl w.heap.size 3 ti _ 1 8 Tryd.underlying62 hti hz0 hz1 hz2 rfl (by omega) (.slice A m c) m (icells ds) rfl (HO.out.alloc _) ⟨W.heap.size, 0, none⟩ 1 1 [.int .i64 (x : Int)] rfl rfl (World.news_of_block (cs := #[.int .i64 (x : Int)]) (t := 3) (fr := (0, 0)) (heap_alloc_new W _)) (by simp [Value.oneCell']) (by omega) (by simp only [maxLen]; omega) (by omega) (by simp; omega) (W.heap.size + 1) (by simp) ?_; intro gg cc w9 hown1 hgrow hat hlt9; have hg1 := grow_of0 hgrow))
            have HI2 : Hid (IRow w.heap.size w9 (some ⟨gg, 0, none⟩) cc (ds ++ [x])) := hide (by
              unfold IRow
              rw [List.length_append, List.length_singleton, icells_append, HM.out]
              exact hown1)
            have HB3 : Hid (Below w.heap.size w w9) := hide (HBL.out.grown hg1 hbs (fun k hk => (own_lt' HO.out k hk).2))
            clear hown1 hgrow hat hlt9 hg1
            go_roundw
            case rel => exact ⟨_, rfl, k', false, ds ++ [x], _, _, by omega, by go_num, by rw [List.length_append, HM.out]; rfl, by rw [List.length_append, HM.out, List.length_singleton]; omega, HDB2.out, by rw [HDR1.out]; exact H1.out, (fun h => by cases h), HI2.out, HB3.out⟩
            case measure => (simp [intOf]) <;> omega
  · subst hg hc1
    have hnm := numL_match 48 R0 8 (S.drop 2) HLS.out HFC.out (by rw [← HSC.out]; exact hbase)
    rw [← HSC.out] at hnm
    have HNM := hide hnm
    have j1 : (1 : Int) ≤ (T.size : Int) := by omega
    clear hbase hnm hSc
    go_enter Tryd.func29, Tryd.ntmps29
    go_wp2_with fail
    go_loopw [6, 7] (fun s6 s7 W' => ∃ W, W = W' ∧ ∃ (k : Nat) (line : Bool) (ds : List Nat) (A : Option Addr) (c : Nat), k ≤ T.size ∧ s7 = .int .i64 (k : Int) ∧ s6 = .slice A ds.length c ∧ ds.length ≤ k ∧ (∀ d ∈ ds, d < 8) ∧ digsL 8 false (S.drop 2) = (digsL 8 line (S.drop k)).map (ds ++ ·) ∧ (line = true → ∃ d r, S.drop k = d :: r ∧ d ≠ 95) ∧ IRow w.heap.size W A c ds ∧ Below w.heap.size w W) (fun _ s7 _ => T.size - (intOf s7).toNat)
    case atStart =>
      refine ⟨_, rfl, 2, false, [], none, 0, by omega, rfl, rfl, Nat.zero_le _, (fun d h => by cases h), ?_, (fun h => by cases h), ⟨rfl, .inl ⟨rfl, rfl⟩⟩, Below.refl _ _⟩
      cases digsL 8 false (S.drop 2) <;> simp
    case round =>
      obtain ⟨W, rfl, k, line, ds, A, c, hk, rfl, rfl, hdk, hdb, hdg, hline, hir, hbl⟩ := hrel
      have HIR := hide hir; clear hir
      have HBL := hide hbl; clear hbl
      have HDB := hide hdb; clear hdb
      have k0 : (0 : Int) ≤ (k : Int) := by omega
      obtain ⟨m, hm⟩ : ∃ m, ds.length = m := ⟨_, rfl⟩
      have HM := hide hm
      rw [hm] at hdk
      rw [hm]
      clear hm
      cases hdr : S.drop k with
      | nil =>
        have hkn : ¬ (k : Int) < (T.size : Int) := by
          intro h
          have h2 : k < S.length := by have := HSZ.out; omega
          rw [List.drop_eq_getElem_cons h2] at hdr
          cases hdr
        rw [hdr] at hdg hline
        have hlf : line = false := by
          cases line with
          | false => rfl
          | true => obtain ⟨d, r, h, _⟩ := hline rfl; cases h
        subst hlf
        have hds : digsL 8 false (S.drop 2) = some ds := by rw [hdg]; simp [digsL]
        have hnum := HNM.out
        rw [hds] at hnum
        by_cases hm0 : m = 0
        · have hd0 : ds = [] := List.eq_nil_of_length_eq_zero (by rw [HM.out]; exact hm0)
          rw [hd0] at hnum
          have HN := hide hnum
          have z1 : (((m : Int)) == 0) = true := by rw [hm0]; rfl
          clear hnum hds hdg hline hdr hd0
          go_wp2_with fail
          go_ret2
          exact NumRet.bad HN.out HBL.out
        · have hnum2 : numL S = .ok (decS (valL 8 ds)) := by
            cases ds with
            | nil => exact absurd (by rw [← HM.out]; rfl) hm0
            | cons d ds => exact hnum
          have HN := hide hnum2
          have z1 : (((m : Int)) == 0) = false := by rw [beq_eq_false_iff_ne]; omega
          have hdec := decimal_any w.heap.size W A c ds 8 HIR.out (by rw [HM.out]; omega) (by rw [HM.out]; omega) HDB.out (by omega) (by omega)
          rw [HM.out] at hdec
          have HDEC := hide hdec
          clear hnum hnum2 hds hdg hline hdr hdec
          go_wp2_with fail
          refine (HDEC.out).mono ?_
          rintro e w9 ⟨rfl, hb9⟩
          have HB9 := hide (HBL.out.trans (hb9.mono HBL.out.size)); clear hb9
          go_wp2_with fail
          go_ret2
          exact NumRet.good HN.out HB9.out
      | cons d r =>
        obtain ⟨hkt, ed⟩ := byte_at_k HS.out hdr
        have k1 : (k : Int) < (T.size : Int) := by omega
        have hkS : k < S.length := by have := HSZ.out; omega
        have hdr1 : S.drop (k + 1) = r := by rw [← List.drop_drop, hdr]; rfl
        rw [hdr] at hdg hline
        have hstep := digs_step hdg (by omega)
        obtain ⟨k', hk'⟩ : ∃ k', k + 1 = k' := ⟨_, rfl⟩
        have hki : (k : Int) + 1 = (k' : Int) := by omega
        rw [hk'] at hdr1
        have HK' := hide hk'
        by_cases h95 : d = 95
        · have hlf : line = false := by
            cases line with
            | false => rfl
            | true =>
              obtain ⟨d', r', h, h2⟩ := hline rfl
              injection h with h _
              exact absurd (h ▸ h95) h2
          subst hlf h95
          have h1 := hstep.1 rfl rfl
          cases hr : r with
          | nil =>
            rw [hr] at h1 hdr1
            have hbad : numL S = .bad := by rw [HNM.out, h1]; rfl
            have HBAD := hide hbad
            have hke : k' = T.size := by
              have h9 := congrArg List.length hdr1
              rw [List.length_drop] at h9
              have := HSZ.out
              simp at h9
              omega
            have z1 : (((k' : Int)) == (T.size : Int)) = true := by rw [hke]; simp
            clear hbad h1 hstep hdg hline hdr hdr1 hke hk'
            go_wp2_with fail
            go_ret2
            exact NumRet.bad HBAD.out HBL.out
          | cons e r' =>
            rw [hr] at h1 hdr1
            obtain ⟨hkt', ee⟩ := byte_at_k HS.out hdr1
            have z1 : (((k' : Int)) == (T.size : Int)) = false := by rw [beq_eq_false_iff_ne]; omega
            have k3 : (k' : Int) < (T.size : Int) := by omega
            have k2 : (0 : Int) ≤ (k' : Int) := by omega
            by_cases he : e = 95
            · subst he
              have hbad : numL S = .bad := by rw [HNM.out, h1]; simp [digsL]; rfl
              have HBAD := hide hbad
              clear hbad h1 hstep hdg hline hdr hdr1 hk'
              go_wp2_with fail
              go_ret2
              exact NumRet.bad HBAD.out HBL.out
            · have z2 : (((e.toNat : Int)) == 95) = false := byte_eqF 95 95 he
              have H1 := hide h1
              have HDR1 := hide hdr1
              have HE := hide he
              clear h1 hstep hdg hline hdr hdr1 hk' he
              go_wp2_with fail
              go_roundw
              case rel => exact ⟨_, rfl, k', true, ds, A, c, by omega, by go_num, by rw [HM.out], by rw [HM.out]; omega, HDB.out, by rw [HDR1.out]; exact H1.out, fun _ => ⟨_, _, HDR1.out, HE.out⟩, HIR.out, HBL.out⟩
              case measure => (simp [intOf]) <;> omega
        · have z0 : (((d.toNat : Int)) == 95) = false := byte_eqF 95 95 h95
          have hdig := fun W => rdigit_any d W
          obtain ⟨x, hx⟩ : ∃ x, digL d = x := ⟨_, rfl⟩
          rw [hx] at hdig
          rw [hx] at hstep
          have HDIG := hide hdig
          have x0 : (0 : Int) ≤ (x : Int) := by omega
          have hne : ¬ (d = 95 ∧ line = false) := fun h => h95 h.1
          by_cases hxb : 8 ≤ x
          · have hbad : numL S = .bad := by rw [HNM.out, hstep.2.1 hne hxb]
            have HBAD := hide hbad
            have x1 : (8 : Int) ≤ (x : Int) := by omega
            clear hbad hstep hdg hline hdr hdr1 hk' hx hdig h95 hne hxb
            go_wp2_with fail
            refine (HDIG.out _).mono ?_
            rintro e w' ⟨rfl, rfl⟩
            go_wp2_with fail
            go_ret2
            exact NumRet.bad HBAD.out HBL.out
          · have H1 := hide (hstep.2.2 hne (by omega))
            have HDR1 := hide hdr1
            have x1 : (x : Int) < 8 := by omega
            have hx99 : (x : Int) ≤ 15 := by omega
            have hbs : w.heap.size ≤ W.heap.size := HBL.out.size
            have hir := HIR.out
            unfold IRow at hir
            rw [HM.out] at hir
            have HO := hide hir
            have HDB2 : Hid (∀ y ∈ ds ++ [x], y < 8) := hide (by
              intro y hy
              rcases List.mem_append.1 hy with hy | hy
              · exact HDB.out y hy
              · rw [List.mem_singleton.1 hy]; omega)
            have m0 : (m : Int) ≤ 200 := by omega
            clear hstep hdg hline hdr hdr1 hk' hx hdig h95 hne hxb hir
            go_wp2_with fail
            refine (HDIG.out _).mono ?_
            rintro e w' ⟨rfl, rfl⟩
            go_wp2_with (first | (go_at_call 55; refine (HDIG.out _).mono ?_; rintro e w' ⟨rfl, hw⟩; rw [← hw]; clear hw) | (at_builtin; refine wpList_append_lies _ rfl _ _ _ rfl w.heap.size 3 ti _ 1 8 Tryd.underlying62 hti hz0 hz1 hz2 rfl (by omega) (.slice A m c) m (icells ds) rfl (HO.out.alloc _) ⟨W.heap.size, 0, none⟩ 1 1 [.int .i64 (x : Int)] rfl rfl (World.news_of_block (cs := #[.int .i64 (x : Int)]) (t := 3) (fr := (0, 0)) (heap_alloc_new W _)) (by simp [Value.oneCell']) (by omega) (by simp only [maxLen]; omega) (by omega) (by simp; omega) (W.heap.size + 1) (by simp) ?_; intro gg cc w9 hown1 hgrow hat hlt9; have hg1 := grow_of0 hgrow))
            have HI2 : Hid (IRow w.heap.size w9 (some ⟨gg, 0, none⟩) cc (ds ++ [x])) := hide (by
              unfold IRow
              rw [List.length_append, List.length_singleton, icells_append, HM.out]
              exact hown1)
            have HB3 : Hid (Below w.heap.size w w9) := hide (HBL.out.grown hg1 hbs (fun k hk => (own_lt' HO.out k hk).2))
            clear hown1 hgrow hat hlt9 hg1
            go_roundw
            case rel => exact ⟨_, rfl, k', false, ds ++ [x], _, _, by omega, by go_num, by rw [List.length_append, HM.out]; rfl, by rw [List.length_append, HM.out, List.length_singleton]; omega, HDB2.out, by rw [HDR1.out]; exact H1.out, (fun h => by cases h), HI2.out, HB3.out⟩
            case measure => (simp [intOf]) <;> omega
  · subst hg hc1
    have hnm := numL_match 48 R0 8 (S.drop 2) HLS.out HFC.out (by rw [← HSC.out]; exact hbase)
    rw [← HSC.out] at hnm
    have HNM := hide hnm
    have j1 : (1 : Int) ≤ (T.size : Int) := by omega
    clear hbase hnm hSc
    go_enter Tryd.func29, Tryd.ntmps29
    go_wp2_with fail
    go_loopw [6, 7] (fun s6 s7 W' => ∃ W, W = W' ∧ ∃ (k : Nat) (line : Bool) (ds : List Nat) (A : Option Addr) (c : Nat), k ≤ T.size ∧ s7 = .int .i64 (k : Int) ∧ s6 = .slice A ds.length c ∧ ds.length ≤ k ∧ (∀ d ∈ ds, d < 8) ∧ digsL 8 false (S.drop 2) = (digsL 8 line (S.drop k)).map (ds ++ ·) ∧ (line = true → ∃ d r, S.drop k = d :: r ∧ d ≠ 95) ∧ IRow w.heap.size W A c ds ∧ Below w.heap.size w W) (fun _ s7 _ => T.size - (intOf s7).toNat)
    case atStart =>
      refine ⟨_, rfl, 2, false, [], none, 0, by omega, rfl, rfl, Nat.zero_le _, (fun d h => by cases h), ?_, (fun h => by cases h), ⟨rfl, .inl ⟨rfl, rfl⟩⟩, Below.refl _ _⟩
      cases digsL 8 false (S.drop 2) <;> simp
    case round =>
      obtain ⟨W, rfl, k, line, ds, A, c, hk, rfl, rfl, hdk, hdb, hdg, hline, hir, hbl⟩ := hrel
      have HIR := hide hir; clear hir
      have HBL := hide hbl; clear hbl
      have HDB := hide hdb; clear hdb
      have k0 : (0 : Int) ≤ (k : Int) := by omega
      obtain ⟨m, hm⟩ : ∃ m, ds.length = m := ⟨_, rfl⟩
      have HM := hide hm
      rw [hm] at hdk
      rw [hm]
      clear hm
      cases hdr : S.drop k with
      | nil =>
        have hkn : ¬ (k : Int) < (T.size : Int) := by
          intro h
          have h2 : k < S.length := by have := HSZ.out; omega
          rw [List.drop_eq_getElem_cons h2] at hdr
          cases hdr
        rw [hdr] at hdg hline
        have hlf : line = false := by
          cases line with
          | false => rfl
          | true => obtain ⟨d, r, h, _⟩ := hline rfl; cases h
        subst hlf
        have hds : digsL 8 false (S.drop 2) = some ds := by rw [hdg]; simp [digsL]
        have hnum := HNM.out
        rw [hds] at hnum
        by_cases hm0 : m = 0
        · have hd0 : ds = [] := List.eq_nil_of_length_eq_zero (by rw [HM.out]; exact hm0)
          rw [hd0] at hnum
          have HN := hide hnum
          have z1 : (((m : Int)) == 0) = true := by rw [hm0]; rfl
          clear hnum hds hdg hline hdr hd0
          go_wp2_with fail
          go_ret2
          exact NumRet.bad HN.out HBL.out
        · have hnum2 : numL S = .ok (decS (valL 8 ds)) := by
            cases ds with
            | nil => exact absurd (by rw [← HM.out]; rfl) hm0
            | cons d ds => exact hnum
          have HN := hide hnum2
          have z1 : (((m : Int)) == 0) = false := by rw [beq_eq_false_iff_ne]; omega
          have hdec := decimal_any w.heap.size W A c ds 8 HIR.out (by rw [HM.out]; omega) (by rw [HM.out]; omega) HDB.out (by omega) (by omega)
          rw [HM.out] at hdec
          have HDEC := hide hdec
          clear hnum hnum2 hds hdg hline hdr hdec
          go_wp2_with fail
          refine (HDEC.out).mono ?_
          rintro e w9 ⟨rfl, hb9⟩
          have HB9 := hide (HBL.out.trans (hb9.mono HBL.out.size)); clear hb9
          go_wp2_with fail
          go_ret2
          exact NumRet.good HN.out HB9.out
      | cons d r =>
        obtain ⟨hkt, ed⟩ := byte_at_k HS.out hdr
        have k1 : (k : Int) < (T.size : Int) := by omega
        have hkS : k < S.length := by have := HSZ.out; omega
        have hdr1 : S.drop (k + 1) = r := by rw [← List.drop_drop, hdr]; rfl
        rw [hdr] at hdg hline
        have hstep := digs_step hdg (by omega)
        obtain ⟨k', hk'⟩ : ∃ k', k + 1 = k' := ⟨_, rfl⟩
        have hki : (k : Int) + 1 = (k' : Int) := by omega
        rw [hk'] at hdr1
        have HK' := hide hk'
        by_cases h95 : d = 95
        · have hlf : line = false := by
            cases line with
            | false => rfl
            | true =>
              obtain ⟨d', r', h, h2⟩ := hline rfl
              injection h with h _
              exact absurd (h ▸ h95) h2
          subst hlf h95
          have h1 := hstep.1 rfl rfl
          cases hr : r with
          | nil =>
            rw [hr] at h1 hdr1
            have hbad : numL S = .bad := by rw [HNM.out, h1]; rfl
            have HBAD := hide hbad
            have hke : k' = T.size := by
              have h9 := congrArg List.length hdr1
              rw [List.length_drop] at h9
              have := HSZ.out
              simp at h9
              omega
            have z1 : (((k' : Int)) == (T.size : Int)) = true := by rw [hke]; simp
            clear hbad h1 hstep hdg hline hdr hdr1 hke hk'
            go_wp2_with fail
            go_ret2
            exact NumRet.bad HBAD.out HBL.out
          | cons e r' =>
            rw [hr] at h1 hdr1
            obtain ⟨hkt', ee⟩ := byte_at_k HS.out hdr1
            have z1 : (((k' : Int)) == (T.size : Int)) = false := by rw [beq_eq_false_iff_ne]; omega
            have k3 : (k' : Int) < (T.size : Int) := by omega
            have k2 : (0 : Int) ≤ (k' : Int) := by omega
            by_cases he : e = 95
            · subst he
              have hbad : numL S = .bad := by rw [HNM.out, h1]; simp [digsL]; rfl
              have HBAD := hide hbad
              clear hbad h1 hstep hdg hline hdr hdr1 hk'
              go_wp2_with fail
              go_ret2
              exact NumRet.bad HBAD.out HBL.out
            · have z2 : (((e.toNat : Int)) == 95) = false := byte_eqF 95 95 he
              have H1 := hide h1
              have HDR1 := hide hdr1
              have HE := hide he
              clear h1 hstep hdg hline hdr hdr1 hk' he
              go_wp2_with fail
              go_roundw
              case rel => exact ⟨_, rfl, k', true, ds, A, c, by omega, by go_num, by rw [HM.out], by rw [HM.out]; omega, HDB.out, by rw [HDR1.out]; exact H1.out, fun _ => ⟨_, _, HDR1.out, HE.out⟩, HIR.out, HBL.out⟩
              case measure => (simp [intOf]) <;> omega
        · have z0 : (((d.toNat : Int)) == 95) = false := byte_eqF 95 95 h95
          have hdig := fun W => rdigit_any d W
          obtain ⟨x, hx⟩ : ∃ x, digL d = x := ⟨_, rfl⟩
          rw [hx] at hdig
          rw [hx] at hstep
          have HDIG := hide hdig
          have x0 : (0 : Int) ≤ (x : Int) := by omega
          have hne : ¬ (d = 95 ∧ line = false) := fun h => h95 h.1
          by_cases hxb : 8 ≤ x
          · have hbad : numL S = .bad := by rw [HNM.out, hstep.2.1 hne hxb]
            have HBAD := hide hbad
            have x1 : (8 : Int) ≤ (x : Int) := by omega
            clear hbad hstep hdg hline hdr hdr1 hk' hx hdig h95 hne hxb
            go_wp2_with fail
            refine (HDIG.out _).mono ?_
            rintro e w' ⟨rfl, rfl⟩
            go_wp2_with fail
            go_ret2
            exact NumRet.bad HBAD.out HBL.out
          · have H1 := hide (hstep.2.2 hne (by omega))
            have HDR1 := hide hdr1
            have x1 : (x : Int) < 8 := by omega
            have hx99 : (x : Int) ≤ 15 := by omega
            have hbs : w.heap.size ≤ W.heap.size := HBL.out.size
            have hir := HIR.out
            unfold IRow at hir
            rw [HM.out] at hir
            have HO := hide hir
            have HDB2 : Hid (∀ y ∈ ds ++ [x], y < 8) := hide (by
              intro y hy
              rcases List.mem_append.1 hy with hy | hy
              · exact HDB.out y hy
              · rw [List.mem_singleton.1 hy]; omega)
            have m0 : (m : Int) ≤ 200 := by omega
            clear hstep hdg hline hdr hdr1 hk' hx hdig h95 hne hxb hir
            go_wp2_with fail
            refine (HDIG.out _).mono ?_
            rintro e w' ⟨rfl, rfl⟩
            go_wp2_with (first | (go_at_call 55; refine (HDIG.out _).mono ?_; rintro e w' ⟨rfl, hw⟩; rw [← hw]; clear hw) | (at_builtin; refine wpList_append_lies _ rfl _ _ _ rfl w.heap.size 3 ti _ 1 8 Tryd.underlying62 hti hz0 hz1 hz2 rfl (by omega) (.slice A m c) m (icells ds) rfl (HO.out.alloc _) ⟨W.heap.size, 0, none⟩ 1 1 [.int .i64 (x : Int)] rfl rfl (World.news_of_block (cs := #[.int .i64 (x : Int)]) (t := 3) (fr := (0, 0)) (heap_alloc_new W _)) (by simp [Value.oneCell']) (by omega) (by simp only [maxLen]; omega) (by omega) (by simp; omega) (W.heap.size + 1) (by simp) ?_; intro gg cc w9 hown1 hgrow hat hlt9; have hg1 := grow_of0 hgrow))
            have HI2 : Hid (IRow w.heap.size w9 (some ⟨gg, 0, none⟩) cc (ds ++ [x])) := hide (by
              unfold IRow
              rw [List.length_append, List.length_singleton, icells_append, HM.out]
              exact hown1)
            have HB3 : Hid (Below w.heap.size w w9) := hide (HBL.out.grown hg1 hbs (fun k hk => (own_lt' HO.out k hk).2))
            clear hown1 hgrow hat hlt9 hg1
            go_roundw
            case rel => exact ⟨_, rfl, k', false, ds ++ [x], _, _, by omega, by go_num, by rw [List.length_append, HM.out]; rfl, by rw [List.length_append, HM.out, List.length_singleton]; omega, HDB2.out, by rw [HDR1.out]; exact H1.out, (fun h => by cases h), HI2.out, HB3.out⟩
            case measure => (simp [intOf]) <;> omega
  · subst hg
    have hnm := numL_match 48 R0 8 (S.drop 1) HLS.out HFC.out (by rw [← HSC.out]; exact hbase)
    rw [← HSC.out] at hnm
    have HNM := hide hnm
    have j1 : (1 : Int) ≤ (T.size : Int) := by omega
    clear hbase hnm hSc
    go_enter Tryd.func29, Tryd.ntmps29
    go_wp2_with fail
    go_loopw [6, 7] (fun s6 s7 W' => ∃ W, W = W' ∧ ∃ (k : Nat) (line : Bool) (ds : List Nat) (A : Option Addr) (c : Nat), k ≤ T.size ∧ s7 = .int .i64 (k : Int) ∧ s6 = .slice A ds.length c ∧ ds.length ≤ k ∧ (∀ d ∈ ds, d < 8) ∧ digsL 8 false (S.drop 1) = (digsL 8 line (S.drop k)).map (ds ++ ·) ∧ (line = true → ∃ d r, S.drop k = d :: r ∧ d ≠ 95) ∧ IRow w.heap.size W A c ds ∧ Below w.heap.size w W) (fun _ s7 _ => T.size - (intOf s7).toNat)
    case atStart =>
      refine ⟨_, rfl, 1, false, [], none, 0, by omega, rfl, rfl, Nat.zero_le _, (fun d h => by cases h), ?_, (fun h => by cases h), ⟨rfl, .inl ⟨rfl, rfl⟩⟩, Below.refl _ _⟩
      cases digsL 8 false (S.drop 1) <;> simp
    case round =>
      obtain ⟨W, rfl, k, line, ds, A, c, hk, rfl, rfl, hdk, hdb, hdg, hline, hir, hbl⟩ := hrel
      have HIR := hide hir; clear hir
      have HBL := hide hbl; clear hbl
      have HDB := hide hdb; clear hdb
      have k0 : (0 : Int) ≤ (k : Int) := by omega
      obtain ⟨m, hm⟩ : ∃ m, ds.length = m := ⟨_, rfl⟩
      have HM := hide hm
      rw [hm] at hdk
      rw [hm]
      clear hm
      cases hdr : S.drop k with
      | nil =>
        have hkn : ¬ (k : Int) < (T.size : Int) := by
          intro h
          have h2 : k < S.length := by have := HSZ.out; omega
          rw [List.drop_eq_getElem_cons h2] at hdr
          cases hdr
        rw [hdr] at hdg hline
        have hlf : line = false := by
          cases line with
          | false => rfl
          | true => obtain ⟨d, r, h, _⟩ := hline rfl; cases h
        subst hlf
        have hds : digsL 8 false (S.drop 1) = some ds := by rw [hdg]; simp [digsL]
        have hnum := HNM.out
        rw [hds] at hnum
        by_cases hm0 : m = 0
        · have hd0 : ds = [] := List.eq_nil_of_length_eq_zero (by rw [HM.out]; exact hm0)
          rw [hd0] at hnum
          have HN := hide hnum
          have z1 : (((m : Int)) == 0) = true := by rw [hm0]; rfl
          clear hnum hds hdg hline hdr hd0
          go_wp2_with fail
          go_ret2
          exact NumRet.bad HN.out HBL.out
        · have hnum2 : numL S = .ok (decS (valL 8 ds)) := by
            cases ds with
            | nil => exact absurd (by rw [← HM.out]; rfl) hm0
            | cons d ds => exact hnum
          have HN := hide hnum2
          have z1 : (((m : Int)) == 0) = false := by rw [beq_eq_false_iff_ne]; omega
          have hdec := decimal_any w.heap.size W A c ds 8 HIR.out (by rw [HM.out]; omega) (by rw [HM.out]; omega) HDB.out (by omega) (by omega)
          rw [HM.out] at hdec
          have HDEC := hide hdec
          clear hnum hnum2 hds hdg hline hdr hdec
          go_wp2_with fail
          refine (HDEC.out).mono ?_
          rintro e w9 ⟨rfl, hb9⟩
          have HB9 := hide (HBL.out.trans (hb9.mono HBL.out.size)); clear hb9
          go_wp2_with fail
          go_ret2
          exact NumRet.good HN.out HB9.out
      | cons d r =>
        obtain ⟨hkt, ed⟩ := byte_at_k HS.out hdr
        have k1 : (k : Int) < (T.size : Int) := by omega
        have hkS : k < S.length := by have := HSZ.out; omega
        have hdr1 : S.drop (k + 1) = r := by rw [← List.drop_drop, hdr]; rfl
        rw [hdr] at hdg hline
        have hstep := digs_step hdg (by omega)
        obtain ⟨k', hk'⟩ : ∃ k', k + 1 = k' := ⟨_, rfl⟩
        have hki : (k : Int) + 1 = (k' : Int) := by omega
        rw [hk'] at hdr1
        have HK' := hide hk'
        by_cases h95 : d = 95
        · have hlf : line = false := by
            cases line with
            | false => rfl
            | true =>
              obtain ⟨d', r', h, h2⟩ := hline rfl
              injection h with h _
              exact absurd (h ▸ h95) h2
          subst hlf h95
          have h1 := hstep.1 rfl rfl
          cases hr : r with
          | nil =>
            rw [hr] at h1 hdr1
            have hbad : numL S = .bad := by rw [HNM.out, h1]; rfl
            have HBAD := hide hbad
            have hke : k' = T.size := by
              have h9 := congrArg List.length hdr1
              rw [List.length_drop] at h9
              have := HSZ.out
              simp at h9
              omega
            have z1 : (((k' : Int)) == (T.size : Int)) = true := by rw [hke]; simp
            clear hbad h1 hstep hdg hline hdr hdr1 hke hk'
            go_wp2_with fail
            go_ret2
            exact NumRet.bad HBAD.out HBL.out
          | cons e r' =>
            rw [hr] at h1 hdr1
            obtain ⟨hkt', ee⟩ := byte_at_k HS.out hdr1
            have z1 : (((k' : Int)) == (T.size : Int)) = false := by rw [beq_eq_false_iff_ne]; omega
            have k3 : (k' : Int) < (T.size : Int) := by omega
            have k2 : (0 : Int) ≤ (k' : Int) := by omega
            by_cases he : e = 95
            · subst he
              have hbad : numL S = .bad := by rw [HNM.out, h1]; simp [digsL]; rfl
              have HBAD := hide hbad
              clear hbad h1 hstep hdg hline hdr hdr1 hk'
              go_wp2_with fail
              go_ret2
              exact NumRet.bad HBAD.out HBL.out
            · have z2 : (((e.toNat : Int)) == 95) = false := byte_eqF 95 95 he
              have H1 := hide h1
              have HDR1 := hide hdr1
              have HE := hide he
              clear h1 hstep hdg hline hdr hdr1 hk' he
              go_wp2_with fail
              go_roundw
              case rel => exact ⟨_, rfl, k', true, ds, A, c, by omega, by go_num, by rw [HM.out], by rw [HM.out]; omega, HDB.out, by rw [HDR1.out]; exact H1.out, fun _ => ⟨_, _, HDR1.out, HE.out⟩, HIR.out, HBL.out⟩
              case measure => (simp [intOf]) <;> omega
        · have z0 : (((d.toNat : Int)) == 95) = false := byte_eqF 95 95 h95
          have hdig := fun W => rdigit_any d W
          obtain ⟨x, hx⟩ : ∃ x, digL d = x := ⟨_, rfl⟩
          rw [hx] at hdig
          rw [hx] at hstep
          have HDIG := hide hdig
          have x0 : (0 : Int) ≤ (x : Int) := by omega
          have hne : ¬ (d = 95 ∧ line = false) := fun h => h95 h.1
          by_cases hxb : 8 ≤ x
          · have hbad : numL S = .bad := by rw [HNM.out, hstep.2.1 hne hxb]
            have HBAD := hide hbad
            have x1 : (8 : Int) ≤ (x : Int) := by omega
            clear hbad hstep hdg hline hdr hdr1 hk' hx hdig h95 hne hxb
            go_wp2_with fail
            refine (HDIG.out _).mono ?_
            rintro e w' ⟨rfl, rfl⟩
            go_wp2_with fail
            go_ret2
            exact NumRet.bad HBAD.out HBL.out
          · have H1 := hide (hstep.2.2 hne (by omega))
            have HDR1 := hide hdr1
            have x1 : (x : Int) < 8 := by omega
            have hx99 : (x : Int) ≤ 15 := by omega
            have hbs : w.heap.size ≤ W.heap.size := HBL.out.size
            have hir := HIR.out
            unfold IRow at hir
            rw [HM.out] at hir
            have HO := hide hir
            have HDB2 : Hid (∀ y ∈ ds ++ [x], y < 8) := hide (by
              intro y hy
              rcases List.mem_append.1 hy with hy | hy
              · exact HDB.out y hy
              · rw [List.mem_singleton.1 hy]; omega)
            have m0 : (m : Int) ≤ 200 := by omega
            clear hstep hdg hline hdr hdr1 hk' hx hdig h95 hne hxb hir
            go_wp2_with fail
            refine (HDIG.out _).mono ?_
            rintro e w' ⟨rfl, rfl⟩
            go_wp2_with (first | (go_at_call 55; refine (HDIG.out _).mono ?_; rintro e w' ⟨rfl, hw⟩; rw [← hw]; clear hw) | (at_builtin; refine wpList_append_lies _ rfl _ _ _ rfl w.heap.size 3 ti _ 1 8 Tryd.underlying62 hti hz0 hz1 hz2 rfl (by omega) (.slice A m c) m (icells ds) rfl (HO.out.alloc _) ⟨W.heap.size, 0, none⟩ 1 1 [.int .i64 (x : Int)] rfl rfl (World.news_of_block (cs := #[.int .i64 (x : Int)]) (t := 3) (fr := (0, 0)) (heap_alloc_new W _)) (by simp [Value.oneCell']) (by omega) (by simp only [maxLen]; omega) (by omega) (by simp; omega) (W.heap.size + 1) (by simp) ?_; intro gg cc w9 hown1 hgrow hat hlt9; have hg1 := grow_of0 hgrow))
            have HI2 : Hid (IRow w.heap.size w9 (some ⟨gg, 0, none⟩) cc (ds ++ [x])) := hide (by
              unfold IRow
              rw [List.length_append, List.length_singleton, icells_append, HM.out]
              exact hown1)
            have HB3 : Hid (Below w.heap.size w w9) := hide (HBL.out.grown hg1 hbs (fun k hk => (own_lt' HO.out k hk).2))
            clear hown1 hgrow hat hlt9 hg1
            go_roundw
            case rel => exact ⟨_, rfl, k', false, ds ++ [x], _, _, by omega, by go_num, by rw [List.length_append, HM.out]; rfl, by rw [List.length_append, HM.out, List.length_singleton]; omega, HDB2.out, by rw [HDR1.out]; exact H1.out, (fun h => by cases h), HI2.out, HB3.out⟩
            case measure => (simp [intOf]) <;> omega
end Go.Proofs.YtehflgllfkkfoaaDoor
