/- Package lit: Number. -/
import Derived.Test.YtehflgllfkkfoaaDoorNa
import Derived.Test.YtehflgllfkkfoaaDoorTq
set_option linter.unusedVariables false
set_option linter.unusedSimpArgs false
namespace Go.Proofs.YtehflgllfkkfoaaDoor
open Go.RowKit Go.Proofs.Dm

theorem base_ten {s : Bs} (h : (baseL s).1 = 10) : (baseL s).2 = s ∧ (2 ≤ s.length → s.head? ≠ some 48) := by
  unfold baseL at h ⊢
  split
  · rename_i c0 c r
    simp only at h
    split at h
    · split at h
      · simp at h
      · split at h
        · simp at h
        · split at h <;> simp at h
    · rename_i h0
      rw [if_neg h0]
      exact ⟨rfl, fun _ => by simpa using h0⟩
  · rename_i hne
    refine ⟨rfl, fun hl => ?_⟩
    cases s with
    | nil => simp at hl
    | cons x t => cases t with
      | nil => simp at hl
      | cons y r => exact absurd rfl (hne x y r)
theorem base_other {s : Bs} (h : (baseL s).1 ≠ 10) : ∃ c r, s = 48 :: c :: r := by
  unfold baseL at h
  split at h
  · rename_i c0 c r
    split at h
    · rename_i h0; exact ⟨c, r, by rw [h0]⟩
    · exact absurd rfl h
  · exact absurd rfl h
theorem digL_ten {c : UInt8} (h : digL c < 10) : figure c = true := by
  have : ∀ c : Fin 256, digL (UInt8.ofNat c.val) < 10 → figure (UInt8.ofNat c.val) = true := by decide +kernel
  have := this ⟨c.toNat, c.toNat_lt⟩
  simp only [UInt8.ofNat_toNat] at this
  exact this h
theorem numL_of (s : Bs) (hl : s.length ≤ 200) (hne : ¬ ((baseL s).1 = 10 ∧ (s = [] ∨ s.head? = some 95))) :
    numL s = match digsL (baseL s).1 false (baseL s).2 with
      | none => .bad
      | some [] => .bad
      | some (d :: ds) => .ok (decS (valL (baseL s).1 (d :: ds))) := by
  unfold numL
  rw [if_neg (by omega)]
  cases s with
  | nil => exact absurd ⟨rfl, .inl rfl⟩ hne
  | cons c r =>
    simp only
    by_cases hf : figure c = true
    · rw [if_neg (by rw [hf]; decide)]
      cases hdd : digsL (baseL (c :: r)).1 false (baseL (c :: r)).2 with
      | none => rfl
      | some l => cases l <;> rfl
    · rw [if_pos (by simpa using hf)]
      by_cases hb : (baseL (c :: r)).1 = 10
      · have hb2 := (base_ten hb).1
        rw [hb, hb2]
        have h95 : c ≠ 95 := fun e => hne ⟨hb, .inr (by rw [e]; rfl)⟩
        have : digsL 10 false (c :: r) = none := by
          simp only [digsL]
          rw [if_neg (by simp [h95]), if_pos]
          rcases Nat.lt_or_ge (digL c) 10 with h | h
          · exact absurd (digL_ten h) hf
          · exact h
        rw [this]
      · obtain ⟨c', r', e⟩ := base_other hb
        injection e with e _
        rw [e] at hf
        exact absurd (by decide) hf
theorem big16 : 16 ^ 200 ≤ 10 ^ 241 := by decide +kernel
theorem val_len {b : Nat} (hb : 0 < b) (hb16 : b ≤ 16) (ds : List Nat) (h : ∀ d ∈ ds, d < b) (hl : ds.length ≤ 200) : (ldL (valL b ds)).length ≤ 241 := by
  refine ldL_length _ 241 ?_
  have h1 := valF_lt hb ds h 0 0 (by simp)
  rw [Nat.zero_add] at h1
  have h2 : b ^ ds.length ≤ 16 ^ ds.length := Nat.pow_le_pow_left hb16 _
  have h3 : 16 ^ ds.length ≤ 16 ^ 200 := Nat.pow_le_pow_right (by omega) hl
  exact Nat.lt_of_lt_of_le h1 (Nat.le_trans h2 (Nat.le_trans h3 big16))
theorem digs_step {b : Nat} {R : Bs} {line : Bool} {ds : List Nat} {d : UInt8} {r : Bs} (h : digsL b false R = (digsL b line (d :: r)).map (ds ++ ·)) (hb : b ≤ 16) :
    (d = 95 → line = false → digsL b false R = (digsL b true r).map (ds ++ ·)) ∧ (¬ (d = 95 ∧ line = false) → b ≤ digL d → digsL b false R = none) ∧ (¬ (d = 95 ∧ line = false) → digL d < b → digsL b false R = (digsL b false r).map ((ds ++ [digL d]) ++ ·)) := by
  refine ⟨fun h1 h2 => ?_, fun h1 h2 => ?_, fun h1 h2 => ?_⟩
  · rw [h]; simp only [digsL]; rw [if_pos ⟨h1, h2⟩]
  · rw [h]; simp only [digsL]; rw [if_neg h1, if_pos h2]; rfl
  · rw [h]; simp only [digsL]; rw [if_neg h1, if_neg (by omega), Option.map_map]
    congr 1
    funext x
    simp
/-- The iterator's place. -/
def posOf (g : Nat) (W : World) : Nat := match W.heap[g]? with | some (.stringIter _ p) => p | _ => 0
theorem posOf_at {g : Nat} {W : World} {s : ByteArray} {p : Nat} (h : W.heap[g]? = some (.stringIter s p)) : posOf g W = p := by unfold posOf; rw [h]
theorem turned_far (w : World) (g k : Nat) (o : Obj) (h : k ≠ g) : (turned w g o).heap[k]? = w.heap[k]? := by
  simp only [turned]; rw [Array.getElem?_setIfInBounds_ne (by omega)]
theorem turned_size (w : World) (g : Nat) (o : Obj) : (turned w g o).heap.size = w.heap.size := by simp [turned]
theorem own_turned {w : World} {base n : Nat} {e : TypeId} {size : Nat} {v : Value} {xs : List Value} (h : w.ownsRow base e size v n xs) (g : Nat) (hg : g < base) (o : Obj) : (turned w g o).ownsRow base e size v n xs := by
  obtain ⟨h1, h2⟩ := h
  refine ⟨h1, ?_⟩
  rcases h2 with h2 | ⟨g', cap, cur, rfl, hg', hh, r⟩
  · exact Or.inl h2
  · exact Or.inr ⟨g', cap, cur, rfl, hg', (turned_far w g g' o (by omega)).trans hh, r⟩
def NumRet (s : Bs) (w : World) (e : Ending) (w' : World) : Prop :=
  (match numL s with
  | .long => e = .returned (.tuple #[.string ⟨#[]⟩, .int .i64 12])
  | .bad => e = .returned (.tuple #[.string ⟨#[]⟩, .int .i64 4])
  | .ok t => e = .returned (.tuple #[.string (bs t), .int .i64 0])) ∧ Below w.heap.size w w'
theorem NumRet.bad {s : Bs} {w w' : World} (h : numL s = .bad) (hb : Below w.heap.size w w') : NumRet s w (.returned (.tuple #[.string ⟨#[]⟩, .int .i64 4])) w' := by
  unfold NumRet; rw [h]; exact ⟨rfl, hb⟩
theorem NumRet.good {s t : Bs} {w w' : World} (h : numL s = .ok t) (hb : Below w.heap.size w w') : NumRet s w (.returned (.tuple #[.string (bs t), .int .i64 0])) w' := by
  unfold NumRet; rw [h]; exact ⟨rfl, hb⟩

set_option maxRecDepth 100000 in
set_option maxHeartbeats 25600000 in
theorem Number_any (s : ByteArray) (hs : s.size ≤ maxLen) (w : World) : Calls Tryd.prog 26 #[.string s] w (NumRet s.data.toList w) := by
  have hsz := size_data s
  by_cases hlong : (200 : Int) < (s.size : Int)
  · have HL : Hid (numL s.data.toList = .long) := hide (by unfold numL; rw [if_pos (by omega)])
    clear hsz
    go_enter Tryd.func26, Tryd.ntmps26
    go_wp2_with fail
    go_ret2
    unfold NumRet
    rw [HL.out]
    exact ⟨rfl, Below.refl _ _⟩
  have hs2 : s.size ≤ 200 := by omega
  have hbase := base_any s (by omega) w
  have hrest := baseL_rest s.data.toList
  have hnum := numL_of s.data.toList (by omega)
  have hten := base_ten (s := s.data.toList)
  obtain ⟨S, hS⟩ : ∃ S, s.data.toList = S := ⟨_, rfl⟩
  have hSs : bs S = s := by rw [← hS]; exact bs_of s
  rw [hS] at hbase hrest hnum hten hsz ⊢
  obtain ⟨b, hb⟩ : ∃ b, (baseL S).1 = b := ⟨_, rfl⟩
  obtain ⟨R, hR⟩ : ∃ R, (baseL S).2 = R := ⟨_, rfl⟩
  rw [hb, hR] at hbase hrest hnum hten
  have hRl : R.length ≤ 200 := by
    rcases hrest.2.2 with h | ⟨c0, c, r, h, _, h2⟩
    · rw [h]; omega
    · have := congrArg List.length h
      simp only [List.length_cons] at this
      rcases h2 with ⟨h2, _⟩ | h2
      · rw [h2]; omega
      · rw [h2]; simp only [List.length_cons]; omega
  have b2 : (2 : Int) ≤ (b : Int) := by omega
  have b16 : (b : Int) ≤ 16 := by omega
  have HBASE := hide hbase
  have HNUM := hide hnum
  have HTEN := hide hten
  clear hbase hrest hnum hten hb hR hS hs hsz
  have HSS := hide hSs; clear hSs
  obtain ⟨T, hT⟩ : ∃ T, bs R = T := ⟨_, rfl⟩
  have hTR : T.data.toList = R := by rw [← hT]; rfl
  have hTs : T.size = R.length := by rw [size_data, hTR]
  rw [hT] at HBASE
  have HTR := hide hTR
  clear hTR hT
  have t0 : (T.size : Int) ≤ 200 := by omega
  have HTS := hide hTs; clear hTs
  by_cases hx : b = 10 ∧ (S = [] ∨ S.head? = some 95)
  · -- no digits
    have HBAD : Hid (numL S = .bad) := hide (by
      unfold numL
      rw [if_neg (by rw [← HSS.out] at hs2; exact Nat.not_lt.2 hs2)]
      rcases hx.2 with h | h
      · rw [h]
      · cases hSS : S with
        | nil => rfl
        | cons c r =>
          rw [hSS] at h
          injection h with h
          simp only
          rw [if_pos (by rw [h]; decide)])
    have hRS := (HTEN.out hx.1).1
    have b10 : (((b : Int)) == 10) = true := by rw [hx.1]; rfl
    rcases hx.2 with h | h
    · have e1 : T.toList = [] := by rw [toList_bs, HTR.out, hRS, h]
      have e2 : T.toList.isEmpty = true := by rw [e1]; rfl
      have e3 : (T.toList == ([] : Bs)) = true := by rw [e1]; rfl
      have E1 := hide e1
      clear e1 h hx hRS
      go_enter Tryd.func26, Tryd.ntmps26
      go_wp2_with fail
      refine HBASE.out.mono ?_
      rintro e w1 ⟨rfl, hb1⟩
      have HB1 := hide hb1; clear hb1
      go_wp2_with fail
      go_ret2
      exact NumRet.bad HBAD.out HB1.out
    · obtain ⟨r, hr⟩ : ∃ r, R = 95 :: r := by
        rw [hRS]
        cases hSS : S with
        | nil => rw [hSS] at h; cases h
        | cons c r => rw [hSS] at h; injection h with h; exact ⟨r, by rw [h]⟩
      have e2 : T.toList.isEmpty = false := by rw [toList_bs, HTR.out, hr]; rfl
      have e3 : (T.toList == ([] : Bs)) = false := by rw [toList_bs, HTR.out, hr]; rfl
      have i0 : 0 < T.size := by rw [HTS.out, hr]; simp
      have e0 : T[0]'i0 = 95 := by
        have : T.data.toList[0]'(by rw [HTR.out, hr]; simp) = 95 := by simp [HTR.out, hr]
        exact this
      have j0 : (0 : Int) < (T.size : Int) := by omega
      clear h hx hRS hr
      go_enter Tryd.func26, Tryd.ntmps26
      go_wp2_with fail
      refine HBASE.out.mono ?_
      rintro e w1 ⟨rfl, hb1⟩
      have HB1 := hide hb1; clear hb1
      go_wp2_with fail
      go_ret2
      exact NumRet.bad HBAD.out HB1.out
  · have hnum := HNUM.out hx
    have HN2 := hide hnum; clear hnum
    have hguard : ((((b : Int)) == 10) = false) ∨ ((((b : Int)) == 10) = true ∧ T.toList.isEmpty = false ∧ (T.toList == ([] : Bs)) = false ∧ ∃ (i0 : 0 < T.size) (d : UInt8), T[0]'i0 = d ∧ (((d.toNat : Int)) == 95) = false ∧ (2 ≤ R.length → d ≠ 48)) := by
      by_cases hb10 : b = 10
      · right
        have hRS := (HTEN.out hb10).1
        have h48 := (HTEN.out hb10).2
        rw [← hRS] at h48
        cases hRR : R with
        | nil => exact absurd ⟨hb10, .inl (by rw [← hRS, hRR])⟩ hx
        | cons d r =>
          have i0 : 0 < T.size := by rw [HTS.out, hRR]; simp
          refine ⟨by rw [hb10]; rfl, by rw [toList_bs, HTR.out, hRR]; rfl, by rw [toList_bs, HTR.out, hRR]; rfl, i0, d, ?_, ?_, ?_⟩
          · have : T.data.toList[0]'(by rw [HTR.out, hRR]; simp) = d := by simp [HTR.out, hRR]
            exact this
          · refine byte_eqF 95 95 (fun e => hx ⟨hb10, .inr ?_⟩)
            rw [← hRS, hRR, e]; rfl
          · intro hl e
            rw [hRR] at h48
            exact h48 hl (by rw [e]; rfl)
      · left; rw [beq_eq_false_iff_ne]; omega
    clear hx
    obtain ⟨i0, hi0, hz0, hz1, hz2⟩ := info_parts byteInfo
    rcases hguard with b10 | ⟨b10, e2, e3, q0, d0, e0, e95, h48⟩
    · go_enter Tryd.func26, Tryd.ntmps26
      go_wp2_with fail
      refine HBASE.out.mono ?_
      rintro e w1 ⟨rfl, hb1⟩
      have HB1 := hide hb1; clear hb1
      go_wp2_with fail
      go_loopw [6, 7, 8] (fun s6 s7 s8 W' => ∃ W, W = W' ∧ ∃ (k : Nat) (line : Bool) (ds : List Nat) (A : Option Addr) (c : Nat), W.heap[w1.heap.size]? = some (.stringIter T k) ∧ k ≤ T.size ∧ s6 = .slice A (ldL (valL b ds)).length c ∧ s7 = .bool line ∧ s8 = .int .i64 ((ds.length : Nat) : Int) ∧ ds.length ≤ k ∧ (∀ d ∈ ds, d < b) ∧ digsL b false R = (digsL b line (R.drop k)).map (ds ++ ·) ∧ IRow (w1.heap.size + 1) W A c (ldL (valL b ds)) ∧ Below w1.heap.size w1 W ∧ w1.heap.size + 1 ≤ W.heap.size) (fun _ _ _ W' => T.size - posOf w1.heap.size W')
      case atStart =>
        refine ⟨_, rfl, 0, false, [], none, 0, heap_alloc_new w1 _, Nat.zero_le _, rfl, rfl, rfl, Nat.le_refl _, (fun d h => by cases h), ?_, ⟨rfl, .inl ⟨rfl, rfl⟩⟩, (Below.refl _ _).alloc (Nat.le_refl _) _, by simp [World.iter]⟩
        rw [List.drop_zero]
        cases digsL b false R <;> simp
      case round =>
        obtain ⟨W, rfl, k, line, ds, A, c, hit, hk, rfl, rfl, rfl, hdk, hdb, hdg, hir, hbl, hws⟩ := hrel
        have hpos := posOf_at hit
        have HIR := hide hir; clear hir
        have HBL := hide hbl; clear hbl
        have HDB := hide hdb; clear hdb
        have k0 : (0 : Int) ≤ (k : Int) := by omega
        have hlenv := val_len (b := b) (by omega) (by omega) ds HDB.out (by omega)
        by_cases hlt : k < T.size
        · obtain ⟨d, r, hdr⟩ : ∃ d r, R.drop k = d :: r := by
            have hkr : k < R.length := by rw [← HTS.out]; exact hlt
            exact ⟨_, _, List.drop_eq_getElem_cons hkr⟩
          rw [hdr] at hdg
          have hstep := digs_step hdg (by omega)
          have hdr1 : R.drop (k + 1) = r := by rw [← List.drop_drop, hdr]; rfl
          have hnx : ∀ ty, (Instr.next (.pointer (some ⟨w1.heap.size, 0, none⟩)) true ty).run Tryd.prog W = _ := fun ty => run_next_at W w1.heap.size T k hit hlt ty
          have hrd := rune_dig d r
          have hmax := decodeL_max (d :: r)
          rw [decode_eq, HTR.out, hdr] at hnx
          obtain ⟨q, hq⟩ : ∃ q : Int, ((decodeL (d :: r)).1 : Int) = q := ⟨_, rfl⟩
          obtain ⟨n, hn⟩ : ∃ n, (decodeL (d :: r)).2 = n := ⟨_, rfl⟩
          have hq0 : 0 ≤ q := by omega
          have hq1 : q ≤ 1114111 := by omega
          rw [hq, hn] at hnx hrd
          have hdig := fun W => digit_any q hq0 hq1 W
          obtain ⟨W1, hW1⟩ : ∃ W1, turned W w1.heap.size (.stringIter T (k + n)) = W1 := ⟨_, rfl⟩
          have hit1 : W1.heap[w1.heap.size]? = some (.stringIter T (k + n)) := by rw [← hW1]; exact turned_at (by omega) _
          have hir1 : IRow (w1.heap.size + 1) W1 A c (ldL (valL b ds)) := by rw [← hW1]; exact own_turned HIR.out _ (by omega) _
          have hbl1 : Below w1.heap.size w1 W1 := by rw [← hW1]; exact HBL.out.trans (turned_below _ _ (Nat.le_refl _) _)
          have hws1 : w1.heap.size + 1 ≤ W1.heap.size := by rw [← hW1, turned_size]; exact hws
          rw [hW1] at hnx
          have HIT1 := hide hit1
          have HIR1 := hide hir1
          have HBL1 := hide hbl1
          have HRD1 := hide hrd.1
          have HRD2 := hide hrd.2.1
          have e95q := hrd.2.2
          have HSTEP := hide hstep
          have HDR1 := hide hdr1
          have hdlt : k + 1 ≤ T.size := by omega
          clear hit1 hir1 hbl1 hrd hstep hdr1 hdr hdg hW1 hq hn hmax hit hws
          by_cases hd95 : d = 95
          · have hd99 : digL d = 99 := by rw [hd95]; rfl
            have hn1 : n = 1 := HRD2.out (.inr hd95)
            have hqd : digI q = -1 := by rw [HRD1.out, if_pos hd99]
            rw [hqd] at hdig
            rw [decide_eq_true hd95] at e95q
            have HDIG := hide hdig
            subst hn1
            clear hdig hqd
            cases line with
            | false =>
              have HNX := hide (HSTEP.out.1 hd95 rfl)
              clear hd95 hd99
              go_wp2_with fail
              refine (HDIG.out W1).mono ?_
              rintro e w' ⟨rfl, rfl⟩
              go_wp2_with fail
              go_roundw
              case rel => exact ⟨_, rfl, k + 1, true, ds, A, c, HIT1.out, hdlt, rfl, rfl, rfl, by omega, HDB.out, by rw [HDR1.out]; exact HNX.out, HIR1.out, HBL1.out, hws1⟩
              case measure => rw [posOf_at HIT1.out, hpos]; omega
            | true =>
              have HBAD : Hid (numL S = .bad) := hide (by rw [HN2.out, HSTEP.out.2.1 (fun h => by cases h.2) (by omega)])
              clear hd95 hd99
              go_wp2_with fail
              refine (HDIG.out W1).mono ?_
              rintro e w' ⟨rfl, rfl⟩
              go_wp2_with fail
              go_ret2
              exact NumRet.bad HBAD.out (HB1.out.trans (HBL1.out.mono HB1.out.size))
          · rw [decide_eq_false hd95] at e95q
            by_cases hdb : b ≤ digL d
            · have HBAD : Hid (numL S = .bad) := hide (by rw [HN2.out, HSTEP.out.2.1 (fun h => hd95 h.1) hdb])
              have hqd : digI q < 0 ∨ ¬ digI q < (b : Int) := by
                rw [HRD1.out]
                by_cases h : digL d = 99
                · left; rw [if_pos h]; decide
                · right; rw [if_neg h]; omega
              have HDIG := hide hdig
              obtain ⟨v, hv⟩ : ∃ v, digI q = v := ⟨_, rfl⟩
              rw [hv] at hqd
              have HV := hide hv
              clear hdig hd95 hdb hv
              have hvs : v < 0 ∨ (¬ v < 0 ∧ ¬ v < (b : Int)) := by omega
              clear hqd
              rcases hvs with hv0 | ⟨hv0, hv1⟩
              all_goals
                go_wp2_with fail
                refine (HDIG.out W1).mono ?_
                rw [HV.out]
                rintro e w' ⟨rfl, rfl⟩
                go_wp2_with fail
                go_ret2
                exact NumRet.bad HBAD.out (HB1.out.trans (HBL1.out.mono HB1.out.size))
            · have hdb2 : digL d < b := by omega
              have hn1 : n = 1 := HRD2.out (.inl (by omega))
              have HNX := hide (HSTEP.out.2.2 (fun h => hd95 h.1) hdb2)
              have hqd : digI q = (digL d : Int) := by rw [HRD1.out, if_neg (by omega)]
              rw [hqd] at hdig
              have HDIG := hide hdig
              subst hn1
              obtain ⟨g, hg⟩ : ∃ g, digL d = g := ⟨_, rfl⟩
              have ht := times_any (w1.heap.size + 1) W1 A c (ldL (valL b ds)) b g HIR1.out (ldL_lt _) (by omega) (by omega) (by omega) hws1
              rw [timesL_ld (by omega), ← valL_snoc] at ht
              have HT9 := hide ht
              have HDB2 : Hid (∀ x ∈ ds ++ [g], x < b) := hide (by
                intro x hx
                rcases List.mem_append.1 hx with hx | hx
                · exact HDB.out x hx
                · rw [List.mem_singleton.1 hx, ← hg]; exact hdb2)
              rw [hg] at HDIG HNX
              have g0 : (0 : Int) ≤ (g : Int) := by omega
              have g1 : (g : Int) < (b : Int) := by omega
              clear hdig hd95 hdb hqd ht hg hdb2
              go_wp2_with fail
              refine (HDIG.out W1).mono ?_
              rintro e w' ⟨rfl, rfl⟩
              go_wp2_with fail
              refine HT9.out.mono ?_
              rintro e w2 ⟨A', c', rfl, hir2, hb2⟩
              have HIT2 : Hid (w2.heap[w1.heap.size]? = some (.stringIter T (k + 1))) := hide ((hb2.block _ (by omega)).trans HIT1.out)
              have HIR2 := hide hir2
              have HBL2 : Hid (Below w1.heap.size w1 w2) := hide (HBL1.out.trans (hb2.mono (by omega)))
              have hws2 : w1.heap.size + 1 ≤ w2.heap.size := Nat.le_trans hws1 hb2.size
              clear hir2 hb2
              go_wp2_with fail
              go_roundw
              case rel => exact ⟨_, rfl, k + 1, false, ds ++ [g], A', c', HIT2.out, hdlt, rfl, rfl, by rw [List.length_append, List.length_singleton]; go_num, by rw [List.length_append, List.length_singleton]; omega, HDB2.out, by rw [HDR1.out]; exact HNX.out, HIR2.out, HBL2.out, hws2⟩
              case measure => rw [posOf_at HIT2.out, hpos]; omega
        · have hnx : ∀ ty, (Instr.next (.pointer (some ⟨w1.heap.size, 0, none⟩)) true ty).run Tryd.prog W = _ := fun ty => run_next_over W w1.heap.size T k hit hlt ty
          have hend : digsL b false R = if line = true then none else some ds := by
            rw [hdg, List.drop_of_length_le (by rw [← HTS.out]; omega)]
            cases line <;> simp [digsL]
          clear hdg hit
          cases line with
          | true =>
            have HBAD : Hid (numL S = .bad) := hide (by rw [HN2.out, hend]; rfl)
            clear hend
            go_wp2_with fail
            go_ret2
            exact NumRet.bad HBAD.out (HB1.out.trans (HBL.out.mono HB1.out.size))
          | false =>
            by_cases hds : ds = []
            · have HBAD : Hid (numL S = .bad) := hide (by rw [HN2.out, hend, hds]; rfl)
              subst hds
              clear hend
              go_wp2_with fail
              go_ret2
              exact NumRet.bad HBAD.out (HB1.out.trans (HBL.out.mono HB1.out.size))
            · have hdl := List.length_pos_iff.2 hds
              have HOK : Hid (numL S = .ok (decS (valL b ds))) := hide (by
                rw [HN2.out, hend]
                cases ds with
                | nil => exact absurd rfl hds
                | cons x xs => rfl)
              have m0 : ((((ds.length : Nat) : Int)) == 0) = false := by rw [beq_eq_false_iff_ne]; omega
              have hRT : ds.length ≤ R.length := by rw [← HTS.out]; omega
              clear hend hds
              obtain ⟨N, hN⟩ : ∃ N, valL b ds = N := ⟨_, rfl⟩
              rw [hN] at HOK HIR hlenv
              rw [hN]
              obtain ⟨vs, hvs⟩ : ∃ vs, ldL N = vs := ⟨_, rfl⟩
              have hvl := ldL_lt N
              have hdec : decS N = if vs = [] then [48] else vs.reverse.map fig := by
                unfold decS
                rw [← hvs]
                rcases Nat.eq_zero_or_pos N with h | h
                · rw [if_pos h, h, ldL_zero, if_pos rfl]
                · rw [if_neg (by omega), if_neg (ldL_ne h)]
              rw [hvs] at HIR hlenv hvl
              rw [hvs]
              have HVL := hide hvl
              have HDEC := hide hdec
              have HWB := hide (HB1.out.trans (HBL.out.mono HB1.out.size))
              have hwB : 0 ≤ W.heap.size := Nat.zero_le _
              obtain ⟨M, hM⟩ : ∃ M, ds.length = M := ⟨_, rfl⟩
              rw [hM] at m0 hRT hdl
              rw [hM]
              clear hvl hdec hvs hN hM HN2 HDB
              go_wp2_with (at_make; refine wpList_make_own _ rfl _ _ 22 rfl W.heap.size 5 i0 (.int .u8 0) 1 Tryd.underlying22 hi0 hz0 hz1 .i64 .i64 _ (vs.length + 1) rfl rfl (by omega) (by rw [hz2]; omega) (by simp only [maxLen]; omega) (Nat.le_refl _) ?_; intro w3 hown3 hgrow3)
              have HB3 : Hid (Below W.heap.size W w3) := hide ((Below.refl _ W).grown hgrow3 (Nat.le_refl _) (fun k h => by cases h))
              have HO3 := hide hown3
              clear hown3 hgrow3
              obtain ⟨nv, hnv⟩ : ∃ nv, vs.length = nv := ⟨_, rfl⟩
              rw [hnv] at hlenv HO3
              rw [hnv]
              have HNV := hide hnv; clear hnv
              have nv0 : (nv : Int) ≤ 241 := by omega
              go_loopw [12, 13] (fun s12 s13 W' => ∃ W3, W3 = W' ∧ ∃ (j : Nat) (A2 : Option Addr) (c2 : Nat), j ≤ nv ∧ s12 = .slice A2 (nv - j) c2 ∧ s13 = .int .i64 ((j : Int) - 1) ∧ W3.ownsRow W.heap.size 5 1 (.slice A2 (nv - j) c2) (nv - j) (bcells ((vs.drop j).reverse.map fig)) ∧ Below W.heap.size W W3) (fun _ s13 _ => (intOf s13 + 1).toNat)
              case atStart => exact ⟨_, rfl, nv, _, _, Nat.le_refl _, by rw [Nat.sub_self], rfl, by rw [Nat.sub_self, List.drop_of_length_le (by rw [HNV.out]; exact Nat.le_refl _)]; exact HO3.out, HB3.out⟩
              case round =>
                obtain ⟨W3, rfl, j, A2, c2, hj, rfl, rfl, ho, hb3⟩ := hrel
                have HO := hide ho; clear ho
                have HB4 := hide hb3; clear hb3
                have j0 : (0 : Int) ≤ (j : Int) := by omega
                have j1 : (j : Int) ≤ 241 := by omega
                by_cases hj0 : 0 < j
                · obtain ⟨i, hi⟩ : ∃ i, j = i + 1 := ⟨j - 1, by omega⟩
                  have hiv : i < vs.length := by rw [HNV.out]; omega
                  obtain ⟨g, hA, hgc, hgb⟩ := HIR.out.form (by omega)
                  have hc1 : W.cell? ⟨g, i, none⟩ = some (.int .i64 ((vs[i]'hiv : Nat) : Int)) := by
                    have h9 := HIR.out
                    unfold IRow at h9
                    rw [hA] at h9
                    rw [h9.cellAt i (by omega), icells_get vs i hiv]
                  have hc2 := (HB4.out.cell (p := ⟨g, i, none⟩) (World.block_lt_of_cell? W _ hc1)).trans hc1
                  have hdr := List.drop_eq_getElem_cons hiv
                  have hx10 := HVL.out _ (List.getElem_mem hiv)
                  obtain ⟨x, hx⟩ : ∃ x, vs[i]'hiv = x := ⟨_, rfl⟩
                  rw [hx] at hc2 hdr hx10
                  have hrow : (vs.drop i).reverse.map fig = (vs.drop j).reverse.map fig ++ [fig x] := by rw [hdr, hi]; simp
                  have hfx : ((fig x).toNat : Int) = 48 + (x : Int) := by
                    unfold fig
                    rw [UInt8.toNat_ofNat']; omega
                  have HROW := hide hrow
                  have HFX := hide hfx
                  have ji : (j : Int) - 1 = (i : Int) := by omega
                  have x0 : (0 : Int) ≤ (x : Int) := by omega
                  have x9 : (x : Int) ≤ 9 := by omega
                  have i0' : (0 : Int) ≤ (i : Int) := by omega
                  have i1 : (i : Int) < (nv : Int) := by omega
                  have i2 : (nv : Int) ≤ (c : Int) := by have := HNV.out; omega
                  have hsz : W.heap.size ≤ W3.heap.size := HB4.out.size
                  have hnj : nv - i = nv - j + 1 := by omega
                  have HNJ := hide hnj
                  have hji : i ≤ nv := by omega
                  subst hA
                  clear hc1 hdr hrow hfx hx hi hgc hnj
                  rw [ji]
                  clear ji
                  go_wp2_with ((at_builtin; refine wpList_append_lies _ rfl _ _ _ rfl W.heap.size 5 i0 _ 1 1 Tryd.underlying22 hi0 hz0 hz1 hz2 rfl (by omega) (.slice A2 (nv - j) c2) (nv - j) (bcells ((vs.drop j).reverse.map fig)) rfl (HO.out.alloc _) ⟨W3.heap.size, 0, none⟩ 1 1 [.int .u8 (48 + (x : Int))] rfl rfl (World.news_of_block (cs := #[.int .u8 (48 + (x : Int))]) (t := 5) (fr := (0, 0)) (heap_alloc_new W3 _)) (by simp [Value.oneCell']) (by omega) (by simp only [maxLen]; omega) (by omega) (by simp; omega) (W3.heap.size + 1) (by simp) ?_; intro gg cc w9 hown1 hgrow hat hlt9; have hg1 := grow_of0 hgrow))
                  have HO9 : Hid (w9.ownsRow W.heap.size 5 1 (.slice (some ⟨gg, 0, none⟩) (nv - i) cc) (nv - i) (bcells ((vs.drop i).reverse.map fig))) := hide (by
                    rw [HNJ.out, HROW.out, bcells_append]
                    have : bcells [fig x] = [.int .u8 (48 + (x : Int))] := by unfold bcells; rw [List.map_cons, List.map_nil, HFX.out]
                    rw [this]
                    exact hown1)
                  have HB9 : Hid (Below W.heap.size W w9) := hide (HB4.out.grown hg1 hsz (fun k hk => (own_lt' HO.out k hk).2))
                  clear hown1 hgrow hat hlt9 hg1
                  go_roundw
                  case rel => exact ⟨_, rfl, i, _, _, hji, by rw [HNJ.out], rfl, HO9.out, HB9.out⟩
                  case measure => (simp [intOf]) <;> omega
                · obtain rfl : j = 0 := by omega
                  have ho := HO.out
                  rw [List.drop_zero, Nat.sub_zero] at ho
                  have HO5 := hide ho; clear ho
                  have hfin := HWB.out.trans (HB4.out.mono HWB.out.size)
                  have HFIN := hide hfin; clear hfin
                  rw [Nat.sub_zero]
                  by_cases hv0 : nv = 0
                  · have hvn : vs = [] := List.eq_nil_of_length_eq_zero (by rw [HNV.out]; exact hv0)
                    have HD : Hid (decS N = [48]) := hide (by rw [HDEC.out, if_pos hvn])
                    have ho := HO5.out
                    rw [hv0, hvn] at ho
                    have HO6 := hide ho
                    have hsz : W.heap.size ≤ W3.heap.size := HB4.out.size
                    rw [hv0]
                    clear ho hvn hv0
                    go_wp2_with ((at_builtin; refine wpList_append_lies _ rfl _ _ _ rfl W.heap.size 5 i0 _ 1 1 Tryd.underlying22 hi0 hz0 hz1 hz2 rfl (by omega) (.slice A2 0 c2) 0 [] rfl (HO6.out.alloc _) ⟨W3.heap.size, 0, none⟩ 1 1 [.int .u8 48] rfl rfl (World.news_of_block (cs := #[.int .u8 48]) (t := 5) (fr := (0, 0)) (heap_alloc_new W3 _)) (by simp [Value.oneCell']) (by omega) (by simp only [maxLen]; omega) (by omega) (by simp; omega) (W3.heap.size + 1) (by simp) ?_; intro gg cc w9 hown1 hgrow hat hlt9; have hg1 := grow_of0 hgrow; have hcv : (convert 22 9 (.slice (some ⟨gg, 0, none⟩) 1 cc)).run Tryd.prog w9 = .ok (.string (bs [48])) w9 := (own_bytes (b := [48]) hown1).cv))
                    have HB9 : Hid (Below W.heap.size W w9) := hide (HB4.out.grown hg1 hsz (fun k hk => (own_lt' HO6.out k hk).2))
                    go_ret2
                    have e : numL S = .ok [48] := by rw [HOK.out, HD.out]
                    exact NumRet.good e (HWB.out.trans (HB9.out.mono HWB.out.size))
                  · have hvn : vs ≠ [] := fun e => hv0 (by rw [← HNV.out, e]; rfl)
                    have HD : Hid (decS N = vs.reverse.map fig) := hide (by rw [HDEC.out, if_neg hvn])
                    have hl9 : (vs.reverse.map fig).length = nv := by rw [List.length_map, List.length_reverse, HNV.out]
                    have hby : BytesAt W3 (.slice A2 nv c2) (vs.reverse.map fig) := by
                      have h9 := HO5.out
                      rw [← hl9] at h9 ⊢
                      exact own_bytes h9
                    have hcv := hby.cv
                    have nz : ((((nv : Nat) : Int)) == 0) = false := by rw [beq_eq_false_iff_ne]; omega
                    clear hby hl9 hvn hv0
                    go_wp2_with fail
                    go_ret2
                    exact NumRet.good (by rw [HOK.out, HD.out]; simp) HFIN.out
    · have q1 : (0 : Int) < (T.size : Int) := by omega
      go_enter Tryd.func26, Tryd.ntmps26
      go_wp2_with fail
      refine HBASE.out.mono ?_
      rintro e w1 ⟨rfl, hb1⟩
      have HB1 := hide hb1; clear hb1
      go_wp2_with fail
      go_loopw [6, 7, 8] (fun s6 s7 s8 W' => ∃ W, W = W' ∧ ∃ (k : Nat) (line : Bool) (ds : List Nat) (A : Option Addr) (c : Nat), W.heap[w1.heap.size]? = some (.stringIter T k) ∧ k ≤ T.size ∧ s6 = .slice A (ldL (valL b ds)).length c ∧ s7 = .bool line ∧ s8 = .int .i64 ((ds.length : Nat) : Int) ∧ ds.length ≤ k ∧ (∀ d ∈ ds, d < b) ∧ digsL b false R = (digsL b line (R.drop k)).map (ds ++ ·) ∧ IRow (w1.heap.size + 1) W A c (ldL (valL b ds)) ∧ Below w1.heap.size w1 W ∧ w1.heap.size + 1 ≤ W.heap.size) (fun _ _ _ W' => T.size - posOf w1.heap.size W')
      case atStart =>
        refine ⟨_, rfl, 0, false, [], none, 0, heap_alloc_new w1 _, Nat.zero_le _, rfl, rfl, rfl, Nat.le_refl _, (fun d h => by cases h), ?_, ⟨rfl, .inl ⟨rfl, rfl⟩⟩, (Below.refl _ _).alloc (Nat.le_refl _) _, by simp [World.iter]⟩
        rw [List.drop_zero]
        cases digsL b false R <;> simp
      case round =>
        obtain ⟨W, rfl, k, line, ds, A, c, hit, hk, rfl, rfl, rfl, hdk, hdb, hdg, hir, hbl, hws⟩ := hrel
        have hpos := posOf_at hit
        have HIR := hide hir; clear hir
        have HBL := hide hbl; clear hbl
        have HDB := hide hdb; clear hdb
        have k0 : (0 : Int) ≤ (k : Int) := by omega
        have hlenv := val_len (b := b) (by omega) (by omega) ds HDB.out (by omega)
        by_cases hlt : k < T.size
        · obtain ⟨d, r, hdr⟩ : ∃ d r, R.drop k = d :: r := by
            have hkr : k < R.length := by rw [← HTS.out]; exact hlt
            exact ⟨_, _, List.drop_eq_getElem_cons hkr⟩
          rw [hdr] at hdg
          have hstep := digs_step hdg (by omega)
          have hdr1 : R.drop (k + 1) = r := by rw [← List.drop_drop, hdr]; rfl
          have hnx : ∀ ty, (Instr.next (.pointer (some ⟨w1.heap.size, 0, none⟩)) true ty).run Tryd.prog W = _ := fun ty => run_next_at W w1.heap.size T k hit hlt ty
          have hrd := rune_dig d r
          have hmax := decodeL_max (d :: r)
          rw [decode_eq, HTR.out, hdr] at hnx
          obtain ⟨q, hq⟩ : ∃ q : Int, ((decodeL (d :: r)).1 : Int) = q := ⟨_, rfl⟩
          obtain ⟨n, hn⟩ : ∃ n, (decodeL (d :: r)).2 = n := ⟨_, rfl⟩
          have hq0 : 0 ≤ q := by omega
          have hq1 : q ≤ 1114111 := by omega
          rw [hq, hn] at hnx hrd
          have hdig := fun W => digit_any q hq0 hq1 W
          obtain ⟨W1, hW1⟩ : ∃ W1, turned W w1.heap.size (.stringIter T (k + n)) = W1 := ⟨_, rfl⟩
          have hit1 : W1.heap[w1.heap.size]? = some (.stringIter T (k + n)) := by rw [← hW1]; exact turned_at (by omega) _
          have hir1 : IRow (w1.heap.size + 1) W1 A c (ldL (valL b ds)) := by rw [← hW1]; exact own_turned HIR.out _ (by omega) _
          have hbl1 : Below w1.heap.size w1 W1 := by rw [← hW1]; exact HBL.out.trans (turned_below _ _ (Nat.le_refl _) _)
          have hws1 : w1.heap.size + 1 ≤ W1.heap.size := by rw [← hW1, turned_size]; exact hws
          rw [hW1] at hnx
          have HIT1 := hide hit1
          have HIR1 := hide hir1
          have HBL1 := hide hbl1
          have HRD1 := hide hrd.1
          have HRD2 := hide hrd.2.1
          have e95q := hrd.2.2
          have HSTEP := hide hstep
          have HDR1 := hide hdr1
          have hdlt : k + 1 ≤ T.size := by omega
          clear hit1 hir1 hbl1 hrd hstep hdr1 hdr hdg hW1 hq hn hmax hit hws
          by_cases hd95 : d = 95
          · have hd99 : digL d = 99 := by rw [hd95]; rfl
            have hn1 : n = 1 := HRD2.out (.inr hd95)
            have hqd : digI q = -1 := by rw [HRD1.out, if_pos hd99]
            rw [hqd] at hdig
            rw [decide_eq_true hd95] at e95q
            have HDIG := hide hdig
            subst hn1
            clear hdig hqd
            cases line with
            | false =>
              have HNX := hide (HSTEP.out.1 hd95 rfl)
              clear hd95 hd99
              go_wp2_with fail
              refine (HDIG.out W1).mono ?_
              rintro e w' ⟨rfl, rfl⟩
              go_wp2_with fail
              go_roundw
              case rel => exact ⟨_, rfl, k + 1, true, ds, A, c, HIT1.out, hdlt, rfl, rfl, rfl, by omega, HDB.out, by rw [HDR1.out]; exact HNX.out, HIR1.out, HBL1.out, hws1⟩
              case measure => rw [posOf_at HIT1.out, hpos]; omega
            | true =>
              have HBAD : Hid (numL S = .bad) := hide (by rw [HN2.out, HSTEP.out.2.1 (fun h => by cases h.2) (by omega)])
              clear hd95 hd99
              go_wp2_with fail
              refine (HDIG.out W1).mono ?_
              rintro e w' ⟨rfl, rfl⟩
              go_wp2_with fail
              go_ret2
              exact NumRet.bad HBAD.out (HB1.out.trans (HBL1.out.mono HB1.out.size))
          · rw [decide_eq_false hd95] at e95q
            by_cases hdb : b ≤ digL d
            · have HBAD : Hid (numL S = .bad) := hide (by rw [HN2.out, HSTEP.out.2.1 (fun h => hd95 h.1) hdb])
              have hqd : digI q < 0 ∨ ¬ digI q < (b : Int) := by
                rw [HRD1.out]
                by_cases h : digL d = 99
                · left; rw [if_pos h]; decide
                · right; rw [if_neg h]; omega
              have HDIG := hide hdig
              obtain ⟨v, hv⟩ : ∃ v, digI q = v := ⟨_, rfl⟩
              rw [hv] at hqd
              have HV := hide hv
              clear hdig hd95 hdb hv
              have hvs : v < 0 ∨ (¬ v < 0 ∧ ¬ v < (b : Int)) := by omega
              clear hqd
              rcases hvs with hv0 | ⟨hv0, hv1⟩
              all_goals
                go_wp2_with fail
                refine (HDIG.out W1).mono ?_
                rw [HV.out]
                rintro e w' ⟨rfl, rfl⟩
                go_wp2_with fail
                go_ret2
                exact NumRet.bad HBAD.out (HB1.out.trans (HBL1.out.mono HB1.out.size))
            · have hdb2 : digL d < b := by omega
              have hn1 : n = 1 := HRD2.out (.inl (by omega))
              have HNX := hide (HSTEP.out.2.2 (fun h => hd95 h.1) hdb2)
              have hqd : digI q = (digL d : Int) := by rw [HRD1.out, if_neg (by omega)]
              rw [hqd] at hdig
              have HDIG := hide hdig
              subst hn1
              obtain ⟨g, hg⟩ : ∃ g, digL d = g := ⟨_, rfl⟩
              have ht := times_any (w1.heap.size + 1) W1 A c (ldL (valL b ds)) b g HIR1.out (ldL_lt _) (by omega) (by omega) (by omega) hws1
              rw [timesL_ld (by omega), ← valL_snoc] at ht
              have HT9 := hide ht
              have HDB2 : Hid (∀ x ∈ ds ++ [g], x < b) := hide (by
                intro x hx
                rcases List.mem_append.1 hx with hx | hx
                · exact HDB.out x hx
                · rw [List.mem_singleton.1 hx, ← hg]; exact hdb2)
              rw [hg] at HDIG HNX
              have g0 : (0 : Int) ≤ (g : Int) := by omega
              have g1 : (g : Int) < (b : Int) := by omega
              clear hdig hd95 hdb hqd ht hg hdb2
              go_wp2_with fail
              refine (HDIG.out W1).mono ?_
              rintro e w' ⟨rfl, rfl⟩
              go_wp2_with fail
              refine HT9.out.mono ?_
              rintro e w2 ⟨A', c', rfl, hir2, hb2⟩
              have HIT2 : Hid (w2.heap[w1.heap.size]? = some (.stringIter T (k + 1))) := hide ((hb2.block _ (by omega)).trans HIT1.out)
              have HIR2 := hide hir2
              have HBL2 : Hid (Below w1.heap.size w1 w2) := hide (HBL1.out.trans (hb2.mono (by omega)))
              have hws2 : w1.heap.size + 1 ≤ w2.heap.size := Nat.le_trans hws1 hb2.size
              clear hir2 hb2
              go_wp2_with fail
              go_roundw
              case rel => exact ⟨_, rfl, k + 1, false, ds ++ [g], A', c', HIT2.out, hdlt, rfl, rfl, by rw [List.length_append, List.length_singleton]; go_num, by rw [List.length_append, List.length_singleton]; omega, HDB2.out, by rw [HDR1.out]; exact HNX.out, HIR2.out, HBL2.out, hws2⟩
              case measure => rw [posOf_at HIT2.out, hpos]; omega
        · have hnx : ∀ ty, (Instr.next (.pointer (some ⟨w1.heap.size, 0, none⟩)) true ty).run Tryd.prog W = _ := fun ty => run_next_over W w1.heap.size T k hit hlt ty
          have hend : digsL b false R = if line = true then none else some ds := by
            rw [hdg, List.drop_of_length_le (by rw [← HTS.out]; omega)]
            cases line <;> simp [digsL]
          clear hdg hit
          cases line with
          | true =>
            have HBAD : Hid (numL S = .bad) := hide (by rw [HN2.out, hend]; rfl)
            clear hend
            go_wp2_with fail
            go_ret2
            exact NumRet.bad HBAD.out (HB1.out.trans (HBL.out.mono HB1.out.size))
          | false =>
            by_cases hds : ds = []
            · have HBAD : Hid (numL S = .bad) := hide (by rw [HN2.out, hend, hds]; rfl)
              subst hds
              clear hend
              go_wp2_with fail
              go_ret2
              exact NumRet.bad HBAD.out (HB1.out.trans (HBL.out.mono HB1.out.size))
            · have hdl := List.length_pos_iff.2 hds
              have HOK : Hid (numL S = .ok (decS (valL b ds))) := hide (by
                rw [HN2.out, hend]
                cases ds with
                | nil => exact absurd rfl hds
                | cons x xs => rfl)
              have m0 : ((((ds.length : Nat) : Int)) == 0) = false := by rw [beq_eq_false_iff_ne]; omega
              have hRT : ds.length ≤ R.length := by rw [← HTS.out]; omega
              clear hend hds
              obtain ⟨N, hN⟩ : ∃ N, valL b ds = N := ⟨_, rfl⟩
              rw [hN] at HOK HIR hlenv
              rw [hN]
              obtain ⟨vs, hvs⟩ : ∃ vs, ldL N = vs := ⟨_, rfl⟩
              have hvl := ldL_lt N
              have hdec : decS N = if vs = [] then [48] else vs.reverse.map fig := by
                unfold decS
                rw [← hvs]
                rcases Nat.eq_zero_or_pos N with h | h
                · rw [if_pos h, h, ldL_zero, if_pos rfl]
                · rw [if_neg (by omega), if_neg (ldL_ne h)]
              rw [hvs] at HIR hlenv hvl
              rw [hvs]
              have HVL := hide hvl
              have HDEC := hide hdec
              have HWB := hide (HB1.out.trans (HBL.out.mono HB1.out.size))
              have hwB : 0 ≤ W.heap.size := Nat.zero_le _
              obtain ⟨M, hM⟩ : ∃ M, ds.length = M := ⟨_, rfl⟩
              rw [hM] at m0 hRT hdl
              rw [hM]
              clear hvl hdec hvs hN hM HN2 HDB
              by_cases hM1 : (1 : Int) < (M : Int)
              · have n48 : (((d0.toNat : Int)) == 48) = false := byte_eqF 48 48 (h48 (by omega))
                clear h48
                go_wp2_with (at_make; refine wpList_make_own _ rfl _ _ 22 rfl W.heap.size 5 i0 (.int .u8 0) 1 Tryd.underlying22 hi0 hz0 hz1 .i64 .i64 _ (vs.length + 1) rfl rfl (by omega) (by rw [hz2]; omega) (by simp only [maxLen]; omega) (Nat.le_refl _) ?_; intro w3 hown3 hgrow3)
                have HB3 : Hid (Below W.heap.size W w3) := hide ((Below.refl _ W).grown hgrow3 (Nat.le_refl _) (fun k h => by cases h))
                have HO3 := hide hown3
                clear hown3 hgrow3
                obtain ⟨nv, hnv⟩ : ∃ nv, vs.length = nv := ⟨_, rfl⟩
                rw [hnv] at hlenv HO3
                rw [hnv]
                have HNV := hide hnv; clear hnv
                have nv0 : (nv : Int) ≤ 241 := by omega
                go_loopw [12, 13] (fun s12 s13 W' => ∃ W3, W3 = W' ∧ ∃ (j : Nat) (A2 : Option Addr) (c2 : Nat), j ≤ nv ∧ s12 = .slice A2 (nv - j) c2 ∧ s13 = .int .i64 ((j : Int) - 1) ∧ W3.ownsRow W.heap.size 5 1 (.slice A2 (nv - j) c2) (nv - j) (bcells ((vs.drop j).reverse.map fig)) ∧ Below W.heap.size W W3) (fun _ s13 _ => (intOf s13 + 1).toNat)
                case atStart => exact ⟨_, rfl, nv, _, _, Nat.le_refl _, by rw [Nat.sub_self], rfl, by rw [Nat.sub_self, List.drop_of_length_le (by rw [HNV.out]; exact Nat.le_refl _)]; exact HO3.out, HB3.out⟩
                case round =>
                  obtain ⟨W3, rfl, j, A2, c2, hj, rfl, rfl, ho, hb3⟩ := hrel
                  have HO := hide ho; clear ho
                  have HB4 := hide hb3; clear hb3
                  have j0 : (0 : Int) ≤ (j : Int) := by omega
                  have j1 : (j : Int) ≤ 241 := by omega
                  by_cases hj0 : 0 < j
                  · obtain ⟨i, hi⟩ : ∃ i, j = i + 1 := ⟨j - 1, by omega⟩
                    have hiv : i < vs.length := by rw [HNV.out]; omega
                    obtain ⟨g, hA, hgc, hgb⟩ := HIR.out.form (by omega)
                    have hc1 : W.cell? ⟨g, i, none⟩ = some (.int .i64 ((vs[i]'hiv : Nat) : Int)) := by
                      have h9 := HIR.out
                      unfold IRow at h9
                      rw [hA] at h9
                      rw [h9.cellAt i (by omega), icells_get vs i hiv]
                    have hc2 := (HB4.out.cell (p := ⟨g, i, none⟩) (World.block_lt_of_cell? W _ hc1)).trans hc1
                    have hdr := List.drop_eq_getElem_cons hiv
                    have hx10 := HVL.out _ (List.getElem_mem hiv)
                    obtain ⟨x, hx⟩ : ∃ x, vs[i]'hiv = x := ⟨_, rfl⟩
                    rw [hx] at hc2 hdr hx10
                    have hrow : (vs.drop i).reverse.map fig = (vs.drop j).reverse.map fig ++ [fig x] := by rw [hdr, hi]; simp
                    have hfx : ((fig x).toNat : Int) = 48 + (x : Int) := by
                      unfold fig
                      rw [UInt8.toNat_ofNat']; omega
                    have HROW := hide hrow
                    have HFX := hide hfx
                    have ji : (j : Int) - 1 = (i : Int) := by omega
                    have x0 : (0 : Int) ≤ (x : Int) := by omega
                    have x9 : (x : Int) ≤ 9 := by omega
                    have i0' : (0 : Int) ≤ (i : Int) := by omega
                    have i1 : (i : Int) < (nv : Int) := by omega
                    have i2 : (nv : Int) ≤ (c : Int) := by have := HNV.out; omega
                    have hsz : W.heap.size ≤ W3.heap.size := HB4.out.size
                    have hnj : nv - i = nv - j + 1 := by omega
                    have HNJ := hide hnj
                    have hji : i ≤ nv := by omega
                    subst hA
                    clear hc1 hdr hrow hfx hx hi hgc hnj
                    rw [ji]
                    clear ji
                    go_wp2_with ((at_builtin; refine wpList_append_lies _ rfl _ _ _ rfl W.heap.size 5 i0 _ 1 1 Tryd.underlying22 hi0 hz0 hz1 hz2 rfl (by omega) (.slice A2 (nv - j) c2) (nv - j) (bcells ((vs.drop j).reverse.map fig)) rfl (HO.out.alloc _) ⟨W3.heap.size, 0, none⟩ 1 1 [.int .u8 (48 + (x : Int))] rfl rfl (World.news_of_block (cs := #[.int .u8 (48 + (x : Int))]) (t := 5) (fr := (0, 0)) (heap_alloc_new W3 _)) (by simp [Value.oneCell']) (by omega) (by simp only [maxLen]; omega) (by omega) (by simp; omega) (W3.heap.size + 1) (by simp) ?_; intro gg cc w9 hown1 hgrow hat hlt9; have hg1 := grow_of0 hgrow))
                    have HO9 : Hid (w9.ownsRow W.heap.size 5 1 (.slice (some ⟨gg, 0, none⟩) (nv - i) cc) (nv - i) (bcells ((vs.drop i).reverse.map fig))) := hide (by
                      rw [HNJ.out, HROW.out, bcells_append]
                      have : bcells [fig x] = [.int .u8 (48 + (x : Int))] := by unfold bcells; rw [List.map_cons, List.map_nil, HFX.out]
                      rw [this]
                      exact hown1)
                    have HB9 : Hid (Below W.heap.size W w9) := hide (HB4.out.grown hg1 hsz (fun k hk => (own_lt' HO.out k hk).2))
                    clear hown1 hgrow hat hlt9 hg1
                    go_roundw
                    case rel => exact ⟨_, rfl, i, _, _, hji, by rw [HNJ.out], rfl, HO9.out, HB9.out⟩
                    case measure => (simp [intOf]) <;> omega
                  · obtain rfl : j = 0 := by omega
                    have ho := HO.out
                    rw [List.drop_zero, Nat.sub_zero] at ho
                    have HO5 := hide ho; clear ho
                    have hfin := HWB.out.trans (HB4.out.mono HWB.out.size)
                    have HFIN := hide hfin; clear hfin
                    rw [Nat.sub_zero]
                    by_cases hv0 : nv = 0
                    · have hvn : vs = [] := List.eq_nil_of_length_eq_zero (by rw [HNV.out]; exact hv0)
                      have HD : Hid (decS N = [48]) := hide (by rw [HDEC.out, if_pos hvn])
                      have ho := HO5.out
                      rw [hv0, hvn] at ho
                      have HO6 := hide ho
                      have hsz : W.heap.size ≤ W3.heap.size := HB4.out.size
                      rw [hv0]
                      clear ho hvn hv0
                      go_wp2_with ((at_builtin; refine wpList_append_lies _ rfl _ _ _ rfl W.heap.size 5 i0 _ 1 1 Tryd.underlying22 hi0 hz0 hz1 hz2 rfl (by omega) (.slice A2 0 c2) 0 [] rfl (HO6.out.alloc _) ⟨W3.heap.size, 0, none⟩ 1 1 [.int .u8 48] rfl rfl (World.news_of_block (cs := #[.int .u8 48]) (t := 5) (fr := (0, 0)) (heap_alloc_new W3 _)) (by simp [Value.oneCell']) (by omega) (by simp only [maxLen]; omega) (by omega) (by simp; omega) (W3.heap.size + 1) (by simp) ?_; intro gg cc w9 hown1 hgrow hat hlt9; have hg1 := grow_of0 hgrow; have hcv : (convert 22 9 (.slice (some ⟨gg, 0, none⟩) 1 cc)).run Tryd.prog w9 = .ok (.string (bs [48])) w9 := (own_bytes (b := [48]) hown1).cv))
                      have HB9 : Hid (Below W.heap.size W w9) := hide (HB4.out.grown hg1 hsz (fun k hk => (own_lt' HO6.out k hk).2))
                      go_ret2
                      have e : numL S = .ok [48] := by rw [HOK.out, HD.out]
                      exact NumRet.good e (HWB.out.trans (HB9.out.mono HWB.out.size))
                    · have hvn : vs ≠ [] := fun e => hv0 (by rw [← HNV.out, e]; rfl)
                      have HD : Hid (decS N = vs.reverse.map fig) := hide (by rw [HDEC.out, if_neg hvn])
                      have hl9 : (vs.reverse.map fig).length = nv := by rw [List.length_map, List.length_reverse, HNV.out]
                      have hby : BytesAt W3 (.slice A2 nv c2) (vs.reverse.map fig) := by
                        have h9 := HO5.out
                        rw [← hl9] at h9 ⊢
                        exact own_bytes h9
                      have hcv := hby.cv
                      have nz : ((((nv : Nat) : Int)) == 0) = false := by rw [beq_eq_false_iff_ne]; omega
                      clear hby hl9 hvn hv0
                      go_wp2_with fail
                      go_ret2
                      exact NumRet.good (by rw [HOK.out, HD.out]; simp) HFIN.out
              · clear h48
                go_wp2_with (at_make; refine wpList_make_own _ rfl _ _ 22 rfl W.heap.size 5 i0 (.int .u8 0) 1 Tryd.underlying22 hi0 hz0 hz1 .i64 .i64 _ (vs.length + 1) rfl rfl (by omega) (by rw [hz2]; omega) (by simp only [maxLen]; omega) (Nat.le_refl _) ?_; intro w3 hown3 hgrow3)
                have HB3 : Hid (Below W.heap.size W w3) := hide ((Below.refl _ W).grown hgrow3 (Nat.le_refl _) (fun k h => by cases h))
                have HO3 := hide hown3
                clear hown3 hgrow3
                obtain ⟨nv, hnv⟩ : ∃ nv, vs.length = nv := ⟨_, rfl⟩
                rw [hnv] at hlenv HO3
                rw [hnv]
                have HNV := hide hnv; clear hnv
                have nv0 : (nv : Int) ≤ 241 := by omega
                go_loopw [12, 13] (fun s12 s13 W' => ∃ W3, W3 = W' ∧ ∃ (j : Nat) (A2 : Option Addr) (c2 : Nat), j ≤ nv ∧ s12 = .slice A2 (nv - j) c2 ∧ s13 = .int .i64 ((j : Int) - 1) ∧ W3.ownsRow W.heap.size 5 1 (.slice A2 (nv - j) c2) (nv - j) (bcells ((vs.drop j).reverse.map fig)) ∧ Below W.heap.size W W3) (fun _ s13 _ => (intOf s13 + 1).toNat)
                case atStart => exact ⟨_, rfl, nv, _, _, Nat.le_refl _, by rw [Nat.sub_self], rfl, by rw [Nat.sub_self, List.drop_of_length_le (by rw [HNV.out]; exact Nat.le_refl _)]; exact HO3.out, HB3.out⟩
                case round =>
                  obtain ⟨W3, rfl, j, A2, c2, hj, rfl, rfl, ho, hb3⟩ := hrel
                  have HO := hide ho; clear ho
                  have HB4 := hide hb3; clear hb3
                  have j0 : (0 : Int) ≤ (j : Int) := by omega
                  have j1 : (j : Int) ≤ 241 := by omega
                  by_cases hj0 : 0 < j
                  · obtain ⟨i, hi⟩ : ∃ i, j = i + 1 := ⟨j - 1, by omega⟩
                    have hiv : i < vs.length := by rw [HNV.out]; omega
                    obtain ⟨g, hA, hgc, hgb⟩ := HIR.out.form (by omega)
                    have hc1 : W.cell? ⟨g, i, none⟩ = some (.int .i64 ((vs[i]'hiv : Nat) : Int)) := by
                      have h9 := HIR.out
                      unfold IRow at h9
                      rw [hA] at h9
                      rw [h9.cellAt i (by omega), icells_get vs i hiv]
                    have hc2 := (HB4.out.cell (p := ⟨g, i, none⟩) (World.block_lt_of_cell? W _ hc1)).trans hc1
                    have hdr := List.drop_eq_getElem_cons hiv
                    have hx10 := HVL.out _ (List.getElem_mem hiv)
                    obtain ⟨x, hx⟩ : ∃ x, vs[i]'hiv = x := ⟨_, rfl⟩
                    rw [hx] at hc2 hdr hx10
                    have hrow : (vs.drop i).reverse.map fig = (vs.drop j).reverse.map fig ++ [fig x] := by rw [hdr, hi]; simp
                    have hfx : ((fig x).toNat : Int) = 48 + (x : Int) := by
                      unfold fig
                      rw [UInt8.toNat_ofNat']; omega
                    have HROW := hide hrow
                    have HFX := hide hfx
                    have ji : (j : Int) - 1 = (i : Int) := by omega
                    have x0 : (0 : Int) ≤ (x : Int) := by omega
                    have x9 : (x : Int) ≤ 9 := by omega
                    have i0' : (0 : Int) ≤ (i : Int) := by omega
                    have i1 : (i : Int) < (nv : Int) := by omega
                    have i2 : (nv : Int) ≤ (c : Int) := by have := HNV.out; omega
                    have hsz : W.heap.size ≤ W3.heap.size := HB4.out.size
                    have hnj : nv - i = nv - j + 1 := by omega
                    have HNJ := hide hnj
                    have hji : i ≤ nv := by omega
                    subst hA
                    clear hc1 hdr hrow hfx hx hi hgc hnj
                    rw [ji]
                    clear ji
                    go_wp2_with ((at_builtin; refine wpList_append_lies _ rfl _ _ _ rfl W.heap.size 5 i0 _ 1 1 Tryd.underlying22 hi0 hz0 hz1 hz2 rfl (by omega) (.slice A2 (nv - j) c2) (nv - j) (bcells ((vs.drop j).reverse.map fig)) rfl (HO.out.alloc _) ⟨W3.heap.size, 0, none⟩ 1 1 [.int .u8 (48 + (x : Int))] rfl rfl (World.news_of_block (cs := #[.int .u8 (48 + (x : Int))]) (t := 5) (fr := (0, 0)) (heap_alloc_new W3 _)) (by simp [Value.oneCell']) (by omega) (by simp only [maxLen]; omega) (by omega) (by simp; omega) (W3.heap.size + 1) (by simp) ?_; intro gg cc w9 hown1 hgrow hat hlt9; have hg1 := grow_of0 hgrow))
                    have HO9 : Hid (w9.ownsRow W.heap.size 5 1 (.slice (some ⟨gg, 0, none⟩) (nv - i) cc) (nv - i) (bcells ((vs.drop i).reverse.map fig))) := hide (by
                      rw [HNJ.out, HROW.out, bcells_append]
                      have : bcells [fig x] = [.int .u8 (48 + (x : Int))] := by unfold bcells; rw [List.map_cons, List.map_nil, HFX.out]
                      rw [this]
                      exact hown1)
                    have HB9 : Hid (Below W.heap.size W w9) := hide (HB4.out.grown hg1 hsz (fun k hk => (own_lt' HO.out k hk).2))
                    clear hown1 hgrow hat hlt9 hg1
                    go_roundw
                    case rel => exact ⟨_, rfl, i, _, _, hji, by rw [HNJ.out], rfl, HO9.out, HB9.out⟩
                    case measure => (simp [intOf]) <;> omega
                  · obtain rfl : j = 0 := by omega
                    have ho := HO.out
                    rw [List.drop_zero, Nat.sub_zero] at ho
                    have HO5 := hide ho; clear ho
                    have hfin := HWB.out.trans (HB4.out.mono HWB.out.size)
                    have HFIN := hide hfin; clear hfin
                    rw [Nat.sub_zero]
                    by_cases hv0 : nv = 0
                    · have hvn : vs = [] := List.eq_nil_of_length_eq_zero (by rw [HNV.out]; exact hv0)
                      have HD : Hid (decS N = [48]) := hide (by rw [HDEC.out, if_pos hvn])
                      have ho := HO5.out
                      rw [hv0, hvn] at ho
                      have HO6 := hide ho
                      have hsz : W.heap.size ≤ W3.heap.size := HB4.out.size
                      rw [hv0]
                      clear ho hvn hv0
                      go_wp2_with ((at_builtin; refine wpList_append_lies _ rfl _ _ _ rfl W.heap.size 5 i0 _ 1 1 Tryd.underlying22 hi0 hz0 hz1 hz2 rfl (by omega) (.slice A2 0 c2) 0 [] rfl (HO6.out.alloc _) ⟨W3.heap.size, 0, none⟩ 1 1 [.int .u8 48] rfl rfl (World.news_of_block (cs := #[.int .u8 48]) (t := 5) (fr := (0, 0)) (heap_alloc_new W3 _)) (by simp [Value.oneCell']) (by omega) (by simp only [maxLen]; omega) (by omega) (by simp; omega) (W3.heap.size + 1) (by simp) ?_; intro gg cc w9 hown1 hgrow hat hlt9; have hg1 := grow_of0 hgrow; have hcv : (convert 22 9 (.slice (some ⟨gg, 0, none⟩) 1 cc)).run Tryd.prog w9 = .ok (.string (bs [48])) w9 := (own_bytes (b := [48]) hown1).cv))
                      have HB9 : Hid (Below W.heap.size W w9) := hide (HB4.out.grown hg1 hsz (fun k hk => (own_lt' HO6.out k hk).2))
                      go_ret2
                      have e : numL S = .ok [48] := by rw [HOK.out, HD.out]
                      exact NumRet.good e (HWB.out.trans (HB9.out.mono HWB.out.size))
                    · have hvn : vs ≠ [] := fun e => hv0 (by rw [← HNV.out, e]; rfl)
                      have HD : Hid (decS N = vs.reverse.map fig) := hide (by rw [HDEC.out, if_neg hvn])
                      have hl9 : (vs.reverse.map fig).length = nv := by rw [List.length_map, List.length_reverse, HNV.out]
                      have hby : BytesAt W3 (.slice A2 nv c2) (vs.reverse.map fig) := by
                        have h9 := HO5.out
                        rw [← hl9] at h9 ⊢
                        exact own_bytes h9
                      have hcv := hby.cv
                      have nz : ((((nv : Nat) : Int)) == 0) = false := by rw [beq_eq_false_iff_ne]; omega
                      clear hby hl9 hvn hv0
                      go_wp2_with fail
                      go_ret2
                      exact NumRet.good (by rw [HOK.out, HD.out]; simp) HFIN.out
end Go.Proofs.YtehflgllfkkfoaaDoor
