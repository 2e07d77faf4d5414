/- The reference's 'note' and 'quoted'. -/
import Derived.Test.YtehflgllfkkfoaaDoorRf
import Derived.Test.YtehflgllfkkfoaaDoorTo
import Derived.StillTactics
set_option linter.unusedVariables false
set_option linter.unusedSimpArgs false
namespace Go.Proofs.YtehflgllfkkfoaaDoor
open Go.RowKit Go.Proofs.Dm

/-- A slice of bytes at a place. -/
def BA (w : World) (a o cap : Nat) (b : Bs) : Prop := b.length ≤ cap ∧ ∀ j (hj : j < b.length), w.cell? ⟨a, o + j, none⟩ = some (.int .u8 ((b[j]'hj).toNat : Int))
theorem BA.below {w w' : World} {a o cap : Nat} {b : Bs} (h : BA w a o cap b) (hb : Below w.heap.size w w') : BA w' a o cap b :=
  ⟨h.1, fun j hj => (hb.cell (p := ⟨a, o + j, none⟩) (World.block_lt_of_cell? w _ (h.2 j hj))).trans (h.2 j hj)⟩
theorem BA.at {w : World} {a o cap : Nat} {b : Bs} (h : BA w a o cap b) : BytesAt w (.slice (some ⟨a, o, none⟩) b.length cap) b := .inr ⟨a, o, cap, rfl, h.1, h.2⟩
theorem BA.cv {w : World} {a o cap : Nat} {b : Bs} (h : BA w a o cap b) (p n : Nat) (hn : p + n ≤ b.length) :
    (convert 22 9 (.slice (some ⟨a, o + p, none⟩) n (cap - p))).run Tryd.prog w = .ok (.string (bs ((b.drop p).take n))) w := by
  have hl : ((b.drop p).take n).length = n := by rw [List.length_take, List.length_drop]; omega
  have hb : BytesAt w (.slice (some ⟨a, o + p, none⟩) n (cap - p)) ((b.drop p).take n) := by
    refine .inr ⟨a, o + p, cap - p, by rw [hl], by rw [hl]; have := h.1; omega, fun j hj => ?_⟩
    rw [hl] at hj
    rw [Nat.add_assoc, h.2 (p + j) (by omega)]
    simp [List.getElem_take, List.getElem_drop]
  exact hb.cv
theorem byte_eqF {d : UInt8} (x : UInt8) (n : Nat) (h : d ≠ x) (hx : x.toNat = n := by rfl) : ((d.toNat : Int) == (n : Int)) = false := by
  rw [beq_eq_false_iff_ne]
  intro e
  exact h (UInt8.toNat_inj.1 (by omega))
theorem byte_neT {d : UInt8} (x : UInt8) (n : Nat) (h : d ≠ x) (hx : x.toNat = n := by rfl) : ((d.toNat : Int) != (n : Int)) = true := by
  unfold bne; rw [byte_eqF x n h hx]; rfl

def noteInt (b : Bs) (p : Nat) : Int := match noteLen (b.drop p) with | none => 0 | some none => -1 | some (some n) => ((p + n : Nat) : Int)
theorem noteInt_none {b : Bs} {p : Nat} (h : noteLen (b.drop p) = none) : noteInt b p = 0 := by unfold noteInt; rw [h]
theorem takeWhile_upto (l : Bs) (k : Nat) (hk : k ≤ l.length) (h : ∀ c ∈ l.take k, c ≠ 10) (he : k = l.length ∨ ∃ r, l.drop k = 10 :: r) : lineLen l = k := by
  unfold lineLen
  induction l generalizing k with
  | nil => simp at hk; simp [hk]
  | cons c l ih =>
    cases k with
    | zero =>
      rcases he with he | ⟨r, he⟩
      · simp at he
      · rw [List.drop_zero] at he
        injection he with h1 _
        subst h1
        simp
    | succ k =>
      have hc := h c (by simp)
      rw [List.takeWhile_cons, if_pos (by simpa using hc), List.length_cons]
      rw [ih k (by simpa using hk) (fun x hx => h x (by simp [hx])) (by rcases he with he | ⟨r, he⟩; exact .inl (by simpa using he); exact .inr ⟨r, by simpa using he⟩)]
theorem lineLen_two (c d : UInt8) (r : Bs) (hc : c ≠ 10) (hd : d ≠ 10) : lineLen (c :: d :: r) = lineLen r + 2 := by
  unfold lineLen
  rw [List.takeWhile_cons, if_pos (by simpa using hc), List.takeWhile_cons, if_pos (by simpa using hd)]; simp
theorem close_here (r : Bs) : closeAt (42 :: 47 :: r) = some 0 := by simp [closeAt]
theorem close_next (c : UInt8) (r : Bs) (h : ¬ (c = 42 ∧ r.take 1 = [47])) : closeAt (c :: r) = (closeAt r).map (· + 1) := by
  rw [closeAt, if_neg]; simpa using h
theorem close_short (r : Bs) (h : r.length ≤ 1) : closeAt r = none := by
  cases r with
  | nil => rfl
  | cons c r =>
    cases r with
    | nil => simp [closeAt]
    | cons d r => simp at h

set_option maxRecDepth 100000 in
set_option maxHeartbeats 6400000 in
theorem rnote_any (w : World) (a o cap : Nat) (b : Bs) (hba : BA w a o cap b) (hb : b.length ≤ 65536) (p : Nat) (hp : p < b.length) :
    Calls Tryd.prog 38 #[.slice (some ⟨a, o, none⟩) b.length cap, .int .i64 (p : Int)] w fun e w' => e = .returned (.int .i64 (noteInt b p)) ∧ w = w' := by
  have hcap : (b.length : Int) ≤ (cap : Int) := by have := hba.1; omega
  have HBA := hide hba; clear hba
  obtain ⟨V, hV⟩ : ∃ V, noteInt b p = V := ⟨_, rfl⟩
  rw [hV]
  have HV := hide hV; clear hV
  have p0 : (0 : Int) ≤ (p : Int) := by omega
  have p1 : (p : Int) < (b.length : Int) := by omega
  have p2 : (b.length : Int) ≤ 65536 := by omega
  have hd0 := List.drop_eq_getElem_cons hp
  by_cases h2 : (b.length : Int) < (p : Int) + 2
  · have hv : Hid (V = 0) := hide (by
      rw [← HV.out]
      refine noteInt_none ?_
      rw [hd0, noteLen_none, List.drop_of_length_le (by omega)]
      simp)
    have d2 : decide ((b.length : Int) < (p : Int) + 2) = true := decide_eq_true h2
    clear hd0
    go_enter Tryd.func38, Tryd.ntmps38
    go_wp2_with fail
    go_ret
    exact ⟨ret_int hv.out.symm, rfl⟩
  have d2 : decide ((b.length : Int) < (p : Int) + 2) = false := decide_eq_false h2
  have hp1 : p + 1 < b.length := by omega
  have q1 : (p : Int) + 1 < (b.length : Int) := by omega
  have hd1 := List.drop_eq_getElem_cons hp1
  have c0 := HBA.out.2 p hp
  have c1 := HBA.out.2 (p + 1) hp1
  rw [hd1] at hd0
  obtain ⟨x, hx⟩ : ∃ x, b[p]'hp = x := ⟨_, rfl⟩
  obtain ⟨y, hy⟩ : ∃ y, b[p + 1]'hp1 = y := ⟨_, rfl⟩
  rw [hx] at c0 hd0
  rw [hy] at c1 hd0 hd1
  have HX := hide hx; clear hx
  have HY := hide hy; clear hy
  have HD0 := hide hd0; clear hd0
  have HD1 := hide hd1; clear hd1
  by_cases h47 : x = 47
  case neg =>
    have hv : Hid (V = 0) := hide (by
      rw [← HV.out]
      refine noteInt_none ?_
      rw [HD0.out, noteLen_none]
      exact fun h => h47 h.1)
    have e1 : (((x.toNat : Int)) != 47) = true := byte_neT 47 47 h47
    clear h47
    go_enter Tryd.func38, Tryd.ntmps38
    go_wp2_with fail
    go_ret
    exact ⟨ret_int hv.out.symm, rfl⟩
  subst h47
  have c0' : w.cell? ⟨a, o + p, none⟩ = some (.int .u8 47) := c0
  clear c0
  by_cases hy47 : y = 47
  · subst hy47
    have c1' : w.cell? ⟨a, o + (p + 1), none⟩ = some (.int .u8 47) := c1
    clear c1
    have HL : Hid (∀ k, p ≤ k → k ≤ b.length → (∀ j (hj : j < b.length), p ≤ j → j < k → b[j] ≠ 10) → (k = b.length ∨ ∃ r, b.drop k = 10 :: r) → V = (k : Int)) := hide (by
      intro k h1 h2 h3 h4
      have hline : lineLen (b.drop p) = k - p := takeWhile_upto _ _ (by rw [List.length_drop]; omega) (by
        intro c hc
        obtain ⟨i, hi, rfl⟩ := List.mem_iff_getElem.1 hc
        rw [List.length_take, List.length_drop] at hi
        rw [List.getElem_take, List.getElem_drop]
        exact h3 (p + i) (by omega) (by omega) (by omega)) (by
        rw [List.length_drop, List.drop_drop, show p + (k - p) = k from by omega]
        rcases h4 with h4 | h4
        · exact .inl (by omega)
        · exact .inr h4)
      rw [← HV.out]
      unfold noteInt
      rw [HD0.out] at hline ⊢
      rw [lineLen_two 47 47 _ (by decide) (by decide)] at hline
      simp only [noteLen]
      omega)
    go_enter Tryd.func38, Tryd.ntmps38
    go_wp2_with fail
    go_loop [5] (fun i => ∃ k : Nat, p ≤ k ∧ k ≤ b.length ∧ i = .int .i64 k ∧ ∀ j (hj : j < b.length), p ≤ j → j < k → b[j] ≠ 10) (fun i => b.length - (intOf i).toNat)
    case atStart => exact ⟨p, Nat.le_refl _, by omega, rfl, fun j hj h1 h2 => by omega⟩
    case round =>
      obtain ⟨k, hk1, hk2, rfl, hno⟩ := hrel
      have HNO := hide hno; clear hno
      have k0 : (0 : Int) ≤ (k : Int) := by omega
      by_cases hlt : k < b.length
      · have k1 : (k : Int) < (b.length : Int) := by omega
        have kd : decide ((k : Int) < (b.length : Int)) = true := decide_eq_true k1
        have ck := HBA.out.2 k hlt
        obtain ⟨z, hz⟩ : ∃ z, b[k]'hlt = z := ⟨_, rfl⟩
        rw [hz] at ck
        have HZ := hide hz; clear hz
        by_cases h10 : z = 10
        · have hv : Hid (V = (k : Int)) := hide (HL.out k hk1 (by omega) HNO.out (.inr ⟨_, by rw [List.drop_eq_getElem_cons hlt, HZ.out, h10]⟩))
          subst h10
          have ck' : w.cell? ⟨a, o + k, none⟩ = some (.int .u8 10) := ck
          clear ck
          go_wp2_with fail
          go_ret
          exact ⟨ret_int hv.out.symm, rfl⟩
        · have hn2 : Hid (∀ j (hj : j < b.length), p ≤ j → j < k + 1 → b[j] ≠ 10) := hide (by
            intro j hj h1 h2
            by_cases hjk : j = k
            · subst hjk; rw [HZ.out]; exact h10
            · exact HNO.out j hj h1 (by omega))
          have e1 : (((z.toNat : Int)) != 10) = true := byte_neT 10 10 h10
          clear h10
          go_wp2_with fail
          go_round
          case rel => exact ⟨k + 1, by omega, by omega, by go_num, hn2.out⟩
          case measure => simp [intOf]; omega
      · have k1 : ¬ (k : Int) < (b.length : Int) := by omega
        have kd : decide ((k : Int) < (b.length : Int)) = false := decide_eq_false k1
        have hv : Hid (V = (k : Int)) := hide (HL.out k hk1 hk2 HNO.out (.inl (by omega)))
        go_wp2_with fail
        go_ret
        exact ⟨ret_int hv.out.symm, rfl⟩
  have e47 : (((y.toNat : Int)) == 47) = false := byte_eqF 47 47 hy47
  by_cases hy42 : y = 42
  case neg =>
    have hv : Hid (V = 0) := hide (by
      rw [← HV.out]
      refine noteInt_none ?_
      rw [HD0.out, noteLen_none]
      simp [hy47, hy42])
    have e42 : (((y.toNat : Int)) != 42) = true := byte_neT 42 42 hy42
    clear hy47 hy42
    go_enter Tryd.func38, Tryd.ntmps38
    go_wp2_with fail
    go_ret
    exact ⟨ret_int hv.out.symm, rfl⟩
  subst hy42
  have c1' : w.cell? ⟨a, o + (p + 1), none⟩ = some (.int .u8 42) := c1
  clear c1 hy47 e47
  obtain ⟨r, hr⟩ : ∃ r, b.drop (p + 2) = r := ⟨_, rfl⟩
  have HR := hide hr; clear hr
  have HVR : Hid (V = match closeAt r with | none => -1 | some n => ((p + (n + 4) : Nat) : Int)) := hide (by
    rw [← HV.out, ← HR.out]
    unfold noteInt
    rw [HD0.out]
    simp only [noteLen]
    cases closeAt (b.drop (p + 1 + 1)) <;> rfl)
  go_enter Tryd.func38, Tryd.ntmps38
  go_wp2_with fail
  go_loop [6] (fun i => ∃ k : Nat, p + 4 ≤ k ∧ k ≤ b.length + 4 ∧ i = .int .i64 k ∧ closeAt r = (closeAt (b.drop (k - 2))).map (· + (k - (p + 4)))) (fun i => b.length + 4 - (intOf i).toNat)
  case atStart => exact ⟨p + 4, Nat.le_refl _, by omega, by go_num, by rw [show p + 4 - 2 = p + 2 from by omega, HR.out]; simp⟩
  case round =>
    obtain ⟨k, hk1, hk2, rfl, hcl⟩ := hrel
    have HCL := hide hcl; clear hcl
    have k0 : (0 : Int) ≤ (k : Int) := by omega
    have k4 : (4 : Int) ≤ (k : Int) := by omega
    have k9 : (k : Int) ≤ 65540 := by omega
    by_cases hlt : k ≤ b.length
    · have k1 : (k : Int) ≤ (b.length : Int) := by omega
      have hm2 : k - 2 < b.length := by omega
      have hm1 : k - 1 < b.length := by omega
      have ca := HBA.out.2 (k - 2) hm2
      have cb := HBA.out.2 (k - 1) hm1
      have hda := List.drop_eq_getElem_cons hm2
      have hdb := List.drop_eq_getElem_cons hm1
      rw [show k - 2 + 1 = k - 1 from by omega, hdb] at hda
      obtain ⟨s, hs⟩ : ∃ s, b[k - 2]'hm2 = s := ⟨_, rfl⟩
      obtain ⟨t, ht⟩ : ∃ t, b[k - 1]'hm1 = t := ⟨_, rfl⟩
      rw [hs] at ca hda
      rw [ht] at cb hda hdb
      clear hs ht
      by_cases hst : s = 42 ∧ t = 47
      · have hv : Hid (V = (k : Int)) := hide (by
          rw [HVR.out, HCL.out, hda, hst.1, hst.2, close_here]
          show ((p + (0 + (k - (p + 4)) + 4) : Nat) : Int) = (k : Int)
          omega)
        obtain ⟨rfl, rfl⟩ := hst
        have ca' : w.cell? ⟨a, o + (k - 2), none⟩ = some (.int .u8 42) := ca
        have cb' : w.cell? ⟨a, o + (k - 1), none⟩ = some (.int .u8 47) := cb
        clear ca cb hda hdb
        go_wp2_with fail
        go_ret
        exact ⟨ret_int hv.out.symm, rfl⟩
      · have hn : Hid (closeAt r = (closeAt (b.drop (k + 1 - 2))).map (· + (k + 1 - (p + 4)))) := hide (by
          rw [HCL.out, hda, close_next s _ (by simpa using hst), Option.map_map, show k + 1 - 2 = k - 1 from by omega, hdb]
          congr 1
          funext z
          simp; omega)
        clear hda hdb
        by_cases hs : s = 42
        · have ht : t ≠ 47 := fun e => hst ⟨hs, e⟩
          have e2 : (((t.toNat : Int)) == 47) = false := byte_eqF 47 47 ht
          subst hs
          have ca' : w.cell? ⟨a, o + (k - 2), none⟩ = some (.int .u8 42) := ca
          clear ca hst ht
          go_wp2_with fail
          go_round
          case rel => exact ⟨k + 1, by omega, by omega, by go_num, hn.out⟩
          case measure => simp [intOf]; omega
        · have e2 : (((s.toNat : Int)) == 42) = false := byte_eqF 42 42 hs
          clear hst hs
          go_wp2_with fail
          go_round
          case rel => exact ⟨k + 1, by omega, by omega, by go_num, hn.out⟩
          case measure => simp [intOf]; omega
    · have k1 : ¬ (k : Int) ≤ (b.length : Int) := by omega
      have hv : Hid (V = -1) := hide (by
        rw [HVR.out, HCL.out, close_short _ (by rw [List.length_drop]; omega)]; rfl)
      go_wp2_with fail
      go_ret
      exact ⟨ret_int hv.out.symm, rfl⟩

/-! ### quoted -/
def quotedInt (b : Bs) (p : Nat) : Int := match quotedLen (b.getD p 0) false (b.drop (p + 1)) with | none => -1 | some n => ((p + 1 + n : Nat) : Int)
theorem qstep_false (q c : UInt8) (r : Bs) : quotedLen q false (c :: r) = if c == 92 && q == 34 then (quotedLen q true r).map (· + 1) else if c == q then some 1 else if c == 10 && q != 96 then none else (quotedLen q false r).map (· + 1) := rfl
theorem qstep_true (q c : UInt8) (r : Bs) : quotedLen q true (c :: r) = if c == 10 then none else (quotedLen q false r).map (· + 1) := rfl

set_option maxRecDepth 100000 in
set_option maxHeartbeats 12800000 in
theorem rquoted_any (w : World) (a o cap : Nat) (b : Bs) (hba : BA w a o cap b) (hb : b.length ≤ 65536) (p : Nat) (hp : p < b.length) (q : UInt8) (hq : b[p]'hp = q) (hq2 : q = 34 ∨ q = 96) :
    Calls Tryd.prog 41 #[.slice (some ⟨a, o, none⟩) b.length cap, .int .i64 (p : Int)] w fun e w' => e = .returned (.int .i64 (quotedInt b p)) ∧ Below w.heap.size w w' := by
  have hcap : (b.length : Int) ≤ (cap : Int) := by have := hba.1; omega
  have HBA := hide hba; clear hba
  obtain ⟨V, hV⟩ : ∃ V, quotedInt b p = V := ⟨_, rfl⟩
  rw [hV]
  have hgd : b.getD p 0 = q := by rw [List.getD_eq_getElem?_getD, List.getElem?_eq_getElem hp, hq]; rfl
  have HV : Hid (V = match quotedLen q false (b.drop (p + 1)) with | none => -1 | some n => ((p + 1 + n : Nat) : Int)) := hide (by rw [← hV]; unfold quotedInt; rw [hgd])
  clear hV hgd
  have p0 : (0 : Int) ≤ (p : Int) := by omega
  have p1 : (p : Int) < (b.length : Int) := by omega
  have p2 : (b.length : Int) ≤ 65536 := by omega
  have c0 := HBA.out.2 p hp
  rw [hq] at c0
  clear hq
  go_enter Tryd.func41, Tryd.ntmps41
  go_wp2_with fail
  go_loopw [5] (fun i W' => ∃ W, W = W' ∧ Below w.heap.size w W ∧ ∃ k : Nat, p + 1 ≤ k ∧ k ≤ b.length + 1 ∧ i = .int .i64 k ∧ quotedLen q false (b.drop (p + 1)) = (quotedLen q false (b.drop k)).map (· + (k - (p + 1)))) (fun i _ => b.length + 1 - (intOf i).toNat)
  case atStart => exact ⟨_, rfl, Below.refl _ _, p + 1, Nat.le_refl _, by omega, by go_num, by simp⟩
  case round =>
    obtain ⟨W, rfl, hbl, k, hk1, hk2, rfl, hqk⟩ := hrel
    have HQ := hide hqk; clear hqk
    have HBL := hide hbl; clear hbl
    have k0 : (0 : Int) ≤ (k : Int) := by omega
    have k9 : (k : Int) ≤ 65540 := by omega
    have HW := hide (HBA.out.below HBL.out)
    have d0 := (HBL.out.cell (p := ⟨a, o + p, none⟩) (World.block_lt_of_cell? w _ c0)).trans c0
    by_cases hlt : k < b.length
    · have k1 : (k : Int) < (b.length : Int) := by omega
      have ck := HW.out.2 k hlt
      have hdk := List.drop_eq_getElem_cons hlt
      obtain ⟨d, hd⟩ : ∃ d, b[k]'hlt = d := ⟨_, rfl⟩
      rw [hd] at ck hdk
      clear hd
      have HDK := hide hdk; clear hdk
      by_cases hdq : d = q
      · -- the end
        have hv : Hid (V = (k : Int) + 1) := hide (by
          rw [HV.out, HQ.out, HDK.out, hdq, qstep_false, if_neg, if_pos (by simp)]
          · show ((p + 1 + (1 + (k - (p + 1))) : Nat) : Int) = (k : Int) + 1
            omega
          · rcases hq2 with rfl | rfl <;> decide)
        subst hdq
        rcases hq2 with rfl | rfl
        · have d0' : W.cell? ⟨a, o + p, none⟩ = some (.int .u8 34) := d0
          have ck' : W.cell? ⟨a, o + k, none⟩ = some (.int .u8 34) := ck
          clear d0 ck
          go_wp2_with fail
          go_still (by kernel_rfl)
          rw [drew_lit]
          go_wp2_with fail
          go_ret
          exact ⟨ret_int hv.out.symm, HBL.out.drew⟩
        · have d0' : W.cell? ⟨a, o + p, none⟩ = some (.int .u8 96) := d0
          have ck' : W.cell? ⟨a, o + k, none⟩ = some (.int .u8 96) := ck
          clear d0 ck
          go_wp2_with fail
          go_still (by kernel_rfl)
          rw [drew_lit]
          go_wp2_with fail
          go_ret
          exact ⟨ret_int hv.out.symm, HBL.out.drew⟩
      · rcases hq2 with rfl | rfl
        · have d0' : W.cell? ⟨a, o + p, none⟩ = some (.int .u8 34) := d0
          clear d0
          by_cases h10 : d = 10
          · have hv : Hid (V = -1) := hide (by rw [HV.out, HQ.out, HDK.out, h10]; rfl)
            subst h10
            have ck' : W.cell? ⟨a, o + k, none⟩ = some (.int .u8 10) := ck
            clear ck
            go_wp2_with fail
            go_ret
            exact ⟨ret_int hv.out.symm, HBL.out⟩
          · have e10 : (((d.toNat : Int)) == 10) = false := byte_eqF 10 10 h10
            have e34 : (((d.toNat : Int)) == 34) = false := byte_eqF 34 34 hdq
            by_cases h92 : d = 92
            · subst h92
              have ck' : W.cell? ⟨a, o + k, none⟩ = some (.int .u8 92) := ck
              clear ck e10 e34 hdq h10
              by_cases hl1 : k + 1 < b.length
              · have k3 : (k : Int) + 1 < (b.length : Int) := by omega
                have kd : decide ((k : Int) + 1 < (b.length : Int)) = true := decide_eq_true k3
                have cl := HW.out.2 (k + 1) hl1
                have hdl := List.drop_eq_getElem_cons hl1
                obtain ⟨g, hg⟩ : ∃ g, b[k + 1]'hl1 = g := ⟨_, rfl⟩
                rw [hg] at cl hdl
                clear hg
                by_cases hg10 : g = 10
                · have hv : Hid (V = -1) := hide (by rw [HV.out, HQ.out, HDK.out, hdl, hg10]; rfl)
                  subst hg10
                  have cl' : W.cell? ⟨a, o + (k + 1), none⟩ = some (.int .u8 10) := cl
                  clear cl hdl
                  go_wp2_with fail
                  go_still (by kernel_rfl)
                  rw [drew_lit]
                  go_wp2_with fail
                  go_ret
                  exact ⟨ret_int hv.out.symm, HBL.out.drew⟩
                · have hn : Hid (quotedLen 34 false (b.drop (p + 1)) = (quotedLen 34 false (b.drop (k + 2))).map (· + (k + 2 - (p + 1)))) := hide (by
                    rw [HQ.out, HDK.out, hdl, qstep_false, if_pos (by decide), qstep_true, if_neg (by simpa using hg10), Option.map_map, Option.map_map]
                    congr 1
                    funext z
                    simp; omega)
                  have eg : (((g.toNat : Int)) == 10) = false := byte_eqF 10 10 hg10
                  clear hdl hg10
                  go_wp2_with fail
                  go_still (by kernel_rfl)
                  rw [drew_lit]
                  go_wp2_with fail
                  go_roundw
                  case rel => exact ⟨_, rfl, HBL.out.drew, k + 2, by omega, by omega, by go_num, hn.out⟩
                  case measure => simp [intOf]; omega
              · have k3 : ¬ (k : Int) + 1 < (b.length : Int) := by omega
                have kd : decide ((k : Int) + 1 < (b.length : Int)) = false := decide_eq_false k3
                have hn : Hid (quotedLen 34 false (b.drop (p + 1)) = (quotedLen 34 false (b.drop (k + 2))).map (· + (k + 2 - (p + 1)))) := hide (by
                  rw [HQ.out, HDK.out, List.drop_of_length_le (by omega), List.drop_of_length_le (by omega)]; rfl)
                go_wp2_with fail
                go_still (by kernel_rfl)
                rw [drew_lit]
                go_wp2_with fail
                go_roundw
                case rel => exact ⟨_, rfl, HBL.out.drew, k + 2, by omega, by omega, by go_num, hn.out⟩
                case measure => simp [intOf]; omega
            · have e92 : (((d.toNat : Int)) == 92) = false := byte_eqF 92 92 h92
              have hn : Hid (quotedLen 34 false (b.drop (p + 1)) = (quotedLen 34 false (b.drop (k + 1))).map (· + (k + 1 - (p + 1)))) := hide (by
                rw [HQ.out, HDK.out, qstep_false, if_neg (by simpa using h92), if_neg (by simpa using hdq), if_neg (by simpa using h10), Option.map_map]
                congr 1
                funext z
                simp; omega)
              clear h92 hdq h10
              go_wp2_with fail
              go_still (by kernel_rfl)
              rw [drew_lit]
              go_wp2_with fail
              go_roundw
              case rel => exact ⟨_, rfl, HBL.out.drew, k + 1, by omega, by omega, by go_num, hn.out⟩
              case measure => simp [intOf]; omega
        · have d0' : W.cell? ⟨a, o + p, none⟩ = some (.int .u8 96) := d0
          clear d0
          have e96 : (((d.toNat : Int)) == 96) = false := byte_eqF 96 96 hdq
          have hn : Hid (quotedLen 96 false (b.drop (p + 1)) = (quotedLen 96 false (b.drop (k + 1))).map (· + (k + 1 - (p + 1)))) := hide (by
            rw [HQ.out, HDK.out, qstep_false, if_neg (by simp), if_neg (by simpa using hdq), if_neg (by simp), Option.map_map]
            congr 1
            funext z
            simp; omega)
          clear hdq
          go_wp2_with fail
          go_still (by kernel_rfl)
          rw [drew_lit]
          go_wp2_with fail
          go_roundw
          case rel => exact ⟨_, rfl, HBL.out.drew, k + 1, by omega, by omega, by go_num, hn.out⟩
          case measure => simp [intOf]; omega
    · have k1 : ¬ (k : Int) < (b.length : Int) := by omega
      have hv : Hid (V = -1) := hide (by
        rw [HV.out, HQ.out, List.drop_of_length_le (by omega)]; rfl)
      go_wp2_with fail
      go_ret
      exact ⟨ret_int hv.out.symm, HBL.out⟩
end Go.Proofs.YtehflgllfkkfoaaDoor
