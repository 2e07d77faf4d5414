/- Package lit: quoted, at any text. -/
import Derived.Test.YtehflgllfkkfoaaDoorNpa
set_option linter.unusedVariables false
set_option linter.unusedSimpArgs false
namespace Go.Proofs.YtehflgllfkkfoaaDoor
open Go.RowKit Go.Proofs.Dm

def QuotedEnd (S : Bs) (w : World) (e : Ending) (w' : World) : Prop :=
  (match bodyQ (S.length + 1) S with
  | none => e = .panicked litWrong
  | some t => e = .returned (.string (bs t))) ∧ Below w.heap.size w w'
theorem QuotedEnd.bad {S : Bs} {w w' : World} (h : bodyQ (S.length + 1) S = none) (hb : Below w.heap.size w w') : QuotedEnd S w (.panicked litWrong) w' := by
  unfold QuotedEnd; rw [h]; exact ⟨rfl, hb⟩
theorem QuotedEnd.good {S t : Bs} {w w' : World} (h : bodyQ (S.length + 1) S = some t) (hb : Below w.heap.size w w') : QuotedEnd S w (.returned (.string (bs t))) w' := by
  unfold QuotedEnd; rw [h]; exact ⟨rfl, hb⟩
theorem escL_len {s b : Bs} {n : Nat} (h : escL s = some (b, n)) : b.length ≤ 4 ∧ n ≤ 9 := by
  unfold escL at h
  split at h
  · cases h
  · split at h
    · injection h with h; injection h with h1 h2; subst h1 h2; simp
    · have hs : ∀ v bb, signU v = some bb → bb.length ≤ 4 := by
        intro v bb hv
        unfold signU at hv
        split at hv
        · cases hv
        · split at hv
          · injection hv with hv; subst hv; simp
          · split at hv
            · injection hv with hv; subst hv; simp
            · split at hv <;> (injection hv with hv; subst hv; simp)
      split at h
      · obtain ⟨v, _, e⟩ := Option.map_eq_some_iff.1 h
        injection e with e1 e2; subst e1 e2; simp
      · split at h
        · obtain ⟨v, hv, e⟩ := Option.map_eq_some_iff.1 h
          obtain ⟨x, _, hx⟩ := Option.bind_eq_some_iff.1 hv
          injection e with e1 e2; subst e1 e2
          exact ⟨hs x _ hx, by omega⟩
        · split at h
          · obtain ⟨v, hv, e⟩ := Option.map_eq_some_iff.1 h
            obtain ⟨x, _, hx⟩ := Option.bind_eq_some_iff.1 hv
            injection e with e1 e2; subst e1 e2
            exact ⟨hs x _ hx, by omega⟩
          · obtain ⟨x, _, e⟩ := Option.bind_eq_some_iff.1 h
            split at e
            · injection e with e; injection e with e1 e2; subst e1 e2; simp
            · cases e
set_option maxRecDepth 100000 in
set_option maxHeartbeats 12800000 in
theorem litquoted_any (S : Bs) (hS : S.length ≤ 70000) (w : World) :
    Calls Tryd.prog 52 #[.string (bs S)] w (QuotedEnd S w) := by
  obtain ⟨F, hF⟩ : ∃ F, S.length + 1 = F := ⟨_, rfl⟩
  have HF := hide hF
  go_enter Tryd.func52, Tryd.ntmps52
  go_wp2_with fail
  go_loopw [0] (fun s0 W' => ∃ W, W = W' ∧ ∃ s acc : Bs, s0 = .string (bs s) ∧ s.length ≤ S.length ∧ acc.length ≤ 4 * (S.length - s.length) ∧ bodyQ F S = (bodyQ F s).map (acc ++ ·) ∧ Lib.IsBuilderF 86 5 w.heap.size w.heap.size (Lib.byteCells acc) W ∧ Below w.heap.size w W) (fun s0 _ => match s0 with | .string s => s.size | _ => 0)
  case atStart => exact ⟨_, rfl, S, [], rfl, Nat.le_refl _, by simp, by cases bodyQ F S <;> simp, .of (Lib.fresh_isBuilder _ _ w), (Below.refl _ w).alloc (Nat.le_refl _) _⟩
  case round =>
    obtain ⟨W, rfl, s, acc, rfl, hsl, hal, hst, hbd, hbw⟩ := hrel
    have HB := hide hbd
    have HW := hide hbw
    have HST := hide hst
    clear hbd hbw hst
    cases s with
    | nil =>
      have e2 : (bs []).toList.isEmpty = true := by rw [toList_bs]; rfl
      have e3 : ((bs []).toList == ([] : Bs)) = true := by rw [toList_bs]; rfl
      have hfin : bodyQ (S.length + 1) S = some acc := by
        have h9 := HST.out
        rw [← HF.out] at h9
        rw [h9]
        simp [bodyQ]
      have HFIN := hide hfin
      clear hfin
      go_wp2_with fail
      refine (Tryd.Builder_String_any_k w.heap.size w.heap.size acc W HB.out HW.out.size).mono ?_
      rintro e w1 ⟨rfl, hb1, hb2, _⟩
      have HB2 := hide (HW.out.trans hb2)
      clear hb1 hb2
      go_wp2_with fail
      go_ret
      exact QuotedEnd.good HFIN.out HB2.out
    | cons c r =>
      have hrl : r.length < F := by have := HF.out; simp at hsl; omega
      have hbq := bodyQ_step c r F hrl
      have e2 : (bs (c :: r)).toList.isEmpty = false := by rw [toList_bs]; rfl
      have e3 : ((bs (c :: r)).toList == ([] : Bs)) = false := by rw [toList_bs]; rfl
      have hsz : (bs (c :: r)).size = r.length + 1 := by rw [size_data]; rfl
      obtain ⟨i0, e0⟩ := byte_at0 (s := bs (c :: r)) (d := c) (r := r) rfl
      have hX : (bs (c :: r)).extract 1 (bs (c :: r)).size = bs r := by rw [extract_from]; rfl
      have hsl2 : r.length + 1 ≤ S.length := by simpa using hsl
      have hal2 : acc.length ≤ 4 * (S.length - (r.length + 1)) := by simpa using hal
      have hm0 : (0 : Int) < ((bs (c :: r)).size : Int) := by omega
      have hm2 : (1 : Int) ≤ ((bs (c :: r)).size : Int) := by omega
      have hm3 : ((bs (c :: r)).size : Int) ≤ 1000000 := by omega
      have HSZ := hide hsz
      clear hF hsl hal
      by_cases hbad : c = 34 ∨ c = 10
      · rw [if_pos hbad] at hbq
        have hnone : bodyQ (S.length + 1) S = none := by
          have h9 := HST.out
          rw [← HF.out] at h9
          rw [HF.out] at h9
          rw [HF.out, h9, hbq]; rfl
        have HE := hide hnone
        clear hsz hbq hnone hrl
        rcases hbad with rfl | rfl
        all_goals
          go_wp2_with fail
          refine (need_bad _).mono ?_
          rintro e w' ⟨rfl, rfl⟩
          exact ⟨rfl, QuotedEnd.bad HE.out HW.out⟩
      rw [if_neg hbad] at hbq
      by_cases h92 : c = 92
      · subst h92
        rw [if_pos rfl] at hbq
        have hpart := part_any (bs r) (by rw [size_data]; show r.length ≤ _; omega)
        rw [show (bs r).data.toList = r from rfl] at hpart
        obtain ⟨R, hR⟩ : ∃ R, bs r = R := ⟨_, rfl⟩
        rw [hR] at hX hpart
        cases he : escL r with
        | none =>
          rw [he] at hbq
          have hnone : bodyQ (S.length + 1) S = none := by
            have h9 := HST.out
            rw [HF.out, h9, hbq]; rfl
          have HE := hide hnone
          have HP : Hid (∀ w, Calls Tryd.prog 63 #[.string R] w fun e w' => e = .panicked litWrong ∧ Below w.heap.size w w') := hide (fun w => by have h9 := hpart w; unfold PartEnd at h9; rw [he] at h9; exact h9)
          clear hsz hbq hnone hrl hpart he hR hbad
          go_wp2_with fail
          refine (HP.out W).mono ?_
          rintro e w1 ⟨rfl, hb1⟩
          exact ⟨rfl, QuotedEnd.bad HE.out (HW.out.trans (hb1.mono HW.out.size))⟩
        | some o =>
          obtain ⟨b, n⟩ := o
          rw [he] at hbq
          simp only at hbq
          have hle := escL_le he
          have hlen := escL_len he
          obtain ⟨m, hm⟩ : ∃ m, m = n + 1 := ⟨_, rfl⟩
          have hmi : (n : Int) + 1 = (m : Int) := by omega
          have hU : (bs (92 :: r)).extract m (bs (92 :: r)).size = bs (r.drop n) := by rw [extract_from, hm]; rfl
          obtain ⟨U, hU'⟩ : ∃ U, bs (r.drop n) = U := ⟨_, rfl⟩
          obtain ⟨B, hB'⟩ : ∃ B, bs b = B := ⟨_, rfl⟩
          have HP : Hid (∀ w, Calls Tryd.prog 63 #[.string R] w fun e w' => e = .returned (.tuple #[.string B, .int .i64 (n : Int)]) ∧ Below w.heap.size w w') := hide (fun w => by have h9 := hpart w; unfold PartEnd at h9; rw [he] at h9; simp only at h9; rw [hB'] at h9; exact h9)
          rw [hU'] at hU
          have HU' := hide hU'
          have HB' := hide hB'
          have hz0 : (m : Int) ≤ ((bs (92 :: r)).size : Int) := by omega
          have hmm : (0 : Int) ≤ (m : Int) := by omega
          have hn0 : (0 : Int) ≤ (n : Int) := by omega
          have hn1 : (n : Int) ≤ 9 := by omega
          have hdl : (r.drop n).length = r.length - n := List.length_drop
          have hlenB : (Lib.byteCells acc).length + B.size ≤ 140737488355328 := by
            rw [Lib.byteCells_length, ← HB'.out, size_data]
            show acc.length + b.length ≤ _
            omega
          have HL := hide hlenB
          have HNX : Hid (bodyQ F S = (bodyQ F (r.drop n)).map ((acc ++ b) ++ ·)) := hide (by
            rw [HST.out, hbq]
            cases hbd : bodyQ F (r.drop n) with
            | none => rfl
            | some t => simp)
          have hd1 : (r.drop n).length ≤ S.length := by omega
          have hd2 : (acc ++ b).length ≤ 4 * (S.length - (r.drop n).length) := by rw [List.length_append, hdl]; omega
          have HMS : Hid (U.size < (bs (92 :: r)).size) := hide (by rw [← hU', size_data, hsz]; show (r.drop n).length < _; omega)
          clear hsz hbq hrl hpart he hR hbad hlenB hU' hB' hm hle hdl
          go_wp2_with fail
          refine (HP.out W).mono ?_
          rintro e w1 ⟨rfl, hb1⟩
          have HB1 := hide (builder_below HB.out hb1)
          have HW1 := hide (HW.out.trans (hb1.mono HW.out.size))
          clear hb1
          go_wp2_with fail
          refine (WriteString_any w.heap.size w.heap.size (Lib.byteCells acc) B w1 HB1.out HL.out HW1.out.size).mono ?_
          rintro e w2 ⟨rfl, hb2, hw2⟩
          have HB2 : Hid (Lib.IsBuilderF 86 5 w.heap.size w.heap.size (Lib.byteCells (acc ++ b)) w2) := hide (by
            have : Lib.byteCells (acc ++ b) = Lib.byteCells acc ++ Lib.strCells B := by rw [← HB'.out]; unfold Lib.byteCells Lib.strCells; rw [List.map_append]; rfl
            rw [this]
            exact .inr hb2)
          have HW2 := hide (HW1.out.trans hw2)
          clear hb2 hw2
          go_wp2_with fail
          go_roundw
          case rel => exact ⟨_, rfl, _, acc ++ b, by rw [← HU'.out], hd1, hd2, HNX.out, HB2.out, HW2.out⟩
          case measure => exact HMS.out
      · rw [if_neg h92] at hbq
        have q1 : (((c.toNat : Int)) == 34) = false := byte_eqF 34 34 (fun e => hbad (.inl e))
        have q2 : (((c.toNat : Int)) == 10) = false := byte_eqF 10 10 (fun e => hbad (.inr e))
        have q3 : (((c.toNat : Int)) == 92) = false := byte_eqF 92 92 h92
        have q1' : (((c.toNat : Int)) != 34) = true := by unfold bne; rw [q1]; rfl
        have q2' : (((c.toNat : Int)) != 10) = true := by unfold bne; rw [q2]; rfl
        obtain ⟨R, hR⟩ : ∃ R, bs r = R := ⟨_, rfl⟩
        have HR := hide hR
        have hRs : R.size = r.length := by rw [← hR, size_data]; rfl
        rw [hR] at hX
        have HMS : Hid (R.size < (bs (c :: r)).size) := hide (by omega)
        have hlen : (Lib.byteCells acc).length + 1 ≤ 140737488355328 := by rw [Lib.byteCells_length]; omega
        have HL := hide hlen
        have HNX : Hid (bodyQ F S = (bodyQ F r).map ((acc ++ [c]) ++ ·)) := hide (by
          rw [HST.out, hbq]
          cases bodyQ F r <;> simp)
        have hd1 : r.length ≤ S.length := by omega
        have hd2 : (acc ++ [c]).length ≤ 4 * (S.length - r.length) := by rw [List.length_append, List.length_singleton]; omega
        clear hsz hlen hR hRs hbq hrl hbad h92
        go_wp2_with fail
        refine (need_ok _).mono ?_
        rintro e w' ⟨rfl, rfl⟩
        go_wp2_with fail
        refine (WriteByte_any w.heap.size w.heap.size (Lib.byteCells acc) _ W HB.out HL.out HW.out.size).mono ?_
        rintro e w2 ⟨rfl, hb2, hw2⟩
        have HB2 : Hid (Lib.IsBuilderF 86 5 w.heap.size w.heap.size (Lib.byteCells (acc ++ [c])) w2) := hide (by
          have : Lib.byteCells (acc ++ [c]) = Lib.byteCells acc ++ [.int .u8 (c.toNat : Int)] := by unfold Lib.byteCells; rw [List.map_append]; rfl
          rw [this]
          exact .inr hb2)
        have HW2 := hide (HW.out.trans hw2)
        clear hb2 hw2
        go_wp2_with fail
        go_roundw
        case rel => exact ⟨_, rfl, r, acc ++ [c], by rw [← HR.out], hd1, hd2, HNX.out, HB2.out, HW2.out⟩
        case measure => exact HMS.out
end Go.Proofs.YtehflgllfkkfoaaDoor
