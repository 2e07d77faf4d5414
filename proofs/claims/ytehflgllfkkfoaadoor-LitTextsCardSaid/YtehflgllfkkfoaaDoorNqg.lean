/- Package lit: quoted and Text, where all is well. -/
import Derived.Test.YtehflgllfkkfoaaDoorNwb
set_option linter.unusedVariables false
set_option linter.unusedSimpArgs false
namespace Go.Proofs.YtehflgllfkkfoaaDoor
open Go.RowKit Go.Proofs.Dm

/-- What lit.part makes of r. -/
def PartOk (r b : Bs) (n : Nat) : Prop := ∀ w, Calls Tryd.prog 63 #[.string (bs r)] w fun e w' => e = .returned (.tuple #[.string (bs b), .int .i64 (n : Int)]) ∧ Below w.heap.size w w'
inductive GoodQ : Bs → Bs → Prop where
  | nil : GoodQ [] []
  | chr {c : UInt8} {r t : Bs} (h1 : c ≠ 34) (h2 : c ≠ 10) (h3 : c ≠ 92) (h : GoodQ r t) : GoodQ (c :: r) (c :: t)
  | esc {r b t : Bs} {n : Nat} (hp : PartOk r b n) (hn : n ≤ r.length) (h : GoodQ (r.drop n) t) : GoodQ (92 :: r) (b ++ t)
set_option maxRecDepth 100000 in
set_option maxHeartbeats 12800000 in
theorem quoted_good (S T : Bs) (hg : GoodQ S T) (hS : S.length ≤ 100000) (hT : T.length ≤ 100000) (w : World) :
    Calls Tryd.prog 52 #[.string (bs S)] w fun e w' => e = .returned (.string (bs T)) ∧ Below w.heap.size w w' := by
  have HG := hide hg; clear hg
  go_enter Tryd.func52, Tryd.ntmps52
  go_wp2_with fail
  go_loopw [0] (fun s0 W' => ∃ W, W = W' ∧ ∃ s acc t : Bs, s0 = .string (bs s) ∧ GoodQ s t ∧ s.length ≤ 100000 ∧ acc ++ t = T ∧ Lib.IsBuilderF 86 5 w.heap.size w.heap.size (Lib.byteCells acc) W ∧ Below w.heap.size w W) (fun s0 _ => match s0 with | .string s => s.size | _ => 0)
  case atStart => exact ⟨_, rfl, S, [], T, rfl, HG.out, hS, rfl, .of (Lib.fresh_isBuilder _ _ w), (Below.refl _ w).alloc (Nat.le_refl _) _⟩
  case round =>
    obtain ⟨W, rfl, s, acc, t, rfl, hst, hsl, hacc, hbd, hbw⟩ := hrel
    have HB := hide hbd
    have HW := hide hbw
    have hal : acc.length + t.length ≤ 100000 := by rw [← List.length_append, hacc]; exact hT
    have HACC := hide hacc
    clear hbd hbw hacc
    cases hst with
    | nil =>
      have e2 : (bs []).toList.isEmpty = true := by rw [toList_bs]; rfl
      have e3 : ((bs []).toList == ([] : Bs)) = true := by rw [toList_bs]; rfl
      go_wp2_with fail
      refine (Tryd.Builder_String_any_k w.heap.size w.heap.size acc W HB.out HW.out.size).mono ?_
      rintro e w1 ⟨rfl, hb1, hb2, _⟩
      have HB2 := hide (HW.out.trans hb2)
      clear hb1 hb2
      go_wp2_with fail
      go_ret
      refine ⟨?_, HB2.out⟩
      have := HACC.out
      rw [List.append_nil] at this
      rw [← this]; rfl
    | @chr c r t h1 h2 h3 h =>
      have HH := hide h
      have e2 : (bs (c :: r)).toList.isEmpty = false := by rw [toList_bs]; rfl
      have e3 : ((bs (c :: r)).toList == ([] : Bs)) = false := by rw [toList_bs]; rfl
      have hsz : (bs (c :: r)).size = r.length + 1 := by rw [size_data]; rfl
      obtain ⟨i0, e0⟩ := byte_at0 (s := bs (c :: r)) (d := c) (r := r) rfl
      have hX : (bs (c :: r)).extract 1 (bs (c :: r)).size = bs r := by rw [extract_from]; rfl
      have q1 : (((c.toNat : Int)) == 34) = false := byte_eqF 34 34 h1
      have q2 : (((c.toNat : Int)) == 10) = false := byte_eqF 10 10 h2
      have q3 : (((c.toNat : Int)) == 92) = false := byte_eqF 92 92 h3
      have q1' : (((c.toNat : Int)) != 34) = true := by unfold bne; rw [q1]; rfl
      have q2' : (((c.toNat : Int)) != 10) = true := by unfold bne; rw [q2]; rfl
      obtain ⟨X, hXX⟩ : ∃ X, bs (c :: r) = X := ⟨_, rfl⟩
      obtain ⟨R, hR⟩ : ∃ R, bs r = R := ⟨_, rfl⟩
      have HR := hide hR
      have hRs : R.size = r.length := by rw [← hR, size_data]; rfl
      rw [hR] at hX
      have HSZ := hide hsz
      have HRS := hide hRs
      have hm0 : (0 : Int) < ((bs (c :: r)).size : Int) := by omega
      have hm2 : (1 : Int) ≤ ((bs (c :: r)).size : Int) := by omega
      have hsl' : r.length ≤ 100000 := by simp at hsl; omega
      have hm3 : ((bs (c :: r)).size : Int) ≤ 1000000 := by omega
      have hlen : (Lib.byteCells acc).length + 1 ≤ 140737488355328 := by rw [Lib.byteCells_length]; omega
      have HL := hide hlen
      clear hsz hlen hXX hR hRs h
      go_wp2_with fail
      refine (need_ok _).mono ?_
      rintro e w' ⟨rfl, rfl⟩
      go_wp2_with fail
      refine (WriteByte_any w.heap.size w.heap.size (Lib.byteCells acc) _ W HB.out HL.out HW.out.size).mono ?_
      rintro e w2 ⟨rfl, hb2, hw2⟩
      have HB2 : Hid (Lib.IsBuilderF 86 5 w.heap.size w.heap.size (Lib.byteCells (acc ++ [c])) w2) := hide (by
        have : Lib.byteCells (acc ++ [c]) = Lib.byteCells acc ++ [.int .u8 (c.toNat : Int)] := by unfold Lib.byteCells; rw [List.map_append]; rfl
        rw [this]
        exact .inr hb2)
      have HW2 := hide (HW.out.trans hw2)
      clear hb2 hw2
      go_wp2_with fail
      go_roundw
      case rel => exact ⟨_, rfl, r, acc ++ [c], t, by rw [← HR.out], HH.out, hsl', by rw [List.append_assoc]; exact HACC.out, HB2.out, HW2.out⟩
      case measure => show R.size < (bs (c :: r)).size; rw [HRS.out, HSZ.out]; omega
    | @esc r b t n hp hn h =>
      have HP := hide hp
      have HNX := hide h
      have e2 : (bs (92 :: r)).toList.isEmpty = false := by rw [toList_bs]; rfl
      have e3 : ((bs (92 :: r)).toList == ([] : Bs)) = false := by rw [toList_bs]; rfl
      have hsz : (bs (92 :: r)).size = r.length + 1 := by rw [size_data]; rfl
      obtain ⟨i0, e0⟩ := byte_at0 (s := bs (92 :: r)) (d := 92) (r := r) rfl
      have hT : (bs (92 :: r)).extract 1 (bs (92 :: r)).size = bs r := by rw [extract_from]; rfl
      obtain ⟨m, hm⟩ : ∃ m, m = n + 1 := ⟨_, rfl⟩
      have hmi : (n : Int) + 1 = (m : Int) := by omega
      have hU : (bs (92 :: r)).extract m (bs (92 :: r)).size = bs (r.drop n) := by rw [extract_from, hm]; rfl
      obtain ⟨R, hR⟩ : ∃ R, bs r = R := ⟨_, rfl⟩
      obtain ⟨U, hU'⟩ : ∃ U, bs (r.drop n) = U := ⟨_, rfl⟩
      obtain ⟨B, hB'⟩ : ∃ B, bs b = B := ⟨_, rfl⟩
      unfold PartOk at HP
      rw [hR, hB'] at HP
      rw [hR] at hT
      rw [hU'] at hU
      have HU' := hide hU'
      have HB' := hide hB'
      have HSZ := hide hsz
      have hz1 : ((bs (92 :: r)).size : Int) ≤ 100001 := by simp at hsl; omega
      have hz0 : (m : Int) ≤ ((bs (92 :: r)).size : Int) := by omega
      have hm0 : (0 : Int) ≤ (m : Int) := by omega
      have hm1 : (0 : Int) < ((bs (92 :: r)).size : Int) := by omega
      have hm2 : (1 : Int) ≤ ((bs (92 :: r)).size : Int) := by omega
      have hn0 : (0 : Int) ≤ (n : Int) := by omega
      have hn1 : (n : Int) ≤ 100000 := by omega
      have hsl' : (r.drop n).length ≤ 100000 := by simp at hsl ⊢; omega
      have hlen : (Lib.byteCells acc).length + B.size ≤ 140737488355328 := by
        rw [Lib.byteCells_length, ← HB'.out, size_data]
        rw [List.length_append] at hal
        show acc.length + b.length ≤ _
        omega
      have HL := hide hlen
      clear hp h hsz hR hU' hB' hm hlen
      go_wp2_with fail
      refine (HP.out W).mono ?_
      rintro e w1 ⟨rfl, hb1⟩
      have HB1 := hide (builder_below HB.out hb1)
      have HW1 := hide (HW.out.trans (hb1.mono HW.out.size))
      clear hb1
      go_wp2_with fail
      refine (WriteString_any w.heap.size w.heap.size (Lib.byteCells acc) B w1 HB1.out HL.out HW1.out.size).mono ?_
      rintro e w2 ⟨rfl, hb2, hw2⟩
      have HB2 : Hid (Lib.IsBuilderF 86 5 w.heap.size w.heap.size (Lib.byteCells (acc ++ b)) w2) := hide (by
        have : Lib.byteCells (acc ++ b) = Lib.byteCells acc ++ Lib.strCells B := by rw [← HB'.out]; unfold Lib.byteCells Lib.strCells; rw [List.map_append]; rfl
        rw [this]
        exact .inr hb2)
      have HW2 := hide (HW1.out.trans hw2)
      clear hb2 hw2
      go_wp2_with fail
      go_roundw
      case rel => exact ⟨_, rfl, _, acc ++ b, t, by rw [← HU'.out], HNX.out, hsl', by rw [List.append_assoc]; exact HACC.out, HB2.out, HW2.out⟩
      case measure => show U.size < (bs (92 :: r)).size; rw [← HU'.out, HSZ.out, size_data]; show (r.drop n).length < _; rw [List.length_drop]; omega
end Go.Proofs.YtehflgllfkkfoaaDoor
