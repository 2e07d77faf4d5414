/- Package lit: quoted, at what the examples hold. -/
import Derived.Test.YtehflgllfkkfoaaDoorNbd
set_option linter.unusedVariables false
set_option linter.unusedSimpArgs false
namespace Go.Proofs.YtehflgllfkkfoaaDoor
open Go.RowKit Go.Proofs.Dm

theorem builder_below {T e : TypeId} {B b : Nat} {xs : List Value} {w w' : World} (h : Lib.IsBuilderF T e B b xs w) (hb : Below w.heap.size w w') : Lib.IsBuilderF T e B b xs w' := by
  have key : ∀ p, Lib.BuilderAtF T e B b p xs w → Lib.BuilderAtF T e B b p xs w' := by
    intro p h
    have hlt := h.lt
    obtain ⟨hB, v, hbk, hown, hne⟩ := h
    exact ⟨hB, v, (hb.block b hlt).trans hbk, hown.kept (grown_of_below' hb none) (by cases v.ownBlock <;> simp), hne⟩
  exact h.elim (fun x => .inl (key _ x)) (fun x => .inr (key _ x))
/-- Where the walk over the text stands: what is left, what was read. -/
def St (s acc : Bs) : Prop := (s = [92, 120, 52, 49, 92, 117, 48, 48, 101, 52] ∧ acc = []) ∨ (s = [92, 117, 48, 48, 101, 52] ∧ acc = [65]) ∨ (s = [] ∧ acc = [65, 195, 164])
def Step (s acc : Bs) : Prop := ∃ (r t : Bs) (n : Nat), s = 92 :: r ∧ s.length ≤ 100 ∧ t.length ≤ 5 ∧ (∀ w, Calls Tryd.prog 63 #[.string (bs r)] w fun e w' => e = .returned (.tuple #[.string (bs t), .int .i64 (n : Int)]) ∧ Below w.heap.size w w') ∧ n + 1 ≤ s.length ∧ acc.length ≤ 5 ∧ St (s.drop (n + 1)) (acc ++ t)
theorem St.step {s acc : Bs} (h : St s acc) : (s = [] ∧ acc = [65, 195, 164]) ∨ Step s acc := by
  rcases h with ⟨rfl, rfl⟩ | ⟨rfl, rfl⟩ | h
  · exact .inr ⟨_, [65], 3, rfl, by decide, by decide, fun w => part_x (bs [120, 52, 49, 92, 117, 48, 48, 101, 52]) [52, 49, 92, 117, 48, 48, 101, 52] rfl (by decide) (by decide) (by decide) w, by decide, by decide, .inr (.inl ⟨rfl, rfl⟩)⟩
  · exact .inr ⟨_, [195, 164], 5, rfl, by decide, by decide, fun w => part_u (bs [117, 48, 48, 101, 52]) [48, 48, 101, 52] rfl (by decide) (by decide) (by decide) (by decide) w, by decide, by decide, .inr (.inr ⟨rfl, rfl⟩)⟩
  · exact .inl h
set_option maxRecDepth 100000 in
set_option maxHeartbeats 12800000 in
theorem quoted_ex (w : World) :
    Calls Tryd.prog 52 #[.string (bs [92, 120, 52, 49, 92, 117, 48, 48, 101, 52])] w fun e w' => e = .returned (.string (bs [65, 195, 164])) ∧ Below w.heap.size w w' := by
  obtain ⟨S, hS⟩ : ∃ S : Bs, [92, 120, 52, 49, 92, 117, 48, 48, 101, 52] = S := ⟨_, rfl⟩
  have HS0 : Hid (St S []) := hide (.inl ⟨hS.symm, rfl⟩)
  rw [hS]
  clear hS
  go_enter Tryd.func52, Tryd.ntmps52
  go_wp2_with fail
  go_loopw [0] (fun s0 W' => ∃ W, W = W' ∧ ∃ s acc : Bs, s0 = .string (bs s) ∧ St s acc ∧ Lib.IsBuilderF 86 5 w.heap.size w.heap.size (Lib.byteCells acc) W ∧ Below w.heap.size w W) (fun s0 _ => match s0 with | .string s => s.size | _ => 0)
  case atStart => exact ⟨_, rfl, S, [], rfl, HS0.out, .of (Lib.fresh_isBuilder _ _ w), (Below.refl _ w).alloc (Nat.le_refl _) _⟩
  case round =>
    obtain ⟨W, rfl, s, acc, rfl, hst, hbd, hbw⟩ := hrel
    rcases hst.step with ⟨rfl, rfl⟩ | ⟨r, t, n, hsr, hsl, htl, hpart, hn, hal, hnx⟩
    · have HB := hide hbd
      have HW := hide hbw
      clear hbd hbw hst
      have e2 : (bs []).toList.isEmpty = true := by rw [toList_bs]; rfl
      have e3 : ((bs []).toList == ([] : Bs)) = true := by rw [toList_bs]; rfl
      go_wp2_with fail
      refine (Tryd.Builder_String_any_k w.heap.size w.heap.size [65, 195, 164] W HB.out HW.out.size).mono ?_
      rintro e w1 ⟨rfl, hb1, hb2, _⟩
      have HB2 := hide (HW.out.trans hb2)
      clear hb1 hb2
      go_wp2_with fail
      go_ret
      exact ⟨rfl, HB2.out⟩
    · have HB := hide hbd
      have HW := hide hbw
      have HP := hide hpart
      have HNX := hide hnx
      have e2 : (bs s).toList.isEmpty = false := by rw [toList_bs, hsr]; rfl
      have e3 : ((bs s).toList == ([] : Bs)) = false := by rw [toList_bs, hsr]; rfl
      have hsz : (bs s).size = s.length := by rw [size_data]; rfl
      obtain ⟨i0, e0⟩ := byte_at0 (s := bs s) (d := 92) (r := r) (by rw [hsr]; rfl)
      have hT : (bs s).extract 1 (bs s).size = bs r := by rw [extract_from]; congr 1; rw [hsr]; rfl
      obtain ⟨m, hm⟩ : ∃ m, m = n + 1 := ⟨_, rfl⟩
      have hmi : (n : Int) + 1 = (m : Int) := by omega
      have hU : (bs s).extract m (bs s).size = bs (s.drop m) := extract_from _ _
      have hUl : (s.drop m).length < s.length := by rw [List.length_drop]; omega
      have HD : Hid (s.drop (n + 1) = s.drop m) := hide (by rw [hm])
      obtain ⟨R, hR⟩ : ∃ R, bs r = R := ⟨_, rfl⟩
      obtain ⟨U, hU'⟩ : ∃ U, bs (s.drop m) = U := ⟨_, rfl⟩
      obtain ⟨T, hT'⟩ : ∃ T, bs t = T := ⟨_, rfl⟩
      rw [hR] at HP hT
      rw [hT'] at HP
      rw [hU'] at hU
      have HU' := hide hU'
      have HT' := hide hT'
      have HSZ := hide hsz
      have hz1 : ((bs s).size : Int) ≤ 100 := by omega
      have hz0 : (m : Int) ≤ ((bs s).size : Int) := by omega
      have hm0 : (0 : Int) ≤ (m : Int) := by omega
      have hm1 : (0 : Int) < ((bs s).size : Int) := by omega
      have hm2 : (1 : Int) ≤ ((bs s).size : Int) := by omega
      have hn0 : (0 : Int) ≤ (n : Int) := by omega
      have hn1 : (n : Int) ≤ 99 := by omega
      have hlen : (Lib.byteCells acc).length + T.size ≤ 140737488355328 := by
        rw [Lib.byteCells_length, ← HT'.out, size_data]
        show acc.length + t.length ≤ _
        omega
      have HL := hide hlen
      clear hbd hbw hpart hnx hst hsr hR hU' hT' hm hUl hlen hsz
      go_wp2_with fail
      refine (HP.out W).mono ?_
      rintro e w1 ⟨rfl, hb1⟩
      have HB1 := hide (builder_below HB.out hb1)
      have HW1 := hide (HW.out.trans (hb1.mono HW.out.size))
      clear hb1
      go_wp2_with fail
      refine (WriteString_any w.heap.size w.heap.size (Lib.byteCells acc) T w1 HB1.out HL.out HW1.out.size).mono ?_
      rintro e w2 ⟨rfl, hb2, hw2⟩
      have HB2 : Hid (Lib.IsBuilderF 86 5 w.heap.size w.heap.size (Lib.byteCells (acc ++ t)) w2) := hide (by
        have : Lib.byteCells (acc ++ t) = Lib.byteCells acc ++ Lib.strCells T := by rw [← HT'.out]; unfold Lib.byteCells Lib.strCells; rw [List.map_append]; rfl
        rw [this]
        exact .inr hb2)
      have HW2 := hide (HW1.out.trans hw2)
      clear hb2 hw2
      go_wp2_with fail
      go_roundw
      case rel => exact ⟨_, rfl, _, acc ++ t, by rw [← HU'.out], by rw [← HD.out]; exact HNX.out, HB2.out, HW2.out⟩
      case measure => show U.size < (bs s).size; rw [← HU'.out, size_data, size_data]; show (s.drop m).length < s.length; rw [List.length_drop]; omega
end Go.Proofs.YtehflgllfkkfoaaDoor
