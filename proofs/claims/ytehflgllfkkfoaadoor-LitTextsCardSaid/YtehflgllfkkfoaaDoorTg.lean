/- The scanner's 'quoted'. -/
import Derived.Test.YtehflgllfkkfoaaDoorTf
set_option linter.unusedVariables false
namespace Go.Proofs.YtehflgllfkkfoaaDoor
open Go.RowKit Go.Proofs.Dm

/-- It ends so: a wrong place, or what is said of n. -/
def OrWrong (r : Option Nat) (q : Nat) (base : Nat) (w : World) (K : Nat → World → Prop) (e : Ending) (w' : World) : Prop :=
  match r with
  | none => e = .panicked (wrongAt q) ∧ Below base w w'
  | some n => e = .returned (.tuple #[]) ∧ K n w' ∧ Below base w w'
theorem OrWrong.bad {r : Option Nat} {q base : Nat} {w w' : World} {K : Nat → World → Prop} (hr : r = none) (hb : Below base w w') : OrWrong r q base w K (.panicked (wrongAt q)) w' := by
  subst hr; exact ⟨rfl, hb⟩
theorem OrWrong.good {r : Option Nat} {q base n : Nat} {w w' : World} {K : Nat → World → Prop} (hr : r = some n) (hk : K n w') (hb : Below base w w') : OrWrong r q base w K (.returned (.tuple #[])) w' := by
  subst hr; exact ⟨rfl, hk, hb⟩
theorem OrWrong.eq {r r' : Option Nat} {q base : Nat} {w w' : World} {K : Nat → World → Prop} {e : Ending} (hr : r = r') (h : OrWrong r' q base w K e w') : OrWrong r q base w K e w' := by subst hr; exact h

theorem iter_sc {base : Nat} {W : World} {B : Nat} {s : ByteArray} {p : Nat} {l ns : List Tk} (h : Sc base W B s p l ns) (T : ByteArray) (k : Nat) : Sc base (W.iter T k) B s p l ns := h.below (iter_below W T k)
theorem byte_ne_nat {d : UInt8} {x : Nat} {y : UInt8} (h : d ≠ y) (hx : y.toNat = x := by rfl) : (d.toNat == x) = false := by
  rw [beq_eq_false_iff_ne]
  intro e
  exact h (UInt8.toNat_inj.1 (by omega))
theorem pass_on {q : UInt8} {b : Bool} {L : Bs} {k n : Nat} (h : quotedLen q false L = (quotedLen q b (L.drop k)).map (· + k)) (h2 : quotedLen q b (L.drop k) = (quotedLen q false ((L.drop k).drop n)).map (· + n)) :
    quotedLen q false L = (quotedLen q false (L.drop (k + n))).map (· + (k + n)) := by
  rw [h, h2, List.drop_drop, Option.map_map]
  congr 1
  funext x
  simp; omega
theorem slash_on (r : Bs) (k : Nat) : (quotedLen 34 false (92 :: r)).map (· + k) = (quotedLen 34 true ((92 :: r).drop 1)).map (· + (k + 1)) := by
  show ((quotedLen 34 true r).map (· + 1)).map (· + k) = _
  rw [Option.map_map, List.drop_succ_cons, List.drop_zero]
  congr 1
  funext x
  simp; omega
theorem found_34 (r : Bs) (k : Nat) : (quotedLen 34 false (34 :: r)).map (· + k) = some (k + 1) := by
  show (some 1).map (· + k) = _
  simp; omega
theorem found_96 (r : Bs) (k : Nat) : (quotedLen 96 false (96 :: r)).map (· + k) = some (k + 1) := by
  show (some 1).map (· + k) = _
  simp; omega
theorem text_ok (t : Bs) (q : Nat) : TkOk ⟨5, t, q⟩ := .inr (.inr (.inr (.inr (.inl rfl))))

set_option maxRecDepth 100000 in
set_option maxHeartbeats 6400000 in
theorem quoted_any (base : Nat) (w : World) (B : Nat) (s : ByteArray) (p : Nat) (l ns : List Tk) (q : UInt8) (hq : q = 34 ∨ q = 96) (hpq : s.data.toList.drop p = q :: s.data.toList.drop (p + 1))
    (h : Sc base w B s p l ns) (hp : p < s.size) (hs : s.size ≤ 65536) (hl : l.length ≤ 200000) (hbase : base ≤ w.heap.size) :
    Calls Tryd.prog 77 #[.pointer (some ⟨B, 0, none⟩)] w
      (OrWrong (quotedLen q false (s.data.toList.drop (p + 1))) p base w fun n w' => Sc base w' B s (p + (n + 1)) (l ++ [⟨5, (s.data.toList.drop p).take (n + 1), p⟩]) ns) := by
  have HQ := hide hq
  have H0 := hide h
  obtain ⟨A, A', c, c', h1, h2, h3, h4⟩ := h.ex
  have c0 : w.cell? ⟨B, 0, none⟩ = some (.string s) := cells_at h1 0
  have c1 : w.cell? ⟨B, 1, none⟩ = some (.int .i64 (p : Int)) := cells_at h1 1
  have f1 : w.frozen? ⟨B, 1, none⟩ = false := frozen_at h1 1
  have hBl := block_lt h1
  clear h h1 h2 h3 h4
  have a0 : (0 : Int) ≤ (p : Int) := by omega
  have a1 : (p : Int) < (s.size : Int) := by omega
  have a2 : (p : Int) + 1 ≤ (s.size : Int) := by omega
  have a3 : (s.size : Int) ≤ 65536 := by omega
  have hsp : ((s[p]'hp).toNat : Int) = (q.toNat : Int) := by
    have e := List.drop_eq_getElem_cons (l := s.data.toList) (i := p) (by rw [← size_data]; exact hp)
    rw [hpq] at e
    injection e with e _
    have e2 : s.data.toList[p]'(by rw [← size_data]; exact hp) = s[p]'hp := rfl
    rw [← e2, ← e]
  obtain ⟨T, hT⟩ : ∃ T, s.extract (p + 1) s.size = T := ⟨_, rfl⟩
  have hTd : T.data.toList = s.data.toList.drop (p + 1) := by rw [← hT]; exact Lib.extract_to_end s (p + 1)
  have hTs : T.size + p + 1 = s.size := by rw [size_data T, hTd, List.length_drop, ← size_data]; omega
  have hTs1 : (T.size : Int) + (p : Int) + 1 ≤ (s.size : Int) := by omega
  have HTD := hide hTd; clear hTd
  have HPQ := hide hpq; clear hpq
  have HTS := hide hTs; clear hTs
  rcases hq with rfl | rfl
  · go_enter Tryd.func77, Tryd.ntmps77
    go_wp2_with fail
    clear hT
    go_loopw [4] (fun sl w' => ∃ (b : Bool) (k : Nat), sl = .bool b ∧ w' = w.iter T k ∧ k ≤ T.size ∧ quotedLen 34 false T.data.toList = (quotedLen 34 b (T.data.toList.drop k)).map (· + k)) (fun _ w' => T.size - w'.iterPos w.heap.size)
    case atStart => exact ⟨false, 0, rfl, rfl, Nat.zero_le _, by simp⟩
    case round =>
      obtain ⟨b, k, rfl, rfl, hk, hrel⟩ := hrel
      have HR := hide hrel; clear hrel
      have i1 := iter_cell (T := T) c1 k
      by_cases hlt : k < T.size
      · obtain ⟨d, r, hdr⟩ : ∃ d r, T.data.toList.drop k = d :: r := by
          cases hq : T.data.toList.drop k with
          | nil => have := congrArg List.length hq; rw [List.length_drop, ← size_data] at this; simp at this; omega
          | cons d r => exact ⟨d, r, rfl⟩
        have hnx : ∀ ty, (Instr.next (.pointer (some ⟨w.heap.size, 0, none⟩)) true ty).run Tryd.prog (w.iter T k) = _ := fun ty => run_next_any w T k ty hlt
        have hlen := decodeL_len (T.data.toList.drop k) (by rw [hdr]; simp)
        rw [List.length_drop, ← size_data] at hlen
        have t10 := rune_is (T.data.toList.drop k) d r hdr 10 (by omega)
        have t92 := rune_is (T.data.toList.drop k) d r hdr 92 (by omega)
        have tq := rune_is (T.data.toList.drop k) d r hdr 34 (by omega)
        have hone := sign_low (T.data.toList.drop k) d r hdr
        have hpass := fun sl => quoted_pass 34 (by decide) sl (T.data.toList.drop k) d r hdr
        rw [decode_eq] at hnx
        obtain ⟨n, hn⟩ : ∃ n, (decodeL (T.data.toList.drop k)).2 = n := ⟨_, rfl⟩
        obtain ⟨cv, hcv⟩ : ∃ cv : Int, ((decodeL (T.data.toList.drop k)).1 : Int) = cv := ⟨_, rfl⟩
        rw [hcv] at hnx t10 t92 tq
        rw [hn] at hnx hlen hone hpass
        have hkn : (p : Int) + (k : Int) + 2 ≤ 65538 := by omega
        have hn1 : 1 ≤ n := hlen.1
        have hn2 : k + n ≤ T.size := by omega
        clear hn hcv hlen
        have HPASS := hide hpass; clear hpass
        have HDR := hide hdr; clear hdr
        have HONE := hide hone; clear hone
        have T10 := hide t10; clear t10
        have T92 := hide t92; clear t92
        have TQ := hide tq; clear tq
        have j1 := iter_cell (T := T) c1 (k + n)
        have jf := (iter_frozen (T := T) (a := ⟨B, 1, none⟩) hBl (k + n)).trans f1
        cases b with
        | true =>
          by_cases h10 : d = 10
          · have e10 : (cv == 10) = true := by rw [show ((10 : Int)) = ((10 : Nat) : Int) from rfl, T10.out, h10]; rfl
            have n10 : (cv != 10) = false := by unfold bne; rw [e10]; rfl
            have HX : Hid (quotedLen 34 false T.data.toList = none) := by rw [HR.out, HDR.out, h10]; rfl
            clear h10
            go_wp2_with fail
            refine (need_false _ _ _).mono ?_
            rintro e w' ⟨rfl, rfl⟩
            exact ⟨rfl, OrWrong.bad (by rw [← HTD.out]; exact HX.out) ((iter_below w T (k + n)).mono hbase)⟩
          · have e10 : (cv == 10) = false := by rw [show ((10 : Int)) = ((10 : Nat) : Int) from rfl, T10.out]; exact byte_ne_nat h10
            have n10 : (cv != 10) = true := by unfold bne; rw [e10]; rfl
            have HX : Hid (quotedLen 34 false T.data.toList = (quotedLen 34 false (T.data.toList.drop (k + n))).map (· + (k + n))) := pass_on HR.out (HPASS.out true (fun h => absurd h h10) (fun h => by cases h) (fun h => by cases h))
            clear h10
            go_wp2_with fail
            refine (need_true _ _ _).mono ?_
            rintro e w' ⟨rfl, rfl⟩
            go_wp2_with fail
            go_roundw
            case rel => exact ⟨false, k + n, rfl, rfl, hn2, HX.out⟩
            case measure => simp; omega
        | false =>
          by_cases h92 : d = 92
          · have e92 : (cv == 92) = true := by rw [show ((92 : Int)) = ((92 : Nat) : Int) from rfl, T92.out, h92]; rfl
            have hn' : n = 1 := HONE.out (by rw [h92]; decide)
            subst hn'
            have HX : Hid (quotedLen 34 false T.data.toList = (quotedLen 34 true (T.data.toList.drop (k + 1))).map (· + (k + 1))) := by
              rw [HR.out, ← List.drop_drop, HDR.out, h92]; exact slash_on r k
            clear h92
            go_wp2_with fail
            go_roundw
            case rel => exact ⟨true, k + 1, rfl, rfl, hn2, HX.out⟩
            case measure => simp; omega
          have e92 : (cv == 92) = false := by rw [show ((92 : Int)) = ((92 : Nat) : Int) from rfl, T92.out]; exact byte_ne_nat h92
          have H92 := hide h92; clear h92
          by_cases hdq : d = 34
          · have eq0 : (cv == 34) = true := by rw [show ((34 : Int)) = ((34 : Nat) : Int) from rfl, TQ.out, hdq]; rfl
            have hn' : n = 1 := HONE.out (by rw [hdq]; decide)
            subst hn'
            have HX : Hid (quotedLen 34 false T.data.toList = some (k + 1)) := by rw [HR.out, HDR.out, hdq]; exact found_34 r k
            clear hdq
            have hm := (iter_sc H0.out T (k + 1)).move (p + k + 2)
            rw [show ((p + k + 2 : Nat) : Int) = (p : Int) + (k : Int) + 2 from by omega] at hm
            have HM := hide hm; clear hm
            have hend : p + k + 2 ≤ s.size := by have := HTS.out; omega
            go_wp2_with fail
            refine (add_any base _ B s (p + k + 2) p 5 5 l ns rfl HM.out.1 (by omega) hend hl (by simp [World.setCell, World.iter]; omega) (text_ok _ _)).mono ?_
            rintro e w' ⟨rfl, hsc, hbl⟩
            have HS := hide hsc; clear hsc
            have HB := hide hbl; clear hbl
            go_wp2_with fail
            refine bodyPost_ret (results_none rfl _ _ _) rfl ?_
            refine OrWrong.good (n := k + 1) (by rw [← HTD.out]; exact HX.out) ?_ (((iter_below w T (k + 1)).mono hbase).trans (HM.out.2.trans HB.out))
            have e1 : p + k + 2 - p = k + 1 + 1 := by omega
            have e2 : p + k + 2 = p + (k + 1 + 1) := by omega
            have hsc := HS.out
            rw [e1, e2] at hsc
            exact hsc
          have eq0 : (cv == 34) = false := by rw [show ((34 : Int)) = ((34 : Nat) : Int) from rfl, TQ.out]; exact byte_ne_nat hdq
          have HDQ := hide hdq; clear hdq
          by_cases h10 : d = 10
          · have e10 : (cv == 10) = true := by rw [show ((10 : Int)) = ((10 : Nat) : Int) from rfl, T10.out, h10]; rfl
            have HX : Hid (quotedLen 34 false T.data.toList = none) := by rw [HR.out, HDR.out, h10]; rfl
            clear h10
            go_wp2_with fail
            refine (need_false _ _ _).mono ?_
            rintro e w' ⟨rfl, rfl⟩
            exact ⟨rfl, OrWrong.bad (by rw [← HTD.out]; exact HX.out) ((iter_below w T (k + n)).mono hbase)⟩
          · have e10 : (cv == 10) = false := by rw [show ((10 : Int)) = ((10 : Nat) : Int) from rfl, T10.out]; exact byte_ne_nat h10
            have HX : Hid (quotedLen 34 false T.data.toList = (quotedLen 34 false (T.data.toList.drop (k + n))).map (· + (k + n))) := pass_on HR.out (HPASS.out false (fun h => absurd h h10) (fun _ h => H92.out h.1) (fun _ => HDQ.out))
            clear h10
            go_wp2_with fail
            go_roundw
            case rel => exact ⟨false, k + n, rfl, rfl, hn2, HX.out⟩
            case measure => simp; omega
      · have hnx : ∀ ty, (Instr.next (.pointer (some ⟨w.heap.size, 0, none⟩)) true ty).run Tryd.prog (w.iter T k) = _ := fun ty => run_next_end w T k ty hlt
        have HX : Hid (quotedLen 34 false T.data.toList = none) := by rw [HR.out, List.drop_of_length_le (by rw [← size_data]; omega)]; cases b <;> rfl
        go_wp2_with fail
        refine (need_false _ _ _).mono ?_
        rintro e w' ⟨rfl, rfl⟩
        exact ⟨rfl, OrWrong.bad (by rw [← HTD.out]; exact HX.out) ((iter_below w T k).mono hbase)⟩
  · go_enter Tryd.func77, Tryd.ntmps77
    go_wp2_with fail
    clear hT
    go_loopw [4] (fun sl w' => ∃ (b : Bool) (k : Nat), sl = .bool b ∧ w' = w.iter T k ∧ k ≤ T.size ∧ quotedLen 96 false T.data.toList = (quotedLen 96 b (T.data.toList.drop k)).map (· + k)) (fun _ w' => T.size - w'.iterPos w.heap.size)
    case atStart => exact ⟨false, 0, rfl, rfl, Nat.zero_le _, by simp⟩
    case round =>
      obtain ⟨b, k, rfl, rfl, hk, hrel⟩ := hrel
      have HR := hide hrel; clear hrel
      have i1 := iter_cell (T := T) c1 k
      by_cases hlt : k < T.size
      · obtain ⟨d, r, hdr⟩ : ∃ d r, T.data.toList.drop k = d :: r := by
          cases hq : T.data.toList.drop k with
          | nil => have := congrArg List.length hq; rw [List.length_drop, ← size_data] at this; simp at this; omega
          | cons d r => exact ⟨d, r, rfl⟩
        have hnx : ∀ ty, (Instr.next (.pointer (some ⟨w.heap.size, 0, none⟩)) true ty).run Tryd.prog (w.iter T k) = _ := fun ty => run_next_any w T k ty hlt
        have hlen := decodeL_len (T.data.toList.drop k) (by rw [hdr]; simp)
        rw [List.length_drop, ← size_data] at hlen
        have t10 := rune_is (T.data.toList.drop k) d r hdr 10 (by omega)
        have t92 := rune_is (T.data.toList.drop k) d r hdr 92 (by omega)
        have tq := rune_is (T.data.toList.drop k) d r hdr 96 (by omega)
        have hone := sign_low (T.data.toList.drop k) d r hdr
        have hpass := fun sl => quoted_pass 96 (by decide) sl (T.data.toList.drop k) d r hdr
        rw [decode_eq] at hnx
        obtain ⟨n, hn⟩ : ∃ n, (decodeL (T.data.toList.drop k)).2 = n := ⟨_, rfl⟩
        obtain ⟨cv, hcv⟩ : ∃ cv : Int, ((decodeL (T.data.toList.drop k)).1 : Int) = cv := ⟨_, rfl⟩
        rw [hcv] at hnx t10 t92 tq
        rw [hn] at hnx hlen hone hpass
        have hkn : (p : Int) + (k : Int) + 2 ≤ 65538 := by omega
        have hn1 : 1 ≤ n := hlen.1
        have hn2 : k + n ≤ T.size := by omega
        clear hn hcv hlen
        have HPASS := hide hpass; clear hpass
        have HDR := hide hdr; clear hdr
        have HONE := hide hone; clear hone
        have T10 := hide t10; clear t10
        have T92 := hide t92; clear t92
        have TQ := hide tq; clear tq
        have j1 := iter_cell (T := T) c1 (k + n)
        have jf := (iter_frozen (T := T) (a := ⟨B, 1, none⟩) hBl (k + n)).trans f1
        cases b with
        | true =>
          by_cases h10 : d = 10
          · have e10 : (cv == 10) = true := by rw [show ((10 : Int)) = ((10 : Nat) : Int) from rfl, T10.out, h10]; rfl
            have n10 : (cv != 10) = false := by unfold bne; rw [e10]; rfl
            have HX : Hid (quotedLen 96 false T.data.toList = none) := by rw [HR.out, HDR.out, h10]; rfl
            clear h10
            go_wp2_with fail
            refine (need_false _ _ _).mono ?_
            rintro e w' ⟨rfl, rfl⟩
            exact ⟨rfl, OrWrong.bad (by rw [← HTD.out]; exact HX.out) ((iter_below w T (k + n)).mono hbase)⟩
          · have e10 : (cv == 10) = false := by rw [show ((10 : Int)) = ((10 : Nat) : Int) from rfl, T10.out]; exact byte_ne_nat h10
            have n10 : (cv != 10) = true := by unfold bne; rw [e10]; rfl
            have HX : Hid (quotedLen 96 false T.data.toList = (quotedLen 96 false (T.data.toList.drop (k + n))).map (· + (k + n))) := pass_on HR.out (HPASS.out true (fun h => absurd h h10) (fun h => by cases h) (fun h => by cases h))
            clear h10
            go_wp2_with fail
            refine (need_true _ _ _).mono ?_
            rintro e w' ⟨rfl, rfl⟩
            go_wp2_with fail
            go_roundw
            case rel => exact ⟨false, k + n, rfl, rfl, hn2, HX.out⟩
            case measure => simp; omega
        | false =>
          have e92a : (cv == 92) = true ∨ (cv == 92) = false := by cases (cv == 92) <;> simp
          by_cases hdq : d = 96
          · have eq0 : (cv == 96) = true := by rw [show ((96 : Int)) = ((96 : Nat) : Int) from rfl, TQ.out, hdq]; rfl
            have hn' : n = 1 := HONE.out (by rw [hdq]; decide)
            subst hn'
            have e92 : (cv == 92) = false := by rw [show ((92 : Int)) = ((92 : Nat) : Int) from rfl, T92.out, hdq]; rfl
            clear e92a
            have HX : Hid (quotedLen 96 false T.data.toList = some (k + 1)) := by rw [HR.out, HDR.out, hdq]; exact found_96 r k
            clear hdq
            have hm := (iter_sc H0.out T (k + 1)).move (p + k + 2)
            rw [show ((p + k + 2 : Nat) : Int) = (p : Int) + (k : Int) + 2 from by omega] at hm
            have HM := hide hm; clear hm
            have hend : p + k + 2 ≤ s.size := by have := HTS.out; omega
            go_wp2_with fail
            refine (add_any base _ B s (p + k + 2) p 5 5 l ns rfl HM.out.1 (by omega) hend hl (by simp [World.setCell, World.iter]; omega) (text_ok _ _)).mono ?_
            rintro e w' ⟨rfl, hsc, hbl⟩
            have HS := hide hsc; clear hsc
            have HB := hide hbl; clear hbl
            go_wp2_with fail
            refine bodyPost_ret (results_none rfl _ _ _) rfl ?_
            refine OrWrong.good (n := k + 1) (by rw [← HTD.out]; exact HX.out) ?_ (((iter_below w T (k + 1)).mono hbase).trans (HM.out.2.trans HB.out))
            have e1 : p + k + 2 - p = k + 1 + 1 := by omega
            have e2 : p + k + 2 = p + (k + 1 + 1) := by omega
            have hsc := HS.out
            rw [e1, e2] at hsc
            exact hsc
          have eq0 : (cv == 96) = false := by rw [show ((96 : Int)) = ((96 : Nat) : Int) from rfl, TQ.out]; exact byte_ne_nat hdq
          have HDQ := hide hdq; clear hdq
          have HX : Hid (quotedLen 96 false T.data.toList = (quotedLen 96 false (T.data.toList.drop (k + n))).map (· + (k + n))) := pass_on HR.out (HPASS.out false (fun _ => ⟨rfl, rfl⟩) (fun _ h => absurd h.2 (by decide)) (fun _ => HDQ.out))
          rcases e92a with e92 | e92
          all_goals
            by_cases h10 : d = 10
            · have e10 : (cv == 10) = true := by rw [show ((10 : Int)) = ((10 : Nat) : Int) from rfl, T10.out, h10]; rfl
              clear h10
              go_wp2_with fail
              refine (need_true _ _ _).mono ?_
              rintro e w' ⟨rfl, rfl⟩
              go_wp2_with fail
              go_roundw
              case rel => exact ⟨false, k + n, rfl, rfl, hn2, HX.out⟩
              case measure => simp; omega
            · have e10 : (cv == 10) = false := by rw [show ((10 : Int)) = ((10 : Nat) : Int) from rfl, T10.out]; exact byte_ne_nat h10
              clear h10
              go_wp2_with fail
              go_roundw
              case rel => exact ⟨false, k + n, rfl, rfl, hn2, HX.out⟩
              case measure => simp; omega
      · have hnx : ∀ ty, (Instr.next (.pointer (some ⟨w.heap.size, 0, none⟩)) true ty).run Tryd.prog (w.iter T k) = _ := fun ty => run_next_end w T k ty hlt
        have HX : Hid (quotedLen 96 false T.data.toList = none) := by rw [HR.out, List.drop_of_length_le (by rw [← size_data]; omega)]; cases b <;> rfl
        go_wp2_with fail
        refine (need_false _ _ _).mono ?_
        rintro e w' ⟨rfl, rfl⟩
        exact ⟨rfl, OrWrong.bad (by rw [← HTD.out]; exact HX.out) ((iter_below w T k).mono hbase)⟩
end Go.Proofs.YtehflgllfkkfoaaDoor
