/- package place's 'Wrong': where bytes cease to be a text. -/
import Derived.Test.YtehflgllfkkfoaaDoorUtf
import Derived.Test.YtehflgllfkkfoaaDoorSh7
import Derived.Laws.IdiomStrings
import Derived.Laws.BytesArg
set_option linter.unusedVariables false
namespace Go.Proofs.YtehflgllfkkfoaaDoor
open Go.RowKit Go.Proofs.Dm

/-- A slice of bytes in memory. -/
def BytesAt (w : World) (v : Value) (b : Bs) : Prop :=
  (∃ A c, v = .slice A 0 c ∧ b = []) ∨ ∃ a o cap, v = .slice (some ⟨a, o, none⟩) b.length cap ∧ b.length ≤ cap ∧ ∀ j (hj : j < b.length), w.cell? ⟨a, o + j, none⟩ = some (.int .u8 ((b[j]'hj).toNat : Int))
/-- A range over a string has come so far. -/
def turned (w : World) (g : Nat) (o : Obj) : World := { w with heap := w.heap.setIfInBounds g o }
theorem run_next_at {P : Program} (w : World) (g : Nat) (s : ByteArray) (pos : Nat) (hg : w.heap[g]? = some (.stringIter s pos)) (h : pos < s.size) (ty : TypeId) :
    (Instr.next (.pointer (some ⟨g, 0, none⟩)) true ty).run P w = .ok (.tuple #[.bool true, .int .i64 pos, .int .i32 (Utf8.decode s pos).1]) (turned w g (.stringIter s (pos + (Utf8.decode s pos).2))) := by
  simp only [Instr.next, getObj, setObj, Sem.run_bind, Sem.run, hg, Result.andThen, h, if_true]
  simp [goInt, turned]
theorem run_next_over {P : Program} (w : World) (g : Nat) (s : ByteArray) (pos : Nat) (hg : w.heap[g]? = some (.stringIter s pos)) (h : ¬ pos < s.size) (ty : TypeId) :
    (Instr.next (.pointer (some ⟨g, 0, none⟩)) true ty).run P w = .ok (.tuple #[.bool false]) w := by
  simp [Instr.next, getObj, Sem.run, hg, h]
theorem turned_at {w : World} {g : Nat} (h : g < w.heap.size) (o : Obj) : (turned w g o).heap[g]? = some o := by
  simp [turned, h]
theorem turned_below {w : World} (g B : Nat) (h : B ≤ g) (o : Obj) : Below B w (turned w g o) :=
  ⟨rfl, rfl, rfl, by simp [turned], fun k hk => by simp only [turned]; rw [Array.getElem?_setIfInBounds_ne (by omega)]⟩
theorem get_byte_at (b : Bs) (k j : Nat) (h : k + j < b.length) : (((bs b).extract k b.length).get! j).toNat = (b[k + j]'h).toNat := by
  rw [show ((bs b).extract k b.length) = bs (b.drop k) from by
    rw [extract_bs, bs_data, List.take_of_length_le (by rw [List.length_drop]; omega)]]
  have := get_byte (bs (b.drop k)) 0 j
  rw [Nat.zero_add] at this
  rw [this, List.drop_zero, bs_data]
  unfold byteAt
  rw [List.getD_eq_getElem?_getD, List.getElem?_drop, List.getElem?_eq_getElem h]
  rfl
def wrongInt (b : Bs) : Int := match wrongL b.length b 0 with | none => -1 | some p => (p : Int)
theorem wrong_step (f : Nat) (c : UInt8) (r : Bs) (p : Nat) : wrongL (f + 1) (c :: r) p = if badSign (decodeL (c :: r)) || ((decodeL (c :: r)).1 == 65279 && decide (0 < p)) then some p else wrongL f ((c :: r).drop (decodeL (c :: r)).2) (p + (decodeL (c :: r)).2) := rfl

theorem cv_nil (w : World) (A : Option Addr) (c : Nat) : (convert 22 9 (.slice A 0 c)).run Tryd.prog w = .ok (.string (bs [])) w := by
  cases A with
  | none => exact run_convert_bytes_nil (P := Tryd.prog) w 22 5 Tryd.underlying22 Tryd.underlying5 0 c 9 Tryd.underlying9
  | some a => exact run_convert_bytes_back (P := Tryd.prog) w 22 9 5 a c [] Tryd.underlying22 Tryd.underlying5 Tryd.underlying9 (fun j hj => by simp at hj)
set_option maxRecDepth 100000 in
set_option maxHeartbeats 6400000 in
theorem wrong_nil (w : World) (A : Option Addr) (c : Nat) : Calls Tryd.prog 51 #[.slice A 0 c] w fun e w' => e = .returned (.int .i64 (-1)) ∧ Below w.heap.size w w' := by
  have hcv : (convert 22 9 (.slice A 0 c)).run Tryd.prog w = .ok (.string (bs [])) w := cv_nil w A c
  have hnx : ∀ ty, (Instr.next (.pointer (some ⟨w.heap.size, 0, none⟩)) true ty).run Tryd.prog (w.iter (bs []) 0) = _ := fun ty => run_next_end w (bs []) 0 ty (by rw [bs_size]; simp)
  go_enter Tryd.func51, Tryd.ntmps51
  go_wp2_with fail
  refine wp_loop_rounds 1 ?_
  rw [rounds_succ]
  go_wp2_with fail
  go_ret
  exact ⟨rfl, (Below.refl _ w).alloc (Nat.le_refl _) _⟩

theorem wl_go {b : Bs} {k f : Nat} {d : UInt8} {r : Bs} (hd : b.drop k = d :: r) (hf : (b.drop k).length ≤ f) (h : wrongL b.length b 0 = wrongL f (b.drop k) k) :
    ((badSign (decodeL (d :: r)) || ((decodeL (d :: r)).1 == 65279 && decide (0 < k))) = true → wrongL b.length b 0 = some k) ∧
    ((badSign (decodeL (d :: r)) || ((decodeL (d :: r)).1 == 65279 && decide (0 < k))) = false → ∃ f', (b.drop (k + (decodeL (d :: r)).2)).length ≤ f' ∧ wrongL b.length b 0 = wrongL f' (b.drop (k + (decodeL (d :: r)).2)) (k + (decodeL (d :: r)).2)) := by
  have hl := decodeL_len (d :: r) (by simp)
  rw [hd] at h hf
  cases f with
  | zero => simp at hf
  | succ f =>
    rw [wrong_step] at h
    refine ⟨fun hb => by rw [h, if_pos hb], fun hb => ⟨f, ?_, ?_⟩⟩
    · rw [← List.drop_drop, hd, List.length_drop]; omega
    · rw [h, if_neg (by rw [hb]; decide), ← List.drop_drop, hd]
theorem wrongInt_some {b : Bs} {k : Nat} (h : wrongL b.length b 0 = some k) : wrongInt b = (k : Int) := by unfold wrongInt; rw [h]
theorem wrongInt_none {b : Bs} (h : wrongL b.length b 0 = none) : wrongInt b = -1 := by unfold wrongInt; rw [h]
theorem bad_bool (c n k : Nat) (q : Bool) (h : ((c : Int) == 0) = false → ((((c : Int) == 65533) && ((n : Int) == 1)) = false) → (((c : Int) == 65279) && decide (0 < (k : Int))) = q) (h0 : ((c : Int) == 0) = true → q = true) (h1 : (((c : Int) == 65533) && ((n : Int) == 1)) = true → q = true) :
    (badSign (c, n) || ((c, n).1 == 65279 && decide (0 < k))) = q := by
  have e0 : ((c : Int) == 0) = (c == 0) := by rw [Bool.eq_iff_iff]; simp; 
  have e1 : ((c : Int) == 65533) = (c == 65533) := by rw [Bool.eq_iff_iff]; simp; omega
  have e2 : ((n : Int) == 1) = (n == 1) := by rw [Bool.eq_iff_iff]; simp; omega
  have e3 : ((c : Int) == 65279) = (c == 65279) := by rw [Bool.eq_iff_iff]; simp; omega
  have e4 : decide (0 < (k : Int)) = decide (0 < k) := by rw [Bool.eq_iff_iff]; simp
  rw [e0] at h h0
  rw [e1, e2] at h h1
  rw [e3, e4] at h
  unfold badSign
  show ((c == 0 || (c == 65533 && n == 1)) || (c == 65279 && decide (0 < k))) = q
  cases hc : (c == 0) with
  | true => rw [h0 hc]; rfl
  | false =>
    cases hn : (c == 65533 && n == 1) with
    | true => rw [h1 hn]; rfl
    | false => rw [← h hc hn]; rfl

set_option maxRecDepth 100000 in
set_option maxHeartbeats 12800000 in
theorem wrong_some (w : World) (a o cap : Nat) (b : Bs) (hcap : b.length ≤ cap) (hb : b.length ≤ 65536) (hcell : ∀ j (hj : j < b.length), w.cell? ⟨a, o + j, none⟩ = some (.int .u8 ((b[j]'hj).toNat : Int)))
    (hT : Lib.Utf8Tabs 0 1 w) :
    Calls Tryd.prog 51 #[.slice (some ⟨a, o, none⟩) b.length cap] w fun e w' => e = .returned (.int .i64 (wrongInt b)) ∧ Below w.heap.size w w' := by
  have hcv := run_convert_bytes_back (P := Tryd.prog) w 22 9 5 ⟨a, o, none⟩ cap b Tryd.underlying22 Tryd.underlying5 Tryd.underlying9 (fun j hj => by
    have e : (⟨a, o, none⟩ : Addr).add j = ⟨a, o + j, none⟩ := by unfold Addr.add; split <;> simp_all
    rw [e]; exact hcell j hj)
  have HT := hide hT; clear hT
  have HC := hide hcell; clear hcell
  have hb2 : (b.length : Int) ≤ 65536 := by omega
  have hcap2 : (b.length : Int) ≤ (cap : Int) := by omega
  obtain ⟨T, hTb⟩ : ∃ T, bs b = T := ⟨_, rfl⟩
  have hcv2 : (convert 22 9 (.slice (some ⟨a, o, none⟩) b.length cap)).run Tryd.prog w = .ok (.string T) w := by rw [← hTb]; exact hcv
  clear hcv
  have HTB := hide hTb; clear hTb
  have HTD : Hid (T.data.toList = b) := hide (by rw [← HTB.out, bs_data])
  have hTs : T.size = b.length := by rw [size_data T, HTD.out]
  have HTS := hide hTs; clear hTs
  go_enter Tryd.func51, Tryd.ntmps51
  go_wp2_with fail
  clear hcv2
  go_loopw [3] (fun _ W => ∃ w', w' = W ∧ ∃ k f, W.heap[w.heap.size]? = some (.stringIter T k) ∧ Below w.heap.size w W ∧ k ≤ b.length ∧ (b.drop k).length ≤ f ∧ wrongL b.length b 0 = wrongL f (b.drop k) k) (fun _ W => b.length - W.iterPos w.heap.size)
  case atStart =>
    exact ⟨_, rfl, 0, b.length, World.iter_heap w T 0, (Below.refl _ w).alloc (Nat.le_refl _) _, Nat.zero_le _, by simp, rfl⟩
  case round =>
    obtain ⟨w', rfl, k, f, hit, hbl, hk, hf, heq⟩ := hrel
    have hHW : w.heap.size < w'.heap.size := block_lt hit
    have hpos : w'.iterPos w.heap.size = k := by unfold World.iterPos; rw [hit]
    by_cases hlt : k < b.length
    · obtain ⟨d, r, hdr⟩ : ∃ d r, b.drop k = d :: r := by
        cases hq : b.drop k with
        | nil => have := congrArg List.length hq; rw [List.length_drop] at this; simp at this; omega
        | cons d r => exact ⟨d, r, rfl⟩
      have hwl := wl_go hdr hf heq
      have hlen := decodeL_len (d :: r) (by simp)
      have hlk : (d :: r).length = b.length - k := by rw [← hdr, List.length_drop]
      have hnx := run_next_at (P := Tryd.prog) w' w.heap.size T k hit (by rw [HTS.out]; exact hlt)
      rw [decode_eq, HTD.out, hdr] at hnx
      obtain ⟨W1, hW1⟩ : ∃ W1, turned w' w.heap.size (.stringIter T (k + (decodeL (d :: r)).2)) = W1 := ⟨_, rfl⟩
      have ht1 := turned_at hHW (.stringIter T (k + (decodeL (d :: r)).2))
      have hb1 := (hbl.trans (turned_below w.heap.size w.heap.size (Nat.le_refl _) (.stringIter T (k + (decodeL (d :: r)).2))))
      rw [hW1] at hnx ht1 hb1
      clear hW1
      have hdec := Tryd.utf8_DecodeRune (bs (b.drop k)) a (o + k) (cap - k) W1 (Utf8Tabs_below HT.out hb1) (by
        intro j hj
        rw [bs_size, List.length_drop] at hj
        have hcj := HC.out (k + j) (by omega)
        have := (hb1.cell (p := ⟨a, o + (k + j), none⟩) (World.block_lt_of_cell? w _ hcj)).trans hcj
        rw [show o + k + j = o + (k + j) from by omega, this]
        have e := get_byte (bs (b.drop k)) 0 j
        rw [Nat.zero_add] at e
        rw [e, List.drop_zero, bs_data]
        unfold byteAt
        rw [List.getD_eq_getElem?_getD, List.getElem?_drop, List.getElem?_eq_getElem (by omega)]
        rfl)
      have e1 : Lib.decodeGo (bs (b.drop k)) = decodeL (d :: r) := by
        unfold Lib.decodeGo
        rw [if_neg (by rw [bs_size, List.length_drop]; omega), decode_eq, bs_data, List.drop_zero, hdr]
      rw [e1, bs_size, List.length_drop] at hdec
      clear e1
      obtain ⟨c, n, hcn⟩ : ∃ c n, decodeL (d :: r) = (c, n) := ⟨_, _, rfl⟩
      rw [hcn] at hnx hdec ht1 hwl hlen
      simp only at hnx hdec ht1 hwl hlen
      have HDC := hide hdec; clear hdec
      have HWL := hide hwl; clear hwl
      have HT1 := hide ht1; clear ht1
      have HB1 := hide hb1; clear hb1
      have HDR := hide hdr; clear hdr
      clear hcn heq hf hit hbl
      have k0 : (0 : Int) ≤ (k : Int) := by omega
      have k1 : (k : Int) < (b.length : Int) := by omega
      have k2 : (k : Int) ≤ (b.length : Int) := by omega
      have k3 : (k : Int) ≤ (cap : Int) := by omega
      have n1 : 1 ≤ n := hlen.1
      have n2 : k + n ≤ b.length := by have := hlen.2.1; omega
      clear hlen hlk
      have hH1 : w.heap.size < W1.heap.size := block_lt HT1.out
      have go_on : Hid (∀ W2 : World, Below W1.heap.size W1 W2 → (badSign (c, n) || ((c, n).1 == 65279 && decide (0 < k))) = false →
          (∃ k f, W2.heap[w.heap.size]? = some (.stringIter T k) ∧ Below w.heap.size w W2 ∧ k ≤ b.length ∧ (b.drop k).length ≤ f ∧ wrongL b.length b 0 = wrongL f (b.drop k) k) ∧ W2.iterPos w.heap.size = k + n) := hide (by
        intro W2 h2 hq
        have hh := (h2.block _ hH1).trans HT1.out
        obtain ⟨f', hf', he'⟩ := HWL.out.2 hq
        exact ⟨⟨k + n, f', hh, HB1.out.trans (h2.mono (Nat.le_of_lt hH1)), n2, hf', he'⟩, by unfold World.iterPos; rw [hh]⟩)
      have stop : Hid (∀ W2 : World, Below W1.heap.size W1 W2 → (badSign (c, n) || ((c, n).1 == 65279 && decide (0 < k))) = true → wrongInt b = (k : Int) ∧ Below w.heap.size w W2) := hide (by
        intro W2 h2 hq
        exact ⟨wrongInt_some (HWL.out.1 hq), HB1.out.trans (h2.mono (Nat.le_of_lt hH1))⟩)
      go_wp2_with fail
      refine HDC.out.mono ?_
      rintro e W2 ⟨rfl, hb2'⟩
      have HB2 := hide hb2'; clear hb2'
      cases e0 : ((c : Int) == 0) with
      | true =>
        have HQ : Hid ((badSign (c, n) || ((c, n).1 == 65279 && decide (0 < k))) = true) := hide (bad_bool c n k true (fun h => by rw [e0] at h; cases h) (fun _ => rfl) (fun _ => rfl))
        go_wp2_with fail
        go_ret
        have hq := stop.out W2 HB2.out HQ.out
        exact ⟨by rw [hq.1]; rfl, hq.2⟩
      | false =>
        cases e1 : ((c : Int) == 65533) with
        | true =>
          have e3 : ((c : Int) == 65279) = false := by rw [beq_eq_false_iff_ne]; rw [beq_iff_eq] at e1; omega
          cases e2 : ((n : Int) == 1) with
          | true =>
            have HQ : Hid ((badSign (c, n) || ((c, n).1 == 65279 && decide (0 < k))) = true) := hide (bad_bool c n k true (fun _ h => by rw [e1, e2] at h; cases h) (fun _ => rfl) (fun _ => rfl))
            go_wp2_with fail
            go_ret
            have hq := stop.out W2 HB2.out HQ.out
            exact ⟨by rw [hq.1]; rfl, hq.2⟩
          | false =>
            have HQ : Hid ((badSign (c, n) || ((c, n).1 == 65279 && decide (0 < k))) = false) := hide (bad_bool c n k false (fun _ _ => by rw [e3]; rfl) (fun h => by rw [e0] at h; cases h) (fun h => by rw [e1, e2] at h; cases h))
            go_wp2_with fail
            go_roundw
            case rel => exact ⟨_, rfl, (go_on.out W2 HB2.out HQ.out).1⟩
            case measure => rw [(go_on.out W2 HB2.out HQ.out).2, hpos]; omega
        | false =>
          cases e3 : ((c : Int) == 65279) with
          | true =>
            by_cases hk0 : (0 : Int) < (k : Int)
            · have HQ : Hid ((badSign (c, n) || ((c, n).1 == 65279 && decide (0 < k))) = true) := hide (bad_bool c n k true (fun _ _ => by rw [e3, decide_eq_true hk0]; rfl) (fun _ => rfl) (fun _ => rfl))
              go_wp2_with fail
              go_ret
              have hq := stop.out W2 HB2.out HQ.out
              exact ⟨by rw [hq.1]; rfl, hq.2⟩
            · have HQ : Hid ((badSign (c, n) || ((c, n).1 == 65279 && decide (0 < k))) = false) := hide (bad_bool c n k false (fun _ _ => by rw [e3, decide_eq_false hk0]; rfl) (fun h => by rw [e0] at h; cases h) (fun h => by rw [e1] at h; cases h))
              have hk1 : decide ((0 : Int) < (k : Int)) = false := decide_eq_false hk0
              go_wp2_with fail
              go_roundw
              case rel => exact ⟨_, rfl, (go_on.out W2 HB2.out HQ.out).1⟩
              case measure => rw [(go_on.out W2 HB2.out HQ.out).2, hpos]; omega
          | false =>
            have HQ : Hid ((badSign (c, n) || ((c, n).1 == 65279 && decide (0 < k))) = false) := hide (bad_bool c n k false (fun _ _ => by rw [e3]; rfl) (fun h => by rw [e0] at h; cases h) (fun h => by rw [e1] at h; cases h))
            go_wp2_with fail
            go_roundw
            case rel => exact ⟨_, rfl, (go_on.out W2 HB2.out HQ.out).1⟩
            case measure => rw [(go_on.out W2 HB2.out HQ.out).2, hpos]; omega
    · have hkb : k = b.length := by omega
      have hw0 : Hid (wrongInt b = -1) := hide (wrongInt_none (by rw [heq, hkb, List.drop_length]; cases f <;> rfl))
      have hnx := run_next_over (P := Tryd.prog) w' w.heap.size T k hit (by rw [HTS.out]; exact hlt)
      have HB := hide hbl
      clear hbl heq hf hkb
      go_wp2_with fail
      go_ret
      exact ⟨by rw [hw0.out]; rfl, HB.out⟩
theorem wrong_any (w : World) (v : Value) (b : Bs) (hv : BytesAt w v b) (hb : b.length ≤ 65536) (hT : Lib.Utf8Tabs 0 1 w) :
    Calls Tryd.prog 51 #[v] w fun e w' => e = .returned (.int .i64 (wrongInt b)) ∧ Below w.heap.size w w' := by
  rcases hv with ⟨A, c, rfl, rfl⟩ | ⟨a, o, cap, rfl, hcap, hcell⟩
  · exact wrong_nil w A c
  · exact wrong_some w a o cap b hcap hb hcell hT
end Go.Proofs.YtehflgllfkkfoaaDoor
