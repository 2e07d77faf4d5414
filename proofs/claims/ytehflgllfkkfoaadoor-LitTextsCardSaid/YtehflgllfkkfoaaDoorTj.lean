/- The scanner's 'note'. -/
import Derived.Test.YtehflgllfkkfoaaDoorTi
set_option linter.unusedVariables false
namespace Go.Proofs.YtehflgllfkkfoaaDoor
open Go.RowKit Go.Proofs.Dm

theorem index_close (r : Bs) : Lib.index r [42, 47] = (match closeAt r with | none => -1 | some n => (n : Int)) := by
  induction r with
  | nil => rfl
  | cons c r ih =>
    have e : ([42, 47] : Bs).isPrefixOf (c :: r) = (c == 42 && r.take 1 == [47]) := by
      cases r with
      | nil => simp [List.isPrefixOf]
      | cons d r =>
        rw [Bool.eq_iff_iff]
        simp [List.isPrefixOf]
        constructor <;> rintro ⟨h1, h2⟩ <;> exact ⟨h1.symm, h2.symm⟩
    simp only [Lib.index, closeAt, e]
    split
    · rfl
    · rw [ih]
      cases closeAt r with
      | none => rfl
      | some n =>
        simp only [Option.map_some]
        rw [if_neg (by simp)]
        rfl
theorem index_line (r : Bs) : Lib.indexByte r 10 = if 10 ∈ r then (lineLen r : Int) else -1 := by
  induction r with
  | nil => rfl
  | cons c r ih =>
    simp only [Lib.indexByte]
    by_cases hc : c = 10
    · subst hc
      rw [if_pos (by simp), if_pos (by simp)]; rfl
    · rw [if_neg (by simpa using hc), ih]
      have e : lineLen (c :: r) = lineLen r + 1 := by unfold lineLen; rw [List.takeWhile_cons, if_pos (by simpa using hc)]; rfl
      rw [e]
      have hm : (10 ∈ c :: r) ↔ 10 ∈ r := by simp [Ne.symm hc]
      by_cases h : 10 ∈ r
      · rw [if_pos h, if_neg (by simp), if_pos (hm.2 h)]; omega
      · rw [if_neg h, if_pos (by rfl), if_neg (fun hh => h (hm.1 hh))]
theorem lineLen_all (r : Bs) (h : 10 ∉ r) : lineLen r = r.length := by
  induction r with
  | nil => rfl
  | cons c r ih =>
    have hc : c ≠ 10 := fun e => h (by simp [e])
    unfold lineLen; rw [List.takeWhile_cons, if_pos (by simpa using hc)]
    show (r.takeWhile _).length + 1 = _
    have := ih (fun hm => h (by simp [hm]))
    unfold lineLen at this
    rw [this]; rfl
theorem nl_in (r : Bs) : decide (0 ≤ Lib.indexByte r 10) = decide (10 ∈ r) := by
  rw [index_line]
  by_cases h : 10 ∈ r
  · rw [if_pos h]; simp [h]
  · rw [if_neg h]; simp [h]
theorem line_take (r : Bs) : 10 ∉ r.take (lineLen r) := by
  induction r with
  | nil => simp
  | cons c r ih =>
    unfold lineLen
    rw [List.takeWhile_cons]
    by_cases hc : c = 10
    · subst hc; simp
    · rw [if_pos (by simpa using hc)]
      show 10 ∉ (c :: r).take ((r.takeWhile _).length + 1)
      rw [List.take_succ_cons]
      simp only [List.mem_cons, not_or]
      exact ⟨fun e => hc e.symm, ih⟩

/-- What an append of one note leaves of a scanner's rows. -/
theorem Sc.put3 {base : Nat} {w w1 : World} {B : Nat} {s : ByteArray} {p : Nat} {l ns : List Tk} {A A' : Option Addr} {c c' : Nat} {t : Tk} {g cap : Nat}
    (h1 : w.heap[B]? = some (.cells #[.string s, .int .i64 (p : Int), .slice A l.length c, .slice A' ns.length c'] 51 (0, 0)))
    (h2 : w.ownsRow base 29 3 (.slice A l.length c) l.length (toks l)) (h3 : w.ownsRow base 29 3 (.slice A' ns.length c') ns.length (toks ns))
    (h4 : (Value.slice A l.length c).ownBlock = none ∨ (Value.slice A l.length c).ownBlock ≠ (Value.slice A' ns.length c').ownBlock) (hB : base ≤ B) (hbase : base ≤ w.heap.size) (hok : ∀ t ∈ l, TkOk t)
    (hown : w1.ownsRow base 29 3 (.slice (some ⟨g, 0, none⟩) (ns.length + 1) cap) (ns.length + 1) (toks ns ++ tokCells t)) (hgrow : w.grownBy w1 (Value.slice A' ns.length c').ownBlock)
    (hat : (Value.slice A' ns.length c').ownBlock = some g ∨ w.heap.size ≤ g) (_hlt : g < w1.heap.size) :
    Sc base (w1.setCell ⟨B, 3, none⟩ (.slice (some ⟨g, 0, none⟩) (ns.length + 1) cap)) B s p l (ns ++ [t]) ∧ Below base w (w1.setCell ⟨B, 3, none⟩ (.slice (some ⟨g, 0, none⟩) (ns.length + 1) cap)) := by
  have hBl := block_lt h1
  have hb1 : w1.heap[B]? = some (.cells #[.string s, .int .i64 (p : Int), .slice A l.length c, .slice A' ns.length c'] 51 (0, 0)) :=
    (hgrow.block B hBl (fun e => row_far h3 h1 (by decide) e.symm)).trans h1
  have h2' := h2.kept hgrow h4
  refine ⟨⟨⟨A, some ⟨g, 0, none⟩, c, cap, ?_, own_far' h2' (row_far h2' hb1 (by decide)) _, ?_, ?_⟩, hB, hok⟩, ?_⟩
  · have := set_at hb1 3 (.slice (some ⟨g, 0, none⟩) (ns.length + 1) cap)
    simpa using this
  · rw [toks_snoc, List.length_append, List.length_singleton]
    exact own_far' hown (row_far hown hb1 (by decide)) _
  · rcases h4 with h4 | h4
    · exact .inl h4
    right
    intro e
    rw [List.length_append, List.length_singleton] at e
    have e' : (Value.slice A l.length c).ownBlock = some g := by rw [e]; rfl
    have hlt' := (own_lt' h2 g e').1
    rcases hat with hat | hat
    · exact h4 (e'.trans hat.symm)
    · omega
  · exact ((Below.refl base w).grown hgrow hbase (fun k hk => (own_lt' h3 k hk).2)).setCell hB _

/-- How 'note' ends. -/
def NoteEnd (L : Bs) (p base : Nat) (w : World) (B : Nat) (s : ByteArray) (l ns : List Tk) (e : Ending) (w' : World) : Prop :=
  match noteLen L with
  | none => e = .returned (.bool false) ∧ Sc base w' B s p l ns ∧ Below base w w'
  | some none => e = .panicked (wrongAt p) ∧ Below base w w'
  | some (some n) => e = .returned (.bool true) ∧ Sc base w' B s (p + n) (if 10 ∈ L.take n then line l p else l) (ns ++ [⟨0, L.take n, p⟩]) ∧ Below base w w'
theorem NoteEnd.none {L : Bs} {p base : Nat} {w : World} {B : Nat} {s : ByteArray} {l ns : List Tk} {w' : World} (h : noteLen L = none) (hs : Sc base w' B s p l ns) (hb : Below base w w') : NoteEnd L p base w B s l ns (.returned (.bool false)) w' := by
  unfold NoteEnd; rw [h]; exact ⟨rfl, hs, hb⟩
theorem NoteEnd.bad {L : Bs} {p base : Nat} {w : World} {B : Nat} {s : ByteArray} {l ns : List Tk} {w' : World} (h : noteLen L = some .none) (hb : Below base w w') : NoteEnd L p base w B s l ns (.panicked (wrongAt p)) w' := by
  unfold NoteEnd; rw [h]; exact ⟨rfl, hb⟩
theorem NoteEnd.good {L : Bs} {p base n : Nat} {w : World} {B : Nat} {s : ByteArray} {l ns : List Tk} {w' : World} (h : noteLen L = some (some n)) (hs : Sc base w' B s (p + n) (if 10 ∈ L.take n then line l p else l) (ns ++ [⟨0, L.take n, p⟩])) (hb : Below base w w') : NoteEnd L p base w B s l ns (.returned (.bool true)) w' := by
  unfold NoteEnd; rw [h]; exact ⟨rfl, hs, hb⟩

theorem note_line (r : Bs) : noteLen (47 :: 47 :: r) = some (some (lineLen (47 :: 47 :: r))) := by
  show some (some (lineLen r + 2)) = _
  unfold lineLen
  rw [List.takeWhile_cons, if_pos (by decide), List.takeWhile_cons, if_pos (by decide)]; rfl
theorem prefix2 (a b : UInt8) (L : Bs) (h : Lib.hasPrefix L [a, b] = true) : ∃ r, L = a :: b :: r := by
  unfold Lib.hasPrefix at h
  obtain ⟨t, ht⟩ := List.isPrefixOf_iff_prefix.1 h
  exact ⟨t, ht.symm⟩
theorem note_none (L : Bs) (h1 : Lib.hasPrefix L [47, 47] = false) (h2 : Lib.hasPrefix L [47, 42] = false) : noteLen L = none := by
  unfold noteLen
  split
  · exact absurd h1 (by simp [Lib.hasPrefix, List.isPrefixOf])
  · exact absurd h2 (by simp [Lib.hasPrefix, List.isPrefixOf])
  · rfl
theorem note_cells (T : ByteArray) (L : Bs) (n p : Nat) (h : T.data.toList = L) :
    [Value.int .i64 0, .string (T.extract 0 n), .int .i64 (p : Int)] = tokCells ⟨0, L.take n, p⟩ := by
  rw [extract_bs, h]; rfl

theorem note_cells' (T : ByteArray) (L : Bs) (p : Nat) (h : T.data.toList = L) :
    [Value.int .i64 0, .string T, .int .i64 (p : Int)] = tokCells ⟨0, L.take T.size, p⟩ := by
  subst h
  rw [size_data T, List.take_length]
  show _ = [Value.int .i64 0, .string (bs T.data.toList), .int .i64 (p : Int)]
  rw [bs_of]

set_option maxRecDepth 100000 in
set_option maxHeartbeats 12800000 in
theorem note_any (base : Nat) (w : World) (B : Nat) (s : ByteArray) (p : Nat) (l ns : List Tk)
    (h : Sc base w B s p l ns) (hM : MaxLenOk w) (h3 : 3 ≤ base) (hp : p ≤ s.size) (hs : s.size ≤ 65536) (hl : l.length ≤ 200000) (hn : ns.length ≤ 200000) (hbase : base ≤ w.heap.size) :
    Calls Tryd.prog 72 #[.pointer (some ⟨B, 0, none⟩)] w (NoteEnd (s.data.toList.drop p) p base w B s l ns) := by
  have H0 := hide h
  have HM := hide hM; clear hM
  obtain ⟨A, A', c, c', h1, h2, hh3, h4⟩ := h.ex
  have c0 : w.cell? ⟨B, 0, none⟩ = some (.string s) := cells_at h1 0
  have c1 : w.cell? ⟨B, 1, none⟩ = some (.int .i64 (p : Int)) := cells_at h1 1
  have f1 : w.frozen? ⟨B, 1, none⟩ = false := frozen_at h1 1
  clear h h1 h2 hh3 h4
  have a0 : (0 : Int) ≤ (p : Int) := by omega
  have a1 : (p : Int) ≤ (s.size : Int) := by omega
  have a3 : (s.size : Int) ≤ 65536 := by omega
  have a4 : (p : Int) ≤ 65536 := by omega
  obtain ⟨T, hT⟩ : ∃ T, s.extract p s.size = T := ⟨_, rfl⟩
  obtain ⟨L, hL⟩ : ∃ L, s.data.toList.drop p = L := ⟨_, rfl⟩
  have hTd : T.data.toList = L := by rw [← hT, ← hL]; exact Lib.extract_to_end s p
  have hTs : T.size + p = s.size := by rw [size_data T, hTd, ← hL, List.length_drop, ← size_data]; omega
  have hLn : L.length = T.size := by rw [size_data T, hTd]
  rw [hL]
  have HTD := hide hTd; clear hTd
  have HTS := hide hTs
  have HLN := hide hLn; clear hLn
  have t0 : (T.size : Int) ≤ 65536 := by omega
  have t1 : (T.size : Int) + (p : Int) ≤ 65536 := by omega
  clear hTs hL
  obtain ⟨i0, hi0, hz0, hz1, hz2⟩ := info_parts tokInfo
  go_enter Tryd.func72, Tryd.ntmps72
  go_wp2_with fail
  go_still_tail 9, (by kernel_rfl)
  rw [drew_lit]
  have HB : Hid (Below base w w.drew) := hide ((Below.refl base w).drew)
  have HS : Hid (Sc base w.drew B s p l ns) := hide H0.out.drew
  have HMW : Hid (MaxLenOk w.drew) := hide (HM.out.below HB.out h3)
  have hbW : base ≤ w.drew.heap.size := hbase
  have d1 : w.drew.cell? ⟨B, 1, none⟩ = some (.int .i64 (p : Int)) := c1
  have g1 : w.drew.frozen? ⟨B, 1, none⟩ = false := f1
  obtain ⟨W, hW⟩ : ∃ W, w.drew = W := ⟨_, rfl⟩
  rw [hW] at HB HS HMW hbW d1 g1 ⊢
  clear c0 c1 f1 H0 HM hW hT
  cases hp1 : Lib.hasPrefix L [47, 47] with
  | true =>
    obtain ⟨r, hr⟩ := prefix2 _ _ _ hp1
    have HR := hide hr; clear hr
    have hk1 := Tryd.strings_HasPrefix T ⟨#[47, 47]⟩ W
    rw [HTD.out, show (⟨#[47, 47]⟩ : ByteArray).data.toList = [47, 47] from rfl, hp1] at hk1
    have K1 := hide hk1; clear hk1 hp1
    have hk2 := Tryd.strings_IndexByte T 10 W
    rw [HTD.out, show ((10 : Int).toNat.toUInt8) = 10 from rfl, index_line] at hk2
    obtain ⟨n, hn0⟩ : ∃ n, lineLen L = n := ⟨_, rfl⟩
    have hle : n ≤ T.size := by rw [← hn0, ← HLN.out]; exact lineLen_le L
    have n0 : (0 : Int) ≤ (n : Int) := by omega
    have n1 : (n : Int) ≤ (T.size : Int) := by omega
    have n2 : (p : Int) + (n : Int) ≤ 65536 := by omega
    have hnl : Hid (noteLen L = some (some n)) := hide (by rw [HR.out, note_line, ← HR.out, hn0])
    have hnm : Hid (10 ∉ L.take n) := hide (by rw [← hn0]; exact line_take L)
    rw [hn0] at hk2
    have hm := HS.out.move (p + n)
    rw [show ((p + n : Nat) : Int) = (p : Int) + (n : Int) from by omega] at hm
    have HMV := hide hm; clear hm
    have z1 : ∀ v, (W.setCell ⟨B, 1, none⟩ v).cell? ⟨B, 1, none⟩ = some v := fun v => set_same d1 v
    obtain ⟨W2, hW2⟩ : ∃ W2, W.setCell ⟨B, 1, none⟩ (.int .i64 ((p : Int) + (n : Int))) = W2 := ⟨_, rfl⟩
    rw [hW2] at HMV
    have hb2 : base ≤ W2.heap.size := by rw [← hW2]; simp [World.setCell]; exact hbW
    obtain ⟨A, A', c, c', h1, h2, hh3, h4⟩ := HMV.out.1.ex
    have y3 : W2.cell? ⟨B, 3, none⟩ = some (.slice A' ns.length c') := cells_at h1 3
    have yf : W2.frozen? ⟨B, 3, none⟩ = false := frozen_at h1 3
    have hBl := block_lt h1
    have hfar := row_far hh3 h1 (by decide)
    have H1 := hide h1; clear h1
    have H2 := hide h2; clear h2
    have H3 := hide hh3; clear hh3
    have H4 := hide h4; clear h4
    by_cases hmm : 10 ∈ L
    · rw [if_pos hmm] at hk2
      have K2 := hide hk2; clear hk2 hmm hn0
      go_wp2_with (first | (go_at_call 71; refine K1.out.mono ?_; rintro e w' ⟨rfl, hw⟩; rw [hw]; clear hw) | (go_at_call 53; refine K2.out.mono ?_; rintro e w' ⟨rfl, hw⟩; rw [hw]; clear hw))
      go_region_law
        ((refine step_append_lies _ (by rfl) _ _ _ (by rfl) base 29 i0 _ 3 32 Tryd.underlying23 hi0 hz0 hz1 hz2 rfl (by omega) (.slice A' ns.length c') ns.length (toks ns) (by rfl) ((H3.out.alloc _).drew)
            ⟨W2.heap.size, 0, none⟩ 1 1 [.int .i64 0, .string (T.extract 0 n), .int .i64 p] (by rfl) (by rfl) (World.news_of_block (cs := #[.int .i64 0, .string (T.extract 0 n), .int .i64 p]) (t := 29) (fr := (0, 0)) (heap_alloc_new W2 _)) (by simp [Value.oneCell'])
            (by omega) (by simp only [maxLen]; omega) (by omega) (by simp; omega) (W2.heap.size + 1) (by simp) ?_; intro gg cap w1 hown1 hgrow hat hlt; have hg1 := grow_of hgrow; have e1 := (hg1.block B hBl (Ne.symm hfar)).trans H1.out; have z2 : w1.cell? ⟨B, 3, none⟩ = some (.slice A' ns.length c') := cells_at e1 3; have zf := frozen_at e1 3; have E1 := hide e1; clear e1))
      all_goals
        go_wp2
        refine bodyPost_ret (v := .bool true) (by simp [results, Tryd.results72, go_sem]) rfl ?_
        rw [note_cells T L n p HTD.out] at hown1
        have hq := Sc.put3 H1.out H2.out H3.out H4.out HMV.out.1.base_le hb2 HMV.out.1.ok hown1 hg1 (hat.imp id (fun e => by omega)) hlt
        exact NoteEnd.good hnl.out (by rw [if_neg hnm.out]; exact hq.1) (HB.out.trans (HMV.out.2.trans hq.2))
    · rw [if_neg hmm] at hk2
      obtain rfl : T.size = n := by rw [← hn0, lineLen_all L hmm, HLN.out]
      have K2 := hide hk2; clear hk2 hmm hn0
      go_wp2_with (first | (go_at_call 71; refine K1.out.mono ?_; rintro e w' ⟨rfl, hw⟩; rw [hw]; clear hw) | (go_at_call 53; refine K2.out.mono ?_; rintro e w' ⟨rfl, hw⟩; rw [hw]; clear hw))
      go_region_law
        ((refine step_append_lies _ (by rfl) _ _ _ (by rfl) base 29 i0 _ 3 32 Tryd.underlying23 hi0 hz0 hz1 hz2 rfl (by omega) (.slice A' ns.length c') ns.length (toks ns) (by rfl) ((H3.out.alloc _).drew)
            ⟨W2.heap.size, 0, none⟩ 1 1 [.int .i64 0, .string T, .int .i64 p] (by rfl) (by rfl) (World.news_of_block (cs := #[.int .i64 0, .string T, .int .i64 p]) (t := 29) (fr := (0, 0)) (heap_alloc_new W2 _)) (by simp [Value.oneCell'])
            (by omega) (by simp only [maxLen]; omega) (by omega) (by simp; omega) (W2.heap.size + 1) (by simp) ?_; intro gg cap w1 hown1 hgrow hat hlt; have hg1 := grow_of hgrow; have e1 := (hg1.block B hBl (Ne.symm hfar)).trans H1.out; have z2 : w1.cell? ⟨B, 3, none⟩ = some (.slice A' ns.length c') := cells_at e1 3; have zf := frozen_at e1 3; have E1 := hide e1; clear e1))
      all_goals
        go_wp2
        refine bodyPost_ret (v := .bool true) (by simp [results, Tryd.results72, go_sem]) rfl ?_
        rw [note_cells' T L p HTD.out] at hown1
        have hq := Sc.put3 H1.out H2.out H3.out H4.out HMV.out.1.base_le hb2 HMV.out.1.ok hown1 hg1 (hat.imp id (fun e => by omega)) hlt
        exact NoteEnd.good hnl.out (by rw [if_neg hnm.out]; exact hq.1) (HB.out.trans (HMV.out.2.trans hq.2))
  | false =>
    have hk1 := Tryd.strings_HasPrefix T ⟨#[47, 47]⟩ W
    rw [HTD.out, show (⟨#[47, 47]⟩ : ByteArray).data.toList = [47, 47] from rfl, hp1] at hk1
    have K1 := hide hk1; clear hk1
    cases hp2 : Lib.hasPrefix L [47, 42] with
    | false =>
      have hk2 := Tryd.strings_HasPrefix T ⟨#[47, 42]⟩ W
      rw [HTD.out, show (⟨#[47, 42]⟩ : ByteArray).data.toList = [47, 42] from rfl, hp2] at hk2
      have K2 := hide hk2; clear hk2
      have hno := hide (note_none L hp1 hp2); clear hp1 hp2
      go_wp2_with (first | (go_at_call 71; first | (refine K1.out.mono ?_; rintro e w' ⟨rfl, hw⟩; rw [hw]; clear hw) | (refine K2.out.mono ?_; rintro e w' ⟨rfl, hw⟩; rw [hw]; clear hw)))
      refine bodyPost_ret (v := .bool false) (by simp [results, Tryd.results72, go_sem]) rfl ?_
      exact NoteEnd.none hno.out HS.out HB.out
    | true =>
      obtain ⟨r, hr⟩ := prefix2 _ _ _ hp2
      have hk2 := Tryd.strings_HasPrefix T ⟨#[47, 42]⟩ W
      rw [HTD.out, show (⟨#[47, 42]⟩ : ByteArray).data.toList = [47, 42] from rfl, hp2] at hk2
      have K2 := hide hk2; clear hk2 hp1 hp2
      obtain ⟨U, hU⟩ : ∃ U, T.extract 2 T.size = U := ⟨_, rfl⟩
      have hUd : U.data.toList = r := by rw [← hU]; exact (Lib.extract_to_end T 2).trans (by rw [HTD.out, hr]; rfl)
      have hTr : T.size = r.length + 2 := by rw [← HLN.out, hr]; rfl
      have hUs : U.size = r.length := by rw [size_data U, hUd]
      have u2 : (2 : Int) ≤ (T.size : Int) := by omega
      obtain ⟨mx, hmx⟩ := HMW.out
      have hk3 := Tryd.strings_Index U ⟨#[42, 47]⟩ mx W (by omega) hmx
      rw [hUd, show (⟨#[42, 47]⟩ : ByteArray).data.toList = [42, 47] from rfl, index_close] at hk3
      have hnl : noteLen L = some ((closeAt r).map (· + 4)) := by rw [hr]; rfl
      have HMX := hide hmx; clear hmx
      have HR := hide hr; clear hr
      have HUD := hide hUd; clear hUd
      have HTR := hide hTr; clear hTr hUs
      cases hc : closeAt r with
      | none =>
        rw [hc] at hk3 hnl
        have K3 := hide hk3; clear hk3
        have HNL := hide hnl; clear hnl hc
        go_wp2_with (first | (go_at_call 71; first | (refine K1.out.mono ?_; rintro e w' ⟨rfl, hw⟩; rw [hw]; clear hw) | (refine K2.out.mono ?_; rintro e w' ⟨rfl, hw⟩; rw [hw]; clear hw)) | (go_at_call 88; refine K3.out.mono ?_; rintro e w' ⟨rfl, hw⟩; rw [hw]; clear hw))
        refine (need_false _ _ _).mono ?_
        rintro e w' ⟨rfl, rfl⟩
        exact ⟨rfl, NoteEnd.bad HNL.out HB.out⟩
      | some m =>
        rw [hc] at hk3 hnl
        simp only [Option.map_some] at hk3 hnl
        have hm4 := closeAt_le r m hc
        clear hc
        have K3 := hide hk3; clear hk3
        have HNL := hide hnl; clear hnl
        have hmT : m + 4 ≤ T.size := by rw [HTR.out]; omega
        have m0 : (0 : Int) ≤ (m : Int) := by omega
        have m1 : (m : Int) + 4 ≤ (T.size : Int) := by omega
        have m2 : (m : Int) + 4 ≤ 65536 := by omega
        have m3 : ((m : Int) + 4).toNat = m + 4 := by omega
        have m5 : (0 : Int) ≤ (m : Int) + 4 := by omega
        have m6 : (p : Int) + ((m : Int) + 4) ≤ 65536 := by omega
        clear hm4
        have hk4 := Tryd.strings_Contains_one (T.extract 0 (m + 4)) 10 W
        rw [nl_in, Lib.extract_data, HTD.out, List.drop_zero, Nat.sub_zero] at hk4
        by_cases hmm : 10 ∈ L.take (m + 4)
        · rw [show decide (10 ∈ L.take (m + 4)) = true from by simpa using hmm] at hk4
          have K4 := hide hk4; clear hk4
          have HMM := hide hmm; clear hmm
          go_wp2_with (first | (go_at_call 71; first | (refine K1.out.mono ?_; rintro e w' ⟨rfl, hw⟩; rw [hw]; clear hw) | (refine K2.out.mono ?_; rintro e w' ⟨rfl, hw⟩; rw [hw]; clear hw)) | (go_at_call 88; refine K3.out.mono ?_; rintro e w' ⟨rfl, hw⟩; rw [hw]; clear hw) | (go_at_call 91; refine (need_true _ _ _).mono ?_; rintro e w' ⟨rfl, hw⟩; rw [← hw]; clear hw) | (go_at_call 92; refine K4.out.mono ?_; rintro e w' ⟨rfl, hw⟩; rw [hw]; clear hw))
          refine (line_any base W B s p p l ns HS.out HMW.out hl hbW).mono ?_
          rintro e w' ⟨rfl, hs1, hb1⟩
          have HS1 := hide hs1; clear hs1
          have HB1 := hide hb1; clear hb1
          have hbW' : base ≤ w'.heap.size := Nat.le_trans hbW HB1.out.size
          obtain ⟨A, A', c, c', h1, h2, hh3, h4⟩ := HS1.out.ex
          have e1 : w'.cell? ⟨B, 1, none⟩ = some (.int .i64 (p : Int)) := cells_at h1 1
          have ef1 : w'.frozen? ⟨B, 1, none⟩ = false := frozen_at h1 1
          clear h1 h2 hh3 h4
          clear A A' c c'
          have hm := HS1.out.move (p + (m + 4))
          rw [show ((p + (m + 4) : Nat) : Int) = (p : Int) + ((m : Int) + 4) from by omega] at hm
          have HMV := hide hm; clear hm
          have z1 : ∀ v, (w'.setCell ⟨B, 1, none⟩ v).cell? ⟨B, 1, none⟩ = some v := fun v => set_same e1 v
          obtain ⟨W2, hW2⟩ : ∃ W2, w'.setCell ⟨B, 1, none⟩ (.int .i64 ((p : Int) + ((m : Int) + 4))) = W2 := ⟨_, rfl⟩
          rw [hW2] at HMV
          have hb2 : base ≤ W2.heap.size := by rw [← hW2]; simp [World.setCell]; exact hbW'
          obtain ⟨A, A', c, c', h1, h2, hh3, h4⟩ := HMV.out.1.ex
          have y3 : W2.cell? ⟨B, 3, none⟩ = some (.slice A' ns.length c') := cells_at h1 3
          have yf : W2.frozen? ⟨B, 3, none⟩ = false := frozen_at h1 3
          have hBl := block_lt h1
          have hfar := row_far hh3 h1 (by decide)
          have H1 := hide h1; clear h1
          have H2 := hide h2; clear h2
          have H3 := hide hh3; clear hh3
          have H4 := hide h4; clear h4
          clear d1 g1
          go_wp2_with fail
          go_region_law
            ((refine step_append_lies _ (by rfl) _ _ _ (by rfl) base 29 i0 _ 3 32 Tryd.underlying23 hi0 hz0 hz1 hz2 rfl (by omega) (.slice A' ns.length c') ns.length (toks ns) (by rfl) ((H3.out.alloc _).drew)
                ⟨W2.heap.size, 0, none⟩ 1 1 [.int .i64 0, .string (T.extract 0 (m + 4)), .int .i64 p] (by rfl) (by rfl) (World.news_of_block (cs := #[.int .i64 0, .string (T.extract 0 (m + 4)), .int .i64 p]) (t := 29) (fr := (0, 0)) (heap_alloc_new W2 _)) (by simp [Value.oneCell'])
                (by omega) (by simp only [maxLen]; omega) (by omega) (by simp; omega) (W2.heap.size + 1) (by simp) ?_; intro gg cap w1 hown1 hgrow hat hlt; have hg1 := grow_of hgrow; have e1 := (hg1.block B hBl (Ne.symm hfar)).trans H1.out; have z2 : w1.cell? ⟨B, 3, none⟩ = some (.slice A' ns.length c') := cells_at e1 3; have zf := frozen_at e1 3; have E1 := hide e1; clear e1))
          all_goals
            go_wp2
            refine bodyPost_ret (v := .bool true) (by simp [results, Tryd.results72, go_sem]) rfl ?_
            rw [note_cells T L (m + 4) p HTD.out] at hown1
            have hq := Sc.put3 H1.out H2.out H3.out H4.out HMV.out.1.base_le hb2 HMV.out.1.ok hown1 hg1 (hat.imp id (fun e => by omega)) hlt
            exact NoteEnd.good HNL.out (by rw [if_pos HMM.out]; exact hq.1) ((HB.out.trans HB1.out).trans (HMV.out.2.trans hq.2))
        · rw [show decide (10 ∈ L.take (m + 4)) = false from by simpa using hmm] at hk4
          have K4 := hide hk4; clear hk4
          have HMM := hide hmm; clear hmm
          have hm := HS.out.move (p + (m + 4))
          rw [show ((p + (m + 4) : Nat) : Int) = (p : Int) + ((m : Int) + 4) from by omega] at hm
          have HMV := hide hm; clear hm
          have z1 : ∀ v, (W.setCell ⟨B, 1, none⟩ v).cell? ⟨B, 1, none⟩ = some v := fun v => set_same d1 v
          obtain ⟨W2, hW2⟩ : ∃ W2, W.setCell ⟨B, 1, none⟩ (.int .i64 ((p : Int) + ((m : Int) + 4))) = W2 := ⟨_, rfl⟩
          rw [hW2] at HMV
          have hb2 : base ≤ W2.heap.size := by rw [← hW2]; simp [World.setCell]; exact hbW
          obtain ⟨A, A', c, c', h1, h2, hh3, h4⟩ := HMV.out.1.ex
          have y3 : W2.cell? ⟨B, 3, none⟩ = some (.slice A' ns.length c') := cells_at h1 3
          have yf : W2.frozen? ⟨B, 3, none⟩ = false := frozen_at h1 3
          have hBl := block_lt h1
          have hfar := row_far hh3 h1 (by decide)
          have H1 := hide h1; clear h1
          have H2 := hide h2; clear h2
          have H3 := hide hh3; clear hh3
          have H4 := hide h4; clear h4
          go_wp2_with (first | (go_at_call 71; first | (refine K1.out.mono ?_; rintro e w' ⟨rfl, hw⟩; rw [hw]; clear hw) | (refine K2.out.mono ?_; rintro e w' ⟨rfl, hw⟩; rw [hw]; clear hw)) | (go_at_call 88; refine K3.out.mono ?_; rintro e w' ⟨rfl, hw⟩; rw [hw]; clear hw) | (go_at_call 91; refine (need_true _ _ _).mono ?_; rintro e w' ⟨rfl, hw⟩; rw [← hw]; clear hw) | (go_at_call 92; refine K4.out.mono ?_; rintro e w' ⟨rfl, hw⟩; rw [hw]; clear hw))
          go_region_law
            ((refine step_append_lies _ (by rfl) _ _ _ (by rfl) base 29 i0 _ 3 32 Tryd.underlying23 hi0 hz0 hz1 hz2 rfl (by omega) (.slice A' ns.length c') ns.length (toks ns) (by rfl) ((H3.out.alloc _).drew)
                ⟨W2.heap.size, 0, none⟩ 1 1 [.int .i64 0, .string (T.extract 0 (m + 4)), .int .i64 p] (by rfl) (by rfl) (World.news_of_block (cs := #[.int .i64 0, .string (T.extract 0 (m + 4)), .int .i64 p]) (t := 29) (fr := (0, 0)) (heap_alloc_new W2 _)) (by simp [Value.oneCell'])
                (by omega) (by simp only [maxLen]; omega) (by omega) (by simp; omega) (W2.heap.size + 1) (by simp) ?_; intro gg cap w1 hown1 hgrow hat hlt; have hg1 := grow_of hgrow; have e1 := (hg1.block B hBl (Ne.symm hfar)).trans H1.out; have z2 : w1.cell? ⟨B, 3, none⟩ = some (.slice A' ns.length c') := cells_at e1 3; have zf := frozen_at e1 3; have E1 := hide e1; clear e1))
          all_goals
            go_wp2
            refine bodyPost_ret (v := .bool true) (by simp [results, Tryd.results72, go_sem]) rfl ?_
            rw [note_cells T L (m + 4) p HTD.out] at hown1
            have hq := Sc.put3 H1.out H2.out H3.out H4.out HMV.out.1.base_le hb2 HMV.out.1.ok hown1 hg1 (hat.imp id (fun e => by omega)) hlt
            exact NoteEnd.good HNL.out (by rw [if_neg HMM.out]; exact hq.1) (HB.out.trans (HMV.out.2.trans hq.2))
end Go.Proofs.YtehflgllfkkfoaaDoor
