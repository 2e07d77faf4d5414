/- The scanner's 'next'. -/
import Derived.Test.YtehflgllfkkfoaaDoorTj
set_option linter.unusedVariables false
namespace Go.Proofs.YtehflgllfkkfoaaDoor
open Go.RowKit Go.Proofs.Dm

/-- Where a scan is behind what begins a text. -/
def stepL (L : Bs) (p : Nat) (l ns : List Tk) : Option (Nat × List Tk × List Tk) :=
  match piece (p == 0) L with
  | .bad => none
  | .nl => some (p + 1, line l p, ns)
  | .blank n => some (p + n, l, ns)
  | .note n => some (p + n, (if 10 ∈ L.take n then line l p else l), ns ++ [⟨0, L.take n, p⟩])
  | .tok k n => some (p + n, l ++ [⟨k, L.take n, p⟩], ns)
/-- How 'next' ends. -/
def NextEnd (r : Option (Nat × List Tk × List Tk)) (p base : Nat) (w : World) (B : Nat) (s : ByteArray) (e : Ending) (w' : World) : Prop :=
  match r with
  | none => e = .panicked (wrongAt p) ∧ Below base w w'
  | some (q, l, ns) => e = .returned (.tuple #[]) ∧ Sc base w' B s q l ns ∧ Below base w w'
theorem NextEnd.bad {r : Option (Nat × List Tk × List Tk)} {p base : Nat} {w : World} {B : Nat} {s : ByteArray} {w' : World} (hr : r = none) (hb : Below base w w') : NextEnd r p base w B s (.panicked (wrongAt p)) w' := by
  subst hr; exact ⟨rfl, hb⟩
theorem NextEnd.good {r : Option (Nat × List Tk × List Tk)} {p base q : Nat} {l ns : List Tk} {w : World} {B : Nat} {s : ByteArray} {w' : World} (hr : r = some (q, l, ns)) (hs : Sc base w' B s q l ns) (hb : Below base w w') : NextEnd r p base w B s (.returned (.tuple #[])) w' := by
  subst hr; exact ⟨rfl, hs, hb⟩
theorem letR_low : ∀ c : Fin 256, letR ((c.val : Nat) : Int) = letter (UInt8.ofNat c.val) := by decide +kernel
theorem figR_low : ∀ c : Fin 256, figR ((c.val : Nat) : Int) = figure (UInt8.ofNat c.val) := by decide +kernel
theorem letR_byte (d : UInt8) : letR (d.toNat : Int) = letter d := by
  have := letR_low ⟨d.toNat, d.toNat_lt⟩
  simpa using this
theorem figR_byte (d : UInt8) : figR (d.toNat : Int) = figure d := by
  have := figR_low ⟨d.toNat, d.toNat_lt⟩
  simpa using this
/-- No mark of order begins there. -/
def NoMark (p : Nat) (s : ByteArray) : Prop := ((p : Int) == 0) = false ∨ Lib.hasPrefix s.data.toList [239, 187, 191] = false
theorem noMark_piece {p : Nat} {s : ByteArray} {d : UInt8} {r : Bs} (h : NoMark p s) (hdr : s.data.toList.drop p = d :: r) : ((p == 0) && (d :: r).take 3 == [239, 187, 191]) = false := by
  rcases h with h | h
  · have : (p == 0) = false := by rw [beq_eq_false_iff_ne] at h ⊢; omega
    rw [this]; rfl
  · rw [Bool.and_eq_false_iff]
    by_cases hp : p = 0
    · right
      subst hp
      rw [List.drop_zero] at hdr
      rw [hdr] at h
      rw [beq_eq_false_iff_ne]
      intro e
      have h2 : Lib.hasPrefix (d :: r) [239, 187, 191] = true := by
        unfold Lib.hasPrefix
        rw [List.isPrefixOf_iff_prefix]
        exact ⟨(d :: r).drop 3, by rw [← e]; exact List.take_append_drop 3 _⟩
      rw [h] at h2; cases h2
    · left; simpa using hp
theorem byte_at {s : ByteArray} {p : Nat} {d : UInt8} {r : Bs} (hp : p < s.size) (hdr : s.data.toList.drop p = d :: r) : ((s[p]'hp).toNat : Int) = (d.toNat : Int) := by
  have e := List.drop_eq_getElem_cons (l := s.data.toList) (i := p) (by rw [← size_data]; exact hp)
  rw [hdr] at e
  injection e with e _
  have e2 : s.data.toList[p]'(by rw [← size_data]; exact hp) = s[p]'hp := rfl
  rw [← e2, ← e]
theorem byte_int {d : UInt8} (x : Nat) (y : UInt8) (h : d ≠ y) (hx : y.toNat = x := by rfl) : (((d.toNat : Int)) == (x : Int)) = false := by
  rw [beq_eq_false_iff_ne]
  intro e
  exact h (UInt8.toNat_inj.1 (by omega))
theorem span_cons {d : UInt8} {r : Bs} (h : alnum d = true) : span (d :: r) = span r + 1 := by unfold span; rw [List.takeWhile_cons, if_pos h]; rfl
theorem take_span (L : Bs) : L.take (span L) = L.takeWhile alnum := by
  induction L with
  | nil => rfl
  | cons d r ih =>
    cases h : alnum d with
    | true => rw [span_cons h, List.takeWhile_cons, if_pos h, List.take_succ_cons, ih]
    | false => unfold span; rw [List.takeWhile_cons, if_neg (by simp [h])]; rfl
theorem word_le (s : Bs) : word s = 0 ∨ word s = 1 ∨ word s = 2 := by
  unfold word; split
  · exact .inr (.inl rfl)
  · split
    · exact .inr (.inr rfl)
    · exact .inl rfl
theorem kind_ok (k : Nat) (t : Bs) (q : Nat) (h : k = 0 ∨ k = 1 ∨ k = 2) : TkOk ⟨1 + k, t, q⟩ := by
  rcases h with rfl | rfl | rfl
  · exact .inl rfl
  · exact .inr (.inl rfl)
  · exact .inr (.inr (.inl rfl))
theorem num_ok (t : Bs) (q : Nat) : TkOk ⟨4, t, q⟩ := .inr (.inr (.inr (.inl rfl)))
/-- What stands ahead of the walk of 'next' at a sign that begins no mark, no line and no blank. -/
theorem not_nl {d : UInt8} {r : Bs} {first : Bool} (hm : (first && (d :: r).take 3 == [239, 187, 191]) = false) (h10 : d ≠ 10) (h32 : d ≠ 32) (h9 : d ≠ 9) (h13 : d ≠ 13) :
    piece first (d :: r) = (match noteLen (d :: r) with
      | some (some n) => .note n
      | some none => .bad
      | none =>
        if letter d then .tok (1 + word (d :: r.takeWhile alnum)) (span r + 1)
        else if figure d then .tok 4 (span r + 1)
        else if d == 34 || d == 96 then (match quotedLen d false r with | none => .bad | some n => .tok 5 (n + 1))
        else match signLen (d :: r) with | none => .bad | some n => .tok 6 n) := by
  show (if _ then _ else _) = _
  rw [if_neg (by rw [hm]; decide), if_neg (by simpa using h10), if_neg (by simp [h32, h9, h13])]
  rfl

set_option maxRecDepth 100000 in
set_option maxHeartbeats 12800000 in
theorem next_mark (base : Nat) (w : World) (B : Nat) (s : ByteArray) (p : Nat) (l ns : List Tk) (d : UInt8) (r : Bs) (hdr : s.data.toList.drop p = d :: r)
    (h : Sc base w B s p l ns) (hM : MaxLenOk w) (h3 : 3 ≤ base) (hp : p < s.size) (hs : s.size ≤ 65536) (hl : l.length ≤ 200000) (hn : ns.length ≤ 200000) (hbase : base ≤ w.heap.size) (hz : p = 0) (hpre : Lib.hasPrefix s.data.toList [239, 187, 191] = true) :
    Calls Tryd.prog 59 #[.pointer (some ⟨B, 0, none⟩)] w (NextEnd (stepL (d :: r) p l ns) p base w B s) := by
  have hpc : piece true (d :: r) = .blank 3 := by
    subst hz
    rw [List.drop_zero] at hdr
    rw [hdr] at hpre
    show (if _ then _ else _) = _
    have : (d :: r).take 3 = [239, 187, 191] := by
      unfold Lib.hasPrefix at hpre
      obtain ⟨t, ht⟩ := List.isPrefixOf_iff_prefix.1 hpre
      rw [← ht]; rfl
    rw [if_pos (by rw [this]; rfl)]
  have hst : Hid (stepL (d :: r) p l ns = some (3, l, ns)) := hide (by subst hz; unfold stepL; rw [show ((0 : Nat) == 0) = true from rfl, hpc])
  clear hpc
  have hzp : ((p : Int) == 0) = true := by subst hz; rfl
  clear hz
  have H0 := hide h
  have HM := hide hM; clear hM
  obtain ⟨A, A', c, c', h1, h2, hh3, h4⟩ := h.ex
  have c0 : w.cell? ⟨B, 0, none⟩ = some (.string s) := cells_at h1 0
  have c1 : w.cell? ⟨B, 1, none⟩ = some (.int .i64 (p : Int)) := cells_at h1 1
  have f1 : w.frozen? ⟨B, 1, none⟩ = false := frozen_at h1 1
  have z1 : ∀ v, (w.setCell ⟨B, 1, none⟩ v).cell? ⟨B, 1, none⟩ = some v := fun v => set_same c1 v
  clear h h1 h2 hh3 h4
  have a0 : (0 : Int) ≤ (p : Int) := by omega
  have a1 : (p : Int) < (s.size : Int) := by omega
  have a2 : (p : Int) ≤ (s.size : Int) := by omega
  have a3 : (s.size : Int) ≤ 65536 := by omega
  have a4 : (p : Int) ≤ 65536 := by omega
  have hsp := byte_at hp hdr
  have hd256 := d.toNat_lt
  obtain ⟨dd, hdd⟩ : ∃ dd : Int, (d.toNat : Int) = dd := ⟨_, rfl⟩
  have b0 : (0 : Int) ≤ dd := by omega
  have b1 : dd < 256 := by omega
  rw [hdd] at hsp
  have HP0 := Tryd.strings_HasPrefix s ⟨#[239, 187, 191]⟩ w
  rw [show (⟨#[239, 187, 191]⟩ : ByteArray).data.toList = [239, 187, 191] from rfl] at HP0
  rw [hpre] at HP0
  have HP := hide HP0; clear HP0 hpre
  have hm := H0.out.move 3
  have HMV := hide hm; clear hm
  go_enter Tryd.func59, Tryd.ntmps59
  go_wp2_with (first | (go_at_call 71; refine HP.out.mono ?_; rintro e w' ⟨rfl, hw⟩; rw [hw]; clear hw))
  first | go_end0 | refine bodyPost_ret (results_none rfl _ _ _) rfl ?_
  exact NextEnd.good hst.out HMV.out.1 HMV.out.2

set_option maxRecDepth 100000 in
set_option maxHeartbeats 12800000 in
theorem next_nl (base : Nat) (w : World) (B : Nat) (s : ByteArray) (p : Nat) (l ns : List Tk) (d : UInt8) (r : Bs) (hdr : s.data.toList.drop p = d :: r)
    (h : Sc base w B s p l ns) (hM : MaxLenOk w) (h3 : 3 ≤ base) (hp : p < s.size) (hs : s.size ≤ 65536) (hl : l.length ≤ 200000) (hn : ns.length ≤ 200000) (hbase : base ≤ w.heap.size) (hnm : NoMark p s) (h10 : d = 10) :
    Calls Tryd.prog 59 #[.pointer (some ⟨B, 0, none⟩)] w (NextEnd (stepL (d :: r) p l ns) p base w B s) := by
  have hpc : Hid (stepL (d :: r) p l ns = some (p + 1, line l p, ns)) := hide (by
    have hst := noMark_piece hnm hdr
    subst h10
    have : piece (p == 0) (10 :: r) = .nl := by
      show (if _ then _ else _) = _
      rw [if_neg (by rw [hst]; decide)]; rfl
    unfold stepL; rw [this])
  have H0 := hide h
  have HM := hide hM; clear hM
  obtain ⟨A, A', c, c', h1, h2, hh3, h4⟩ := h.ex
  have c0 : w.cell? ⟨B, 0, none⟩ = some (.string s) := cells_at h1 0
  have c1 : w.cell? ⟨B, 1, none⟩ = some (.int .i64 (p : Int)) := cells_at h1 1
  have f1 : w.frozen? ⟨B, 1, none⟩ = false := frozen_at h1 1
  have z1 : ∀ v, (w.setCell ⟨B, 1, none⟩ v).cell? ⟨B, 1, none⟩ = some v := fun v => set_same c1 v
  clear h h1 h2 hh3 h4
  have a0 : (0 : Int) ≤ (p : Int) := by omega
  have a1 : (p : Int) < (s.size : Int) := by omega
  have a2 : (p : Int) ≤ (s.size : Int) := by omega
  have a3 : (s.size : Int) ≤ 65536 := by omega
  have a4 : (p : Int) ≤ 65536 := by omega
  have hsp := byte_at hp hdr
  have hd256 := d.toNat_lt
  obtain ⟨dd, hdd⟩ : ∃ dd : Int, (d.toNat : Int) = dd := ⟨_, rfl⟩
  have b0 : (0 : Int) ≤ dd := by omega
  have b1 : dd < 256 := by omega
  rw [hdd] at hsp
  have HP0 := Tryd.strings_HasPrefix s ⟨#[239, 187, 191]⟩ w
  rw [show (⟨#[239, 187, 191]⟩ : ByteArray).data.toList = [239, 187, 191] from rfl] at HP0
  obtain rfl : dd = 10 := by rw [← hdd, h10]; rfl
  clear hdd
  have HL := hide (line_any base w B s p p l ns H0.out HM.out hl hbase)
  cases hz : ((p : Int) == 0) with
  | true =>
    have hb : Lib.hasPrefix s.data.toList [239, 187, 191] = false := by
      rcases hnm with h | h
      · rw [hz] at h; cases h
      · exact h
    rw [hb] at HP0
    have HP := hide HP0; clear HP0 hb hnm
    have HZ := hide hz
    go_enter Tryd.func59, Tryd.ntmps59
    go_wp2_with (first | (go_at_call 71; refine HP.out.mono ?_; rintro e w' ⟨rfl, hw⟩; rw [hw]; clear hw))
    refine HL.out.mono ?_
    rintro e w1 ⟨rfl, hs1, hb1⟩
    obtain ⟨A, A', c, c', h1, h2, hh3, h4⟩ := hs1.ex
    have c1 : w1.cell? ⟨B, 1, none⟩ = some (.int .i64 (p : Int)) := cells_at h1 1
    have f1 : w1.frozen? ⟨B, 1, none⟩ = false := frozen_at h1 1
    clear h1 h2 hh3 h4
    have hm := hs1.move (p + 1)
    rw [show ((p + 1 : Nat) : Int) = (p : Int) + 1 from by omega] at hm
    have HMV := hide hm; clear hm hs1
    have HB1 := hide hb1; clear hb1
    go_wp2_with fail
    first | go_end0 | refine bodyPost_ret (results_none rfl _ _ _) rfl ?_
    exact NextEnd.good hpc.out HMV.out.1 (HB1.out.trans HMV.out.2)
  | false =>
    have HP := hide HP0; clear HP0 hnm
    have HZ := hide hz
    go_enter Tryd.func59, Tryd.ntmps59
    go_wp2_with (first | (go_at_call 71; refine HP.out.mono ?_; rintro e w' ⟨rfl, hw⟩; rw [hw]; clear hw))
    refine HL.out.mono ?_
    rintro e w1 ⟨rfl, hs1, hb1⟩
    obtain ⟨A, A', c, c', h1, h2, hh3, h4⟩ := hs1.ex
    have c1 : w1.cell? ⟨B, 1, none⟩ = some (.int .i64 (p : Int)) := cells_at h1 1
    have f1 : w1.frozen? ⟨B, 1, none⟩ = false := frozen_at h1 1
    clear h1 h2 hh3 h4
    have hm := hs1.move (p + 1)
    rw [show ((p + 1 : Nat) : Int) = (p : Int) + 1 from by omega] at hm
    have HMV := hide hm; clear hm hs1
    have HB1 := hide hb1; clear hb1
    go_wp2_with fail
    first | go_end0 | refine bodyPost_ret (results_none rfl _ _ _) rfl ?_
    exact NextEnd.good hpc.out HMV.out.1 (HB1.out.trans HMV.out.2)

set_option maxRecDepth 100000 in
set_option maxHeartbeats 12800000 in
theorem next_sp (base : Nat) (w : World) (B : Nat) (s : ByteArray) (p : Nat) (l ns : List Tk) (d : UInt8) (r : Bs) (hdr : s.data.toList.drop p = d :: r)
    (h : Sc base w B s p l ns) (hM : MaxLenOk w) (h3 : 3 ≤ base) (hp : p < s.size) (hs : s.size ≤ 65536) (hl : l.length ≤ 200000) (hn : ns.length ≤ 200000) (hbase : base ≤ w.heap.size) (hnm : NoMark p s) (h10 : d = 32) :
    Calls Tryd.prog 59 #[.pointer (some ⟨B, 0, none⟩)] w (NextEnd (stepL (d :: r) p l ns) p base w B s) := by
  have hpc : Hid (stepL (d :: r) p l ns = some (p + 1, l, ns)) := hide (by
    have hst := noMark_piece hnm hdr
    subst h10
    have : piece (p == 0) (32 :: r) = .blank 1 := by
      show (if _ then _ else _) = _
      rw [if_neg (by rw [hst]; decide)]; rfl
    unfold stepL; rw [this])
  have H0 := hide h
  have HM := hide hM; clear hM
  obtain ⟨A, A', c, c', h1, h2, hh3, h4⟩ := h.ex
  have c0 : w.cell? ⟨B, 0, none⟩ = some (.string s) := cells_at h1 0
  have c1 : w.cell? ⟨B, 1, none⟩ = some (.int .i64 (p : Int)) := cells_at h1 1
  have f1 : w.frozen? ⟨B, 1, none⟩ = false := frozen_at h1 1
  have z1 : ∀ v, (w.setCell ⟨B, 1, none⟩ v).cell? ⟨B, 1, none⟩ = some v := fun v => set_same c1 v
  clear h h1 h2 hh3 h4
  have a0 : (0 : Int) ≤ (p : Int) := by omega
  have a1 : (p : Int) < (s.size : Int) := by omega
  have a2 : (p : Int) ≤ (s.size : Int) := by omega
  have a3 : (s.size : Int) ≤ 65536 := by omega
  have a4 : (p : Int) ≤ 65536 := by omega
  have hsp := byte_at hp hdr
  have hd256 := d.toNat_lt
  obtain ⟨dd, hdd⟩ : ∃ dd : Int, (d.toNat : Int) = dd := ⟨_, rfl⟩
  have b0 : (0 : Int) ≤ dd := by omega
  have b1 : dd < 256 := by omega
  rw [hdd] at hsp
  have HP0 := Tryd.strings_HasPrefix s ⟨#[239, 187, 191]⟩ w
  rw [show (⟨#[239, 187, 191]⟩ : ByteArray).data.toList = [239, 187, 191] from rfl] at HP0
  obtain rfl : dd = 32 := by rw [← hdd, h10]; rfl
  clear hdd
  have hm := H0.out.move (p + 1)
  rw [show ((p + 1 : Nat) : Int) = (p : Int) + 1 from by omega] at hm
  have HMV := hide hm; clear hm
  cases hz : ((p : Int) == 0) with
  | true =>
    have hb : Lib.hasPrefix s.data.toList [239, 187, 191] = false := by
      rcases hnm with h | h
      · rw [hz] at h; cases h
      · exact h
    rw [hb] at HP0
    have HP := hide HP0; clear HP0 hb hnm
    have HZ := hide hz
    go_enter Tryd.func59, Tryd.ntmps59
    go_wp2_with (first | (go_at_call 71; refine HP.out.mono ?_; rintro e w' ⟨rfl, hw⟩; rw [hw]; clear hw))
    first | go_end0 | refine bodyPost_ret (results_none rfl _ _ _) rfl ?_
    exact NextEnd.good hpc.out HMV.out.1 HMV.out.2
  | false =>
    have HP := hide HP0; clear HP0 hnm
    have HZ := hide hz
    go_enter Tryd.func59, Tryd.ntmps59
    go_wp2_with (first | (go_at_call 71; refine HP.out.mono ?_; rintro e w' ⟨rfl, hw⟩; rw [hw]; clear hw))
    first | go_end0 | refine bodyPost_ret (results_none rfl _ _ _) rfl ?_
    exact NextEnd.good hpc.out HMV.out.1 HMV.out.2

set_option maxRecDepth 100000 in
set_option maxHeartbeats 12800000 in
theorem next_tab (base : Nat) (w : World) (B : Nat) (s : ByteArray) (p : Nat) (l ns : List Tk) (d : UInt8) (r : Bs) (hdr : s.data.toList.drop p = d :: r)
    (h : Sc base w B s p l ns) (hM : MaxLenOk w) (h3 : 3 ≤ base) (hp : p < s.size) (hs : s.size ≤ 65536) (hl : l.length ≤ 200000) (hn : ns.length ≤ 200000) (hbase : base ≤ w.heap.size) (hnm : NoMark p s) (h10 : d = 9) :
    Calls Tryd.prog 59 #[.pointer (some ⟨B, 0, none⟩)] w (NextEnd (stepL (d :: r) p l ns) p base w B s) := by
  have hpc : Hid (stepL (d :: r) p l ns = some (p + 1, l, ns)) := hide (by
    have hst := noMark_piece hnm hdr
    subst h10
    have : piece (p == 0) (9 :: r) = .blank 1 := by
      show (if _ then _ else _) = _
      rw [if_neg (by rw [hst]; decide)]; rfl
    unfold stepL; rw [this])
  have H0 := hide h
  have HM := hide hM; clear hM
  obtain ⟨A, A', c, c', h1, h2, hh3, h4⟩ := h.ex
  have c0 : w.cell? ⟨B, 0, none⟩ = some (.string s) := cells_at h1 0
  have c1 : w.cell? ⟨B, 1, none⟩ = some (.int .i64 (p : Int)) := cells_at h1 1
  have f1 : w.frozen? ⟨B, 1, none⟩ = false := frozen_at h1 1
  have z1 : ∀ v, (w.setCell ⟨B, 1, none⟩ v).cell? ⟨B, 1, none⟩ = some v := fun v => set_same c1 v
  clear h h1 h2 hh3 h4
  have a0 : (0 : Int) ≤ (p : Int) := by omega
  have a1 : (p : Int) < (s.size : Int) := by omega
  have a2 : (p : Int) ≤ (s.size : Int) := by omega
  have a3 : (s.size : Int) ≤ 65536 := by omega
  have a4 : (p : Int) ≤ 65536 := by omega
  have hsp := byte_at hp hdr
  have hd256 := d.toNat_lt
  obtain ⟨dd, hdd⟩ : ∃ dd : Int, (d.toNat : Int) = dd := ⟨_, rfl⟩
  have b0 : (0 : Int) ≤ dd := by omega
  have b1 : dd < 256 := by omega
  rw [hdd] at hsp
  have HP0 := Tryd.strings_HasPrefix s ⟨#[239, 187, 191]⟩ w
  rw [show (⟨#[239, 187, 191]⟩ : ByteArray).data.toList = [239, 187, 191] from rfl] at HP0
  obtain rfl : dd = 9 := by rw [← hdd, h10]; rfl
  clear hdd
  have hm := H0.out.move (p + 1)
  rw [show ((p + 1 : Nat) : Int) = (p : Int) + 1 from by omega] at hm
  have HMV := hide hm; clear hm
  cases hz : ((p : Int) == 0) with
  | true =>
    have hb : Lib.hasPrefix s.data.toList [239, 187, 191] = false := by
      rcases hnm with h | h
      · rw [hz] at h; cases h
      · exact h
    rw [hb] at HP0
    have HP := hide HP0; clear HP0 hb hnm
    have HZ := hide hz
    go_enter Tryd.func59, Tryd.ntmps59
    go_wp2_with (first | (go_at_call 71; refine HP.out.mono ?_; rintro e w' ⟨rfl, hw⟩; rw [hw]; clear hw))
    first | go_end0 | refine bodyPost_ret (results_none rfl _ _ _) rfl ?_
    exact NextEnd.good hpc.out HMV.out.1 HMV.out.2
  | false =>
    have HP := hide HP0; clear HP0 hnm
    have HZ := hide hz
    go_enter Tryd.func59, Tryd.ntmps59
    go_wp2_with (first | (go_at_call 71; refine HP.out.mono ?_; rintro e w' ⟨rfl, hw⟩; rw [hw]; clear hw))
    first | go_end0 | refine bodyPost_ret (results_none rfl _ _ _) rfl ?_
    exact NextEnd.good hpc.out HMV.out.1 HMV.out.2

set_option maxRecDepth 100000 in
set_option maxHeartbeats 12800000 in
theorem next_cr (base : Nat) (w : World) (B : Nat) (s : ByteArray) (p : Nat) (l ns : List Tk) (d : UInt8) (r : Bs) (hdr : s.data.toList.drop p = d :: r)
    (h : Sc base w B s p l ns) (hM : MaxLenOk w) (h3 : 3 ≤ base) (hp : p < s.size) (hs : s.size ≤ 65536) (hl : l.length ≤ 200000) (hn : ns.length ≤ 200000) (hbase : base ≤ w.heap.size) (hnm : NoMark p s) (h10 : d = 13) :
    Calls Tryd.prog 59 #[.pointer (some ⟨B, 0, none⟩)] w (NextEnd (stepL (d :: r) p l ns) p base w B s) := by
  have hpc : Hid (stepL (d :: r) p l ns = some (p + 1, l, ns)) := hide (by
    have hst := noMark_piece hnm hdr
    subst h10
    have : piece (p == 0) (13 :: r) = .blank 1 := by
      show (if _ then _ else _) = _
      rw [if_neg (by rw [hst]; decide)]; rfl
    unfold stepL; rw [this])
  have H0 := hide h
  have HM := hide hM; clear hM
  obtain ⟨A, A', c, c', h1, h2, hh3, h4⟩ := h.ex
  have c0 : w.cell? ⟨B, 0, none⟩ = some (.string s) := cells_at h1 0
  have c1 : w.cell? ⟨B, 1, none⟩ = some (.int .i64 (p : Int)) := cells_at h1 1
  have f1 : w.frozen? ⟨B, 1, none⟩ = false := frozen_at h1 1
  have z1 : ∀ v, (w.setCell ⟨B, 1, none⟩ v).cell? ⟨B, 1, none⟩ = some v := fun v => set_same c1 v
  clear h h1 h2 hh3 h4
  have a0 : (0 : Int) ≤ (p : Int) := by omega
  have a1 : (p : Int) < (s.size : Int) := by omega
  have a2 : (p : Int) ≤ (s.size : Int) := by omega
  have a3 : (s.size : Int) ≤ 65536 := by omega
  have a4 : (p : Int) ≤ 65536 := by omega
  have hsp := byte_at hp hdr
  have hd256 := d.toNat_lt
  obtain ⟨dd, hdd⟩ : ∃ dd : Int, (d.toNat : Int) = dd := ⟨_, rfl⟩
  have b0 : (0 : Int) ≤ dd := by omega
  have b1 : dd < 256 := by omega
  rw [hdd] at hsp
  have HP0 := Tryd.strings_HasPrefix s ⟨#[239, 187, 191]⟩ w
  rw [show (⟨#[239, 187, 191]⟩ : ByteArray).data.toList = [239, 187, 191] from rfl] at HP0
  obtain rfl : dd = 13 := by rw [← hdd, h10]; rfl
  clear hdd
  have hm := H0.out.move (p + 1)
  rw [show ((p + 1 : Nat) : Int) = (p : Int) + 1 from by omega] at hm
  have HMV := hide hm; clear hm
  cases hz : ((p : Int) == 0) with
  | true =>
    have hb : Lib.hasPrefix s.data.toList [239, 187, 191] = false := by
      rcases hnm with h | h
      · rw [hz] at h; cases h
      · exact h
    rw [hb] at HP0
    have HP := hide HP0; clear HP0 hb hnm
    have HZ := hide hz
    go_enter Tryd.func59, Tryd.ntmps59
    go_wp2_with (first | (go_at_call 71; refine HP.out.mono ?_; rintro e w' ⟨rfl, hw⟩; rw [hw]; clear hw))
    first | go_end0 | refine bodyPost_ret (results_none rfl _ _ _) rfl ?_
    exact NextEnd.good hpc.out HMV.out.1 HMV.out.2
  | false =>
    have HP := hide HP0; clear HP0 hnm
    have HZ := hide hz
    go_enter Tryd.func59, Tryd.ntmps59
    go_wp2_with (first | (go_at_call 71; refine HP.out.mono ?_; rintro e w' ⟨rfl, hw⟩; rw [hw]; clear hw))
    first | go_end0 | refine bodyPost_ret (results_none rfl _ _ _) rfl ?_
    exact NextEnd.good hpc.out HMV.out.1 HMV.out.2

set_option maxRecDepth 100000 in
set_option maxHeartbeats 12800000 in
theorem next_note (base : Nat) (w : World) (B : Nat) (s : ByteArray) (p : Nat) (l ns : List Tk) (d : UInt8) (r : Bs) (hdr : s.data.toList.drop p = d :: r)
    (h : Sc base w B s p l ns) (hM : MaxLenOk w) (h3 : 3 ≤ base) (hp : p < s.size) (hs : s.size ≤ 65536) (hl : l.length ≤ 200000) (hn : ns.length ≤ 200000) (hbase : base ≤ w.heap.size) (hnm : NoMark p s) (h10 : d ≠ 10) (h32 : d ≠ 32) (h9 : d ≠ 9) (h13 : d ≠ 13) (k : Nat) (hno : noteLen (d :: r) = some (some k)) :
    Calls Tryd.prog 59 #[.pointer (some ⟨B, 0, none⟩)] w (NextEnd (stepL (d :: r) p l ns) p base w B s) := by
  have hpc : Hid (stepL (d :: r) p l ns = some (p + k, (if 10 ∈ (d :: r).take k then line l p else l), ns ++ [⟨0, (d :: r).take k, p⟩])) := hide (by
    unfold stepL; rw [not_nl (noMark_piece hnm hdr) h10 h32 h9 h13, hno])
  have H0 := hide h
  have HM := hide hM; clear hM
  obtain ⟨A, A', c, c', h1, h2, hh3, h4⟩ := h.ex
  have c0 : w.cell? ⟨B, 0, none⟩ = some (.string s) := cells_at h1 0
  have c1 : w.cell? ⟨B, 1, none⟩ = some (.int .i64 (p : Int)) := cells_at h1 1
  have f1 : w.frozen? ⟨B, 1, none⟩ = false := frozen_at h1 1
  have z1 : ∀ v, (w.setCell ⟨B, 1, none⟩ v).cell? ⟨B, 1, none⟩ = some v := fun v => set_same c1 v
  clear h h1 h2 hh3 h4
  have a0 : (0 : Int) ≤ (p : Int) := by omega
  have a1 : (p : Int) < (s.size : Int) := by omega
  have a2 : (p : Int) ≤ (s.size : Int) := by omega
  have a3 : (s.size : Int) ≤ 65536 := by omega
  have a4 : (p : Int) ≤ 65536 := by omega
  have hsp := byte_at hp hdr
  have hd256 := d.toNat_lt
  obtain ⟨dd, hdd⟩ : ∃ dd : Int, (d.toNat : Int) = dd := ⟨_, rfl⟩
  have b0 : (0 : Int) ≤ dd := by omega
  have b1 : dd < 256 := by omega
  rw [hdd] at hsp
  have HP0 := Tryd.strings_HasPrefix s ⟨#[239, 187, 191]⟩ w
  rw [show (⟨#[239, 187, 191]⟩ : ByteArray).data.toList = [239, 187, 191] from rfl] at HP0
  have e10 : (dd == 10) = false := by have := byte_int 10 10 h10; rw [hdd] at this; exact this
  have e32 : (dd == 32) = false := by have := byte_int 32 32 h32; rw [hdd] at this; exact this
  have e9 : (dd == 9) = false := by have := byte_int 9 9 h9; rw [hdd] at this; exact this
  have e13 : (dd == 13) = false := by have := byte_int 13 13 h13; rw [hdd] at this; exact this
  have HN := hide (note_any base w B s p l ns H0.out HM.out h3 (by omega) hs hl hn hbase)
  rw [hdr] at HN
  unfold NoteEnd at HN
  rw [hno] at HN
  cases hz : ((p : Int) == 0) with
  | true =>
    have hb : Lib.hasPrefix s.data.toList [239, 187, 191] = false := by
      rcases hnm with h | h
      · rw [hz] at h; cases h
      · exact h
    rw [hb] at HP0
    have HP := hide HP0; clear HP0 hb hnm
    have HZ := hide hz
    go_enter Tryd.func59, Tryd.ntmps59
    go_wp2_with (first | (go_at_call 71; refine HP.out.mono ?_; rintro e w' ⟨rfl, hw⟩; rw [hw]; clear hw))
    refine HN.out.mono ?_
    rintro e w1 ⟨rfl, hs1, hb1⟩
    have HS1 := hide hs1; clear hs1
    have HB1 := hide hb1; clear hb1
    go_wp2_with fail
    first | go_end0 | refine bodyPost_ret (results_none rfl _ _ _) rfl ?_
    exact NextEnd.good hpc.out HS1.out HB1.out
  | false =>
    have HP := hide HP0; clear HP0 hnm
    have HZ := hide hz
    go_enter Tryd.func59, Tryd.ntmps59
    go_wp2_with (first | (go_at_call 71; refine HP.out.mono ?_; rintro e w' ⟨rfl, hw⟩; rw [hw]; clear hw))
    refine HN.out.mono ?_
    rintro e w1 ⟨rfl, hs1, hb1⟩
    have HS1 := hide hs1; clear hs1
    have HB1 := hide hb1; clear hb1
    go_wp2_with fail
    first | go_end0 | refine bodyPost_ret (results_none rfl _ _ _) rfl ?_
    exact NextEnd.good hpc.out HS1.out HB1.out

set_option maxRecDepth 100000 in
set_option maxHeartbeats 12800000 in
theorem next_open (base : Nat) (w : World) (B : Nat) (s : ByteArray) (p : Nat) (l ns : List Tk) (d : UInt8) (r : Bs) (hdr : s.data.toList.drop p = d :: r)
    (h : Sc base w B s p l ns) (hM : MaxLenOk w) (h3 : 3 ≤ base) (hp : p < s.size) (hs : s.size ≤ 65536) (hl : l.length ≤ 200000) (hn : ns.length ≤ 200000) (hbase : base ≤ w.heap.size) (hnm : NoMark p s) (h10 : d ≠ 10) (h32 : d ≠ 32) (h9 : d ≠ 9) (h13 : d ≠ 13) (hno : noteLen (d :: r) = some none) :
    Calls Tryd.prog 59 #[.pointer (some ⟨B, 0, none⟩)] w (NextEnd (stepL (d :: r) p l ns) p base w B s) := by
  have hpc : Hid (stepL (d :: r) p l ns = none) := hide (by
    unfold stepL; rw [not_nl (noMark_piece hnm hdr) h10 h32 h9 h13, hno])
  have H0 := hide h
  have HM := hide hM; clear hM
  obtain ⟨A, A', c, c', h1, h2, hh3, h4⟩ := h.ex
  have c0 : w.cell? ⟨B, 0, none⟩ = some (.string s) := cells_at h1 0
  have c1 : w.cell? ⟨B, 1, none⟩ = some (.int .i64 (p : Int)) := cells_at h1 1
  have f1 : w.frozen? ⟨B, 1, none⟩ = false := frozen_at h1 1
  have z1 : ∀ v, (w.setCell ⟨B, 1, none⟩ v).cell? ⟨B, 1, none⟩ = some v := fun v => set_same c1 v
  clear h h1 h2 hh3 h4
  have a0 : (0 : Int) ≤ (p : Int) := by omega
  have a1 : (p : Int) < (s.size : Int) := by omega
  have a2 : (p : Int) ≤ (s.size : Int) := by omega
  have a3 : (s.size : Int) ≤ 65536 := by omega
  have a4 : (p : Int) ≤ 65536 := by omega
  have hsp := byte_at hp hdr
  have hd256 := d.toNat_lt
  obtain ⟨dd, hdd⟩ : ∃ dd : Int, (d.toNat : Int) = dd := ⟨_, rfl⟩
  have b0 : (0 : Int) ≤ dd := by omega
  have b1 : dd < 256 := by omega
  rw [hdd] at hsp
  have HP0 := Tryd.strings_HasPrefix s ⟨#[239, 187, 191]⟩ w
  rw [show (⟨#[239, 187, 191]⟩ : ByteArray).data.toList = [239, 187, 191] from rfl] at HP0
  have e10 : (dd == 10) = false := by have := byte_int 10 10 h10; rw [hdd] at this; exact this
  have e32 : (dd == 32) = false := by have := byte_int 32 32 h32; rw [hdd] at this; exact this
  have e9 : (dd == 9) = false := by have := byte_int 9 9 h9; rw [hdd] at this; exact this
  have e13 : (dd == 13) = false := by have := byte_int 13 13 h13; rw [hdd] at this; exact this
  have HN := hide (note_any base w B s p l ns H0.out HM.out h3 (by omega) hs hl hn hbase)
  rw [hdr] at HN
  unfold NoteEnd at HN
  rw [hno] at HN
  cases hz : ((p : Int) == 0) with
  | true =>
    have hb : Lib.hasPrefix s.data.toList [239, 187, 191] = false := by
      rcases hnm with h | h
      · rw [hz] at h; cases h
      · exact h
    rw [hb] at HP0
    have HP := hide HP0; clear HP0 hb hnm
    have HZ := hide hz
    go_enter Tryd.func59, Tryd.ntmps59
    go_wp2_with (first | (go_at_call 71; refine HP.out.mono ?_; rintro e w' ⟨rfl, hw⟩; rw [hw]; clear hw))
    refine HN.out.mono ?_
    rintro e w1 ⟨rfl, hb1⟩
    exact ⟨rfl, NextEnd.bad hpc.out hb1⟩
  | false =>
    have HP := hide HP0; clear HP0 hnm
    have HZ := hide hz
    go_enter Tryd.func59, Tryd.ntmps59
    go_wp2_with (first | (go_at_call 71; refine HP.out.mono ?_; rintro e w' ⟨rfl, hw⟩; rw [hw]; clear hw))
    refine HN.out.mono ?_
    rintro e w1 ⟨rfl, hb1⟩
    exact ⟨rfl, NextEnd.bad hpc.out hb1⟩
end Go.Proofs.YtehflgllfkkfoaaDoor
