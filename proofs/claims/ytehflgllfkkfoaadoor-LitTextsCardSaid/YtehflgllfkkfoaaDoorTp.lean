/- 'Scan', 'Notes', and what the law's 'awake' asks. -/
import Derived.Test.YtehflgllfkkfoaaDoorTo
import Derived.Lib.SlBytesConst
set_option linter.unusedVariables false
set_option linter.unusedSimpArgs false
namespace Go.Proofs.YtehflgllfkkfoaaDoor
open Go.RowKit Go.Proofs.Dm

/-- A row of tokens that a call has made. -/
def TokRow (base : Nat) (w : World) (v : Value) (l : List Tk) : Prop := w.ownsRow base 29 3 v l.length (toks l) ∧ ∃ A c, v = .slice A l.length c
/-- How 'Scan' ends. -/
def ScanRet (b : Bs) (w : World) (e : Ending) (w' : World) : Prop :=
  match scanS b with
  | .bad p k => e = .returned (.tuple #[.slice none 0 0, .int .i64 (p : Int), .int .i64 (k : Int)]) ∧ Below w.heap.size w w'
  | .ok l ns => ∃ v, e = .returned (.tuple #[v, .int .i64 0, .int .i64 0]) ∧ TokRow w.heap.size w' v l ∧ (∀ t ∈ l, TkOk t) ∧ Below w.heap.size w w'
def NotesRet (b : Bs) (w : World) (e : Ending) (w' : World) : Prop :=
  match scanS b with
  | .bad p k => e = .returned (.slice none 0 0) ∧ Below w.heap.size w w'
  | .ok l ns => ∃ v, e = .returned v ∧ TokRow w.heap.size w' v ns ∧ Below w.heap.size w w'
theorem bad_code {b : Bs} {p k : Nat} (h : scanS b = .bad p k) : k = 12 ∨ k = 2 ∨ k = 3 := by
  unfold scanS at h
  split at h
  · injection h with _ h; exact .inl h.symm
  · split at h
    · injection h with _ h; exact .inr (.inl h.symm)
    · split at h
      · injection h with _ h; exact .inr (.inr h.symm)
      · cases h

set_option maxRecDepth 100000 in
set_option maxHeartbeats 3200000 in
theorem Scan_any (w : World) (v : Value) (b : Bs) (hv : BytesAt w v b) (hT : Lib.Utf8Tabs 0 1 w) (hM : MaxLenOk w) (h3 : 3 ≤ w.heap.size) (hb : b.length ≤ 1000000) :
    Calls Tryd.prog 17 #[v] w (ScanRet b w) := by
  have hc := scan_any w v b hv hT hM h3 hb
  unfold ScanRet
  unfold ScanEnd at hc
  cases hs : scanS b with
  | bad p k =>
    rw [hs] at hc
    simp only at hc ⊢
    have hk := bad_code hs
    have k0 : ((k : Int) != 0) = true := by simp; omega
    have k1 : ((k : Int) == 0) = false := by simp; omega
    have HC := hide hc
    clear hc hs hk hT hM hv
    go_enter Tryd.func17, Tryd.ntmps17
    go_wp2_with fail
    refine HC.out.mono ?_
    rintro e w' ⟨rfl, hb'⟩
    have HB := hide hb'; clear hb'
    go_wp2_with fail
    go_ret3
    exact ⟨rfl, HB.out⟩
  | ok l ns =>
    rw [hs] at hc
    simp only at hc ⊢
    have HC := hide hc
    clear hc hs hT hM hv
    go_enter Tryd.func17, Tryd.ntmps17
    go_wp2_with fail
    refine HC.out.mono ?_
    rintro e w' ⟨B, p, rfl, hsc, hb'⟩
    obtain ⟨A, A', c, c', h1, h2, hh3, h4⟩ := hsc.ex
    have c2 : w'.cell? ⟨B, 2, none⟩ = some (.slice A l.length c) := cells_at h1 2
    have HOK := hide hsc.ok
    have HB := hide hb'; clear hb' hsc h1 h4
    have H2 := hide h2; clear h2 hh3
    go_wp2_with fail
    go_ret3
    exact ⟨_, rfl, ⟨H2.out, A, c, rfl⟩, HOK.out, HB.out⟩

set_option maxRecDepth 100000 in
set_option maxHeartbeats 3200000 in
theorem Notes_any (w : World) (v : Value) (b : Bs) (hv : BytesAt w v b) (hT : Lib.Utf8Tabs 0 1 w) (hM : MaxLenOk w) (h3 : 3 ≤ w.heap.size) (hb : b.length ≤ 1000000) :
    Calls Tryd.prog 21 #[v] w (NotesRet b w) := by
  have hc := scan_any w v b hv hT hM h3 hb
  unfold NotesRet
  unfold ScanEnd at hc
  cases hs : scanS b with
  | bad p k =>
    rw [hs] at hc
    simp only at hc ⊢
    have hk := bad_code hs
    have k0 : ((k : Int) != 0) = true := by simp; omega
    have k1 : ((k : Int) == 0) = false := by simp; omega
    have HC := hide hc
    clear hc hs hk hT hM hv
    go_enter Tryd.func21, Tryd.ntmps21
    go_wp2_with fail
    refine HC.out.mono ?_
    rintro e w' ⟨rfl, hb'⟩
    have HB := hide hb'; clear hb'
    go_wp2_with fail
    go_ret
    exact ⟨rfl, HB.out⟩
  | ok l ns =>
    rw [hs] at hc
    simp only at hc ⊢
    have HC := hide hc
    clear hc hs hT hM hv
    go_enter Tryd.func21, Tryd.ntmps21
    go_wp2_with fail
    refine HC.out.mono ?_
    rintro e w' ⟨B, p, rfl, hsc, hb'⟩
    obtain ⟨A, A', c, c', h1, h2, hh3, h4⟩ := hsc.ex
    have c2 : w'.cell? ⟨B, 3, none⟩ = some (.slice A' ns.length c') := cells_at h1 3
    have HB := hide hb'; clear hb' hsc h1 h4
    have H3 := hide hh3; clear h2 hh3
    go_wp2_with fail
    go_ret
    exact ⟨_, rfl, ⟨H3.out, A', c', rfl⟩, HB.out⟩

theorem addr_add (g k : Nat) : (⟨g, 0, none⟩ : Addr).add k = ⟨g, k, none⟩ := by unfold Addr.add; split <;> simp_all
theorem tok_row_at {base : Nat} {w : World} {A : Option Addr} {n c : Nat} {l : List Tk} (h : w.ownsRow base 29 3 (.slice A n c) l.length (toks l)) (hn : 0 < l.length) : ∃ g, A = some ⟨g, 0, none⟩ ∧
    ∀ i (hi : i < l.length), w.cell? ⟨g, i * 3, none⟩ = some (.int .i64 ((l[i]'hi).kind : Int)) ∧ w.cell? ⟨g, i * 3 + 1, none⟩ = some (.string (bs (l[i]'hi).text)) ∧ w.cell? ⟨g, i * 3 + 2, none⟩ = some (.int .i64 ((l[i]'hi).pos : Int)) := by
  obtain ⟨g, cap, hv, _, _⟩ := h.form (by omega)
  injection hv with hA _ hc
  subst hA
  refine ⟨g, rfl, fun i hi => ?_⟩
  have hsplit : l = l.take i ++ l[i] :: l.drop (i + 1) := by
    rw [← List.drop_eq_getElem_cons hi, List.take_append_drop]
  have hlen : (toks (l.take i)).length = i * 3 := by rw [toks_length, List.length_take, Nat.min_eq_left (by omega)]
  have hx : ∀ j v, j < 3 → (tokCells l[i])[j]? = some v → w.cell? ⟨g, i * 3 + j, none⟩ = some v := by
    intro j v hj hv
    have := h.cells (g := g) rfl (i * 3 + j) v (by
      have ht : toks l = toks (l.take i) ++ (tokCells l[i] ++ toks (l.drop (i + 1))) := by
        conv => lhs; rw [hsplit]
        unfold toks
        rw [List.flatMap_append, List.flatMap_cons]
      rw [ht, List.getElem?_append_right (by rw [hlen]; omega), hlen, show i * 3 + j - i * 3 = j from by omega, List.getElem?_append_left (by show j < 3; exact hj)]
      exact hv)
    rwa [addr_add] at this
  exact ⟨hx 0 _ (by omega) rfl, hx 1 _ (by omega) rfl, hx 2 _ (by omega) rfl⟩

def awakeToks : List Tk := [⟨1, [97], 0⟩, ⟨6, [10], 1⟩, ⟨6, [43], 2⟩, ⟨1, [98], 3⟩, ⟨6, [10], 4⟩]
theorem awake_scan : scanS [97, 10, 43, 98] = .ok awakeToks [] := by decide +kernel

set_option maxRecDepth 100000 in
set_option maxHeartbeats 12800000 in
theorem awake_any (w : World) (hT : Lib.Utf8Tabs 0 1 w) (hM : MaxLenOk w) (h3 : 3 ≤ w.heap.size) :
    Calls Tryd.prog 18 #[] w fun e w' => e = .returned (.bool true) ∧ Below w.heap.size w w' := by
  have HT := hide hT
  have HM := hide hM
  clear hT hM
  have kc := fun (w : World) (C : Array Value) (n c : Nat) => Lib.run_convert_bytes_const (P := Tryd.prog) w 22 5 C n c Tryd.underlying22 Tryd.underlying5
  go_enter Tryd.func18, Tryd.ntmps18
  go_wp2_with fail
  obtain ⟨W, hW⟩ : ∃ W, w.alloc (.cells #[.int .u8 97, .int .u8 10, .int .u8 43, .int .u8 98] 5 (4, 5)) = W := ⟨_, rfl⟩
  have hb : Below w.heap.size w W := by rw [← hW]; exact (Below.refl _ w).alloc (Nat.le_refl _) _
  have hbs : BytesAt W (.slice (some ⟨w.heap.size, 0, none⟩) 4 4) [97, 10, 43, 98] := by
    refine .inr ⟨_, 0, 4, rfl, Nat.le_refl _, fun j hj => ?_⟩
    rw [← hW]
    rw [show (0 : Nat) + j = j from by omega, World.cell?_alloc_mark]
    have : j = 0 ∨ j = 1 ∨ j = 2 ∨ j = 3 := by simp at hj; omega
    rcases this with rfl | rfl | rfl | rfl <;> rfl
  have hWs : 3 ≤ W.heap.size := Nat.le_trans h3 hb.size
  have hsc := Scan_any W _ _ hbs (Utf8Tabs_below HT.out hb) (HM.out.below hb h3) hWs (by decide)
  unfold ScanRet at hsc
  rw [awake_scan] at hsc
  have hsz : W.heap.size = w.heap.size + 1 := by rw [← hW]; simp
  rw [show (W.heap.size) = W.heap.size from rfl] at hsc
  have HB := hide hb; clear hb
  first | rw [hW] | skip
  refine hsc.mono ?_
  clear hsc
  rintro e w1 ⟨v, rfl, ⟨hrow, A, c, rfl⟩, hok, hb1⟩
  obtain ⟨g, rfl, hr⟩ := tok_row_at hrow (by decide)
  have hlen : (5 : Nat) ≤ c := by
    rcases hrow.2 with ⟨hv, _⟩ | ⟨g', cap', cur, hv', _, _, h1, _⟩
    · cases hv
    · injection hv' with _ _ hc'; subst hc'; exact h1
  have q0 : w1.cell? ⟨g, 1, none⟩ = some (.string ⟨#[97]⟩) := (hr 0 (by decide)).2.1
  have q1 : w1.cell? ⟨g, 4, none⟩ = some (.string ⟨#[10]⟩) := (hr 1 (by decide)).2.1
  have q2 : w1.cell? ⟨g, 5, none⟩ = some (.int .i64 1) := (hr 1 (by decide)).2.2
  have q3 : w1.cell? ⟨g, 7, none⟩ = some (.string ⟨#[43]⟩) := (hr 2 (by decide)).2.1
  have q4 : w1.cell? ⟨g, 14, none⟩ = some (.int .i64 4) := (hr 4 (by decide)).2.2
  have HB1 := hide (HB.out.trans (hb1.mono (by omega)))
  clear hb1 hr hrow hok
  have hl5 : awakeToks.length = 5 := rfl
  rw [hl5]
  go_wp2_with fail
  go_ret
  exact ⟨rfl, HB1.out⟩
end Go.Proofs.YtehflgllfkkfoaaDoor
