/- 'scan': the loop. -/
import Derived.Test.YtehflgllfkkfoaaDoorTn
import Derived.StillTactics
set_option linter.unusedVariables false
set_option linter.unusedSimpArgs false
namespace Go.Proofs.YtehflgllfkkfoaaDoor
open Go.RowKit Go.Proofs.Dm

theorem BytesAt.slice {w : World} {v : Value} {b : Bs} (h : BytesAt w v b) : ∃ A c, v = .slice A b.length c := by
  rcases h with ⟨A, c, rfl, rfl⟩ | ⟨a, o, cap, rfl, _, _⟩
  · exact ⟨A, c, rfl⟩
  · exact ⟨_, cap, rfl⟩
theorem BytesAt.below {w w' : World} {v : Value} {b : Bs} (h : BytesAt w v b) (hb : Below w.heap.size w w') : BytesAt w' v b := by
  rcases h with h | ⟨a, o, cap, rfl, hc, hh⟩
  · exact .inl h
  · exact .inr ⟨a, o, cap, rfl, hc, fun j hj => (hb.cell (p := ⟨a, o + j, none⟩) (World.block_lt_of_cell? w _ (hh j hj))).trans (hh j hj)⟩
theorem BytesAt.cv {w : World} {v : Value} {b : Bs} (h : BytesAt w v b) : (convert 22 9 v).run Tryd.prog w = .ok (.string (bs b)) w := by
  rcases h with ⟨A, c, rfl, rfl⟩ | ⟨a, o, cap, rfl, _, hcell⟩
  · exact cv_nil w A c
  · exact run_convert_bytes_back (P := Tryd.prog) w 22 9 5 ⟨a, o, none⟩ cap b Tryd.underlying22 Tryd.underlying5 Tryd.underlying9 (fun j hj => by
      have e : (⟨a, o, none⟩ : Addr).add j = ⟨a, o + j, none⟩ := by unfold Addr.add; split <;> simp_all
      rw [e]; exact hcell j hj)
theorem own_mono {w : World} {base base' n : Nat} {e : TypeId} {size : Nat} {v : Value} {xs : List Value} (h : w.ownsRow base e size v n xs) (hb : base' ≤ base) : w.ownsRow base' e size v n xs := by
  obtain ⟨h1, h2⟩ := h
  refine ⟨h1, ?_⟩
  rcases h2 with h2 | ⟨g, cap, cur, rfl, hg, r⟩
  · exact Or.inl h2
  · exact Or.inr ⟨g, cap, cur, rfl, Nat.le_trans hb hg, r⟩
theorem Sc.mono {base base' : Nat} {w : World} {B : Nat} {s : ByteArray} {p : Nat} {l ns : List Tk} (h : Sc base w B s p l ns) (hb : base' ≤ base) : Sc base' w B s p l ns := by
  obtain ⟨A, A', c, c', h1, h2, h3, h4⟩ := h.ex
  exact ⟨⟨A, A', c, c', h1, own_mono h2 hb, own_mono h3 hb, h4⟩, Nat.le_trans hb h.base_le, h.ok⟩
/-- How 'scan' ends. -/
def ScanEnd (b : Bs) (w : World) (e : Ending) (w' : World) : Prop :=
  match scanS b with
  | .bad p k => e = .returned (.tuple #[.pointer none, .int .i64 (p : Int), .int .i64 (k : Int)]) ∧ Below w.heap.size w w'
  | .ok l ns => ∃ B p, e = .returned (.tuple #[.pointer (some ⟨B, 0, none⟩), .int .i64 0, .int .i64 0]) ∧ Sc w.heap.size w' B (bs b) p l ns ∧ Below w.heap.size w w'
theorem line_length (l : List Tk) (p : Nat) : (line l p).length ≤ l.length + 1 := by unfold line; split <;> simp
theorem step_scan {f : Nat} {c : UInt8} {r : Bs} {p : Nat} {l ns : List Tk} :
    (stepL (c :: r) p l ns = none → scanL (f + 1) (c :: r) p l ns = .error p) ∧
    (∀ q l' ns', stepL (c :: r) p l ns = some (q, l', ns') → p < q ∧ q ≤ p + (c :: r).length ∧ l'.length + p ≤ l.length + q ∧ ns'.length + p ≤ ns.length + q ∧ scanL (f + 1) (c :: r) p l ns = scanL f ((c :: r).drop (q - p)) q l' ns') := by
  have hl := piece_len (p == 0) (c :: r)
  unfold stepL
  simp only [scanL]
  cases hp : piece (p == 0) (c :: r) with
  | bad => exact ⟨fun _ => rfl, fun q l' ns' h => by cases h⟩
  | nl =>
    refine ⟨fun h => (by cases h), fun q l' ns' h => ?_⟩
    have := line_length l p
    simp only [Option.some.injEq, Prod.mk.injEq] at h
    obtain ⟨h1, h2, h3⟩ := h
    subst h1 h2 h3
    refine ⟨by omega, by simp, by omega, by omega, ?_⟩
    rw [show p + 1 - p = 1 from by omega]; rfl
  | blank n =>
    refine ⟨fun h => (by cases h), fun q l' ns' h => ?_⟩
    simp only [Option.some.injEq, Prod.mk.injEq] at h
    obtain ⟨h1, h2, h3⟩ := h
    subst h1 h2 h3
    have hl := hl (by rw [hp]; simp)
    rw [hp] at hl
    simp only [Pc.len] at hl
    refine ⟨by omega, by omega, by omega, by omega, ?_⟩
    rw [show p + n - p = n from by omega]
  | note n =>
    refine ⟨fun h => (by cases h), fun q l' ns' h => ?_⟩
    have := line_length l p
    simp only [Option.some.injEq, Prod.mk.injEq] at h
    obtain ⟨h1, h2, h3⟩ := h
    subst h1 h2 h3
    have hl := hl (by rw [hp]; simp)
    rw [hp] at hl
    simp only [Pc.len] at hl
    refine ⟨by omega, by omega, ?_, by simp; omega, ?_⟩
    · split <;> omega
    rw [show p + n - p = n from by omega]
  | tok k n =>
    refine ⟨fun h => (by cases h), fun q l' ns' h => ?_⟩
    simp only [Option.some.injEq, Prod.mk.injEq] at h
    obtain ⟨h1, h2, h3⟩ := h
    subst h1 h2 h3
    have hl := hl (by rw [hp]; simp)
    rw [hp] at hl
    simp only [Pc.len] at hl
    refine ⟨by omega, by omega, by simp; omega, by omega, ?_⟩
    rw [show p + n - p = n from by omega]

theorem alloc3 (w : World) (x y z : Value) (t1 t2 t3 : TypeId) :
    (((w.alloc (.cells #[x] t1)).alloc (.cells #[y] t2)).alloc (.cells #[z] t3)).heap[w.heap.size]? = some (.cells #[x] t1 (0, 0)) ∧
    (((w.alloc (.cells #[x] t1)).alloc (.cells #[y] t2)).alloc (.cells #[z] t3)).heap[w.heap.size + 1]? = some (.cells #[y] t2 (0, 0)) ∧
    (((w.alloc (.cells #[x] t1)).alloc (.cells #[y] t2)).alloc (.cells #[z] t3)).heap[w.heap.size + 1 + 1]? = some (.cells #[z] t3 (0, 0)) ∧
    (((w.alloc (.cells #[x] t1)).alloc (.cells #[y] t2)).alloc (.cells #[z] t3)).heap.size = w.heap.size + 3 ∧
    Below w.heap.size w (((w.alloc (.cells #[x] t1)).alloc (.cells #[y] t2)).alloc (.cells #[z] t3)) := by
  have s1 : (w.alloc (.cells #[x] t1)).heap.size = w.heap.size + 1 := by simp
  have s2 : ((w.alloc (.cells #[x] t1)).alloc (.cells #[y] t2)).heap.size = w.heap.size + 1 + 1 := by simp
  refine ⟨?_, ?_, ?_, by simp, ?_⟩
  · rw [Below.heap_alloc _ _ _ (by rw [s2]; omega), Below.heap_alloc _ _ _ (by rw [s1]; omega)]
    exact heap_alloc_new w _
  · rw [Below.heap_alloc _ _ _ (by rw [s2]; omega), ← s1]
    exact heap_alloc_new _ _
  · rw [← s2]; exact heap_alloc_new _ _
  · exact (((Below.refl _ w).alloc (Nat.le_refl _) _).alloc (by rw [s1]; omega) _).alloc (by rw [s2]; omega) _
theorem set3 {w : World} {H : Nat} {x y z : Value} (hx : w.cell? ⟨H, 0, none⟩ = some x) (hy : w.cell? ⟨H + 1, 0, none⟩ = some y) (hz : w.cell? ⟨H + 1 + 1, 0, none⟩ = some z) (x' y' z' : Value) :
    (((w.setCell ⟨H, 0, none⟩ x').setCell ⟨H + 1, 0, none⟩ y').setCell ⟨H + 1 + 1, 0, none⟩ z').cell? ⟨H, 0, none⟩ = some x' ∧
    (((w.setCell ⟨H, 0, none⟩ x').setCell ⟨H + 1, 0, none⟩ y').setCell ⟨H + 1 + 1, 0, none⟩ z').cell? ⟨H + 1, 0, none⟩ = some y' ∧
    (((w.setCell ⟨H, 0, none⟩ x').setCell ⟨H + 1, 0, none⟩ y').setCell ⟨H + 1 + 1, 0, none⟩ z').cell? ⟨H + 1 + 1, 0, none⟩ = some z' ∧
    Below H w (((w.setCell ⟨H, 0, none⟩ x').setCell ⟨H + 1, 0, none⟩ y').setCell ⟨H + 1 + 1, 0, none⟩ z') := by
  have e1 : (w.setCell ⟨H, 0, none⟩ x').cell? ⟨H, 0, none⟩ = some x' := set_same hx x'
  have e2 : (w.setCell ⟨H, 0, none⟩ x').cell? ⟨H + 1, 0, none⟩ = some y := (World.cell?_setCell_far _ _ _ _ (by simp)).trans hy
  have e3 : (w.setCell ⟨H, 0, none⟩ x').cell? ⟨H + 1 + 1, 0, none⟩ = some z := (World.cell?_setCell_far _ _ _ _ (by show H ≠ H + 1 + 1; omega)).trans hz
  have g1 := (World.cell?_setCell_far _ ⟨H + 1, 0, none⟩ _ y' (by simp)).trans e1
  have g2 := set_same e2 y'
  have g3 := (World.cell?_setCell_far _ ⟨H + 1, 0, none⟩ _ y' (by show H + 1 ≠ H + 1 + 1; omega)).trans e3
  refine ⟨(World.cell?_setCell_far _ ⟨H + 1 + 1, 0, none⟩ _ z' (by show H + 1 + 1 ≠ H; omega)).trans g1, (World.cell?_setCell_far _ ⟨H + 1 + 1, 0, none⟩ _ z' (by show H + 1 + 1 ≠ H + 1; omega)).trans g2, set_same g3 z', ?_⟩
  exact (((Below.refl H w).setCell (p := ⟨H, 0, none⟩) (Nat.le_refl _) _).setCell (p := ⟨H + 1, 0, none⟩) (by show H ≤ H + 1; omega) _).setCell (p := ⟨H + 1 + 1, 0, none⟩) (by show H ≤ H + 1 + 1; omega) _
theorem ScanEnd.bad {b : Bs} {w w' : World} {p k : Nat} (h : scanS b = .bad p k) (hb : Below w.heap.size w w') : ScanEnd b w (.returned (.tuple #[.pointer none, .int .i64 (p : Int), .int .i64 (k : Int)])) w' := by
  unfold ScanEnd; rw [h]; exact ⟨rfl, hb⟩
theorem ScanEnd.good {b : Bs} {w w' : World} {l ns : List Tk} {B p : Nat} (h : scanS b = .ok l ns) (hs : Sc w.heap.size w' B (bs b) p l ns) (hb : Below w.heap.size w w') : ScanEnd b w (.returned (.tuple #[.pointer (some ⟨B, 0, none⟩), .int .i64 0, .int .i64 0])) w' := by
  unfold ScanEnd; rw [h]; exact ⟨B, p, rfl, hs, hb⟩

set_option maxRecDepth 100000 in
set_option maxHeartbeats 12800000 in
theorem scan_long (w : World) (v : Value) (b : Bs) (hv : BytesAt w v b) (hb : b.length ≤ 1000000) (hl : 65536 < b.length) :
    Calls Tryd.prog 35 #[v] w (ScanEnd b w) := by
  have hs : Hid (scanS b = .bad 65536 12) := hide (by unfold scanS; rw [if_pos hl])
  obtain ⟨A, c, rfl⟩ := hv.slice
  have l1 : (65536 : Int) < (b.length : Int) := by omega
  go_enter_defers Tryd.func35, Tryd.ntmps35
  go_wp2_with fail
  obtain ⟨h0, h1, h2, h3, h4⟩ := alloc3 w (.pointer none) (.int .i64 65536) (.int .i64 12) 47 3 24
  obtain ⟨w3, hw3⟩ : ∃ w3, ((w.alloc (.cells #[.pointer none] 47)).alloc (.cells #[.int .i64 65536] 3)).alloc (.cells #[.int .i64 12] 24) = w3 := ⟨_, rfl⟩
  rw [hw3] at h0 h1 h2 h3 h4 ⊢
  have d0 : w3.cell? ⟨w.heap.size, 0, none⟩ = some (.pointer none) := cells_at h0 0
  have d1 : w3.cell? ⟨w.heap.size + 1, 0, none⟩ = some (.int .i64 65536) := cells_at h1 0
  have d2 : w3.cell? ⟨w.heap.size + 1 + 1, 0, none⟩ = some (.int .i64 12) := cells_at h2 0
  have hend : ScanEnd b w (.returned (.tuple #[.pointer none, .int .i64 65536, .int .i64 12])) w3 := ScanEnd.bad hs.out h4
  clear h0 h1 h2 h3 h4 hw3
  simp [bodyPostD, Leaves, settle, results, Tryd.results35, go_sem, d0, d1, d2]
  exact hend
set_option maxRecDepth 100000 in
set_option maxHeartbeats 12800000 in
theorem scan_wrong (w : World) (v : Value) (b : Bs) (hv : BytesAt w v b) (hT : Lib.Utf8Tabs 0 1 w) (hl : b.length ≤ 65536) (p : Nat) (hw : wrongL b.length b 0 = some p) (hp : p ≤ 65536) :
    Calls Tryd.prog 35 #[v] w (ScanEnd b w) := by
  have hs : Hid (scanS b = .bad p 2) := hide (by unfold scanS; rw [if_neg (by omega), hw])
  have HV := hide hv
  have HT := hide hT; clear hT
  have hwi := wrongInt_some hw; clear hw
  have HWI := hide hwi; clear hwi
  obtain ⟨A, c, rfl⟩ := hv.slice
  clear hv
  have l1 : (b.length : Int) ≤ 65536 := by omega
  have p0 : (0 : Int) ≤ (p : Int) := by omega
  go_enter_defers Tryd.func35, Tryd.ntmps35
  go_wp2_with fail
  obtain ⟨h0, h1, h2, h3, h4⟩ := alloc3 w (.pointer none) (.int .i64 0) (.int .i64 0) 47 3 24
  obtain ⟨w3, hw3⟩ : ∃ w3, ((w.alloc (.cells #[.pointer none] 47)).alloc (.cells #[.int .i64 0] 3)).alloc (.cells #[.int .i64 0] 24) = w3 := ⟨_, rfl⟩
  rw [hw3] at h0 h1 h2 h3 h4 ⊢
  clear hw3
  refine (wrong_any w3 _ b (HV.out.below h4) hl (Utf8Tabs_below HT.out h4)).mono ?_
  rw [HWI.out]
  rintro e w4 ⟨rfl, hb4⟩
  have k0 := (hb4.block w.heap.size (by omega)).trans h0
  have k1 := (hb4.block (w.heap.size + 1) (by omega)).trans h1
  have k2 := (hb4.block (w.heap.size + 1 + 1) (by omega)).trans h2
  have HB4 := hide (h4.trans (hb4.mono (by omega)))
  have d0 : w4.cell? ⟨w.heap.size, 0, none⟩ = some (.pointer none) := cells_at k0 0
  have d1 : w4.cell? ⟨w.heap.size + 1, 0, none⟩ = some (.int .i64 0) := cells_at k1 0
  have d2 : w4.cell? ⟨w.heap.size + 1 + 1, 0, none⟩ = some (.int .i64 0) := cells_at k2 0
  have f0 := frozen_at k0 0
  have f1 := frozen_at k1 0
  have f2 := frozen_at k2 0
  clear h0 h1 h2 h3 h4 k0 k1 k2 hb4
  go_wp2_with fail
  obtain ⟨e0, e1, e2, e3⟩ := set3 d0 d1 d2 (.pointer none) (.int .i64 p) (.int .i64 2)
  obtain ⟨w5, hw5⟩ : ∃ w5, ((w4.setCell ⟨w.heap.size, 0, none⟩ (.pointer none)).setCell ⟨w.heap.size + 1, 0, none⟩ (.int .i64 p)).setCell ⟨w.heap.size + 1 + 1, 0, none⟩ (.int .i64 2) = w5 := ⟨_, rfl⟩
  rw [hw5] at e0 e1 e2 e3 ⊢
  have hend : ScanEnd b w (.returned (.tuple #[.pointer none, .int .i64 p, .int .i64 2])) w5 := ScanEnd.bad hs.out (HB4.out.trans e3)
  clear hw5 d0 d1 d2 f0 f1 f2
  simp [bodyPostD, Leaves, settle, results, Tryd.results35, go_sem, e0, e1, e2]
  exact hend

/-- Where a scanner stands, as a number. -/
def placeOf (B : Nat) (W : World) : Nat := match W.cell? ⟨B, 1, none⟩ with | some (.int _ p) => p.toNat | _ => 0
theorem Sc.place {base : Nat} {w : World} {B : Nat} {s : ByteArray} {p : Nat} {l ns : List Tk} (h : Sc base w B s p l ns) : placeOf B w = p := by
  obtain ⟨A, A', c, c', h1, h2, hh3, h4⟩ := h.ex
  have c1 : w.cell? ⟨B, 1, none⟩ = some (.int .i64 (p : Int)) := cells_at h1 1
  unfold placeOf; rw [c1]; rfl
/-- The loop of 'scan'. -/
structure Run (w : World) (b : Bs) (B : Nat) (W : World) (p : Nat) (l ns : List Tk) (f : Nat) : Prop where
  sc : Sc (w.heap.size + 3) W B (bs b) p l ns
  x : W.heap[w.heap.size]? = some (.cells #[.pointer (some ⟨B, 0, none⟩)] 47 (0, 0))
  y : W.heap[w.heap.size + 1]? = some (.cells #[.int .i64 0] 3 (0, 0))
  z : W.heap[w.heap.size + 1 + 1]? = some (.cells #[.int .i64 0] 24 (0, 0))
  below : Below w.heap.size w W
  big : w.heap.size + 3 ≤ W.heap.size
  hp : p ≤ b.length
  hl : l.length ≤ p
  hn : ns.length ≤ p
  hf : (b.drop p).length ≤ f
  eq : scanL b.length b 0 [] [] = scanL f (b.drop p) p l ns
theorem Run.step {w : World} {b : Bs} {B : Nat} {W W' : World} {p : Nat} {l ns : List Tk} {f : Nat} {d : UInt8} {r : Bs} {q : Nat} {l' ns' : List Tk} (h : Run w b B W p l ns f) (hd : b.drop p = d :: r) (hst : stepL (d :: r) p l ns = some (q, l', ns'))
    (hs : Sc (w.heap.size + 3) W' B (bs b) q l' ns') (hb : Below (w.heap.size + 3) W W') : ∃ f', Run w b B W' q l' ns' f' ∧ p < q ∧ q ≤ b.length := by
  have hf := h.hf
  have he := h.eq
  have hlen : (d :: r).length = b.length - p := by rw [← hd, List.length_drop]
  rw [hd] at hf he
  have hp := h.hp
  have hl := h.hl
  have hn := h.hn
  cases f with
  | zero => simp at hf
  | succ f =>
    have s2 := step_scan (f := f) (c := d) (r := r) (p := p) (l := l) (ns := ns)
    obtain ⟨h1, h2, h3, h4, h5⟩ := s2.2 q l' ns' hst
    have e : b.drop q = (d :: r).drop (q - p) := by rw [← hd, List.drop_drop, show p + (q - p) = q from by omega]
    refine ⟨f, ⟨hs, (hb.block _ (by omega)).trans h.x, (hb.block _ (by omega)).trans h.y, (hb.block _ (by omega)).trans h.z, h.below.trans (hb.mono (by omega)), Nat.le_trans h.big hb.size, by omega, by omega, by omega, ?_, ?_⟩, h1, by omega⟩
    · rw [e, List.length_drop]; simp only [List.length_cons] at hf ⊢; omega
    · rw [he, h5, e]
theorem Run.stop {w : World} {b : Bs} {B : Nat} {W : World} {p : Nat} {l ns : List Tk} {f : Nat} {d : UInt8} {r : Bs} (h : Run w b B W p l ns f) (hd : b.drop p = d :: r) (hst : stepL (d :: r) p l ns = none) : scanL b.length b 0 [] [] = .error p := by
  have hf := h.hf
  have he := h.eq
  rw [hd] at hf he
  cases f with
  | zero => simp at hf
  | succ f => rw [he]; exact step_scan.1 hst
theorem Run.over {w : World} {b : Bs} {B : Nat} {W : World} {p : Nat} {l ns : List Tk} {f : Nat} (h : Run w b B W p l ns f) (hp : ¬ p < b.length) : scanL b.length b 0 [] [] = .ok (line l b.length, ns) := by
  have he := h.eq
  have := h.hp
  obtain rfl : p = b.length := by omega
  rw [List.drop_length] at he
  rw [he]
  cases f <;> rfl
theorem Run.drew {w : World} {b : Bs} {B : Nat} {W : World} {p : Nat} {l ns : List Tk} {f : Nat} (h : Run w b B W p l ns f) : Run w b B W.drew p l ns f :=
  ⟨h.sc.drew, h.x, h.y, h.z, h.below.drew, h.big, h.hp, h.hl, h.hn, h.hf, h.eq⟩

set_option maxRecDepth 100000 in
set_option maxHeartbeats 12800000 in
theorem scan_run (w : World) (v : Value) (b : Bs) (hv : BytesAt w v b) (hT : Lib.Utf8Tabs 0 1 w) (hM : MaxLenOk w) (h3 : 3 ≤ w.heap.size) (hl : b.length ≤ 65536) (hw : wrongL b.length b 0 = none) :
    Calls Tryd.prog 35 #[v] w (ScanEnd b w) := by
  have hs : Hid (scanS b = match scanL b.length b 0 [] [] with | .error p => .bad p 3 | .ok (l, ns) => .ok l ns) := hide (by unfold scanS; rw [if_neg (by omega), hw]; rfl)
  have HV := hide hv
  have HM := hide hM; clear hM
  have HT := hide hT; clear hT
  have hwi := wrongInt_none hw; clear hw
  have HWI := hide hwi; clear hwi
  obtain ⟨A, c, rfl⟩ := hv.slice
  clear hv
  have l1 : (b.length : Int) ≤ 65536 := by omega
  have hmf : ∀ (fn : Fn) (first cap : Array Value) (w : World), (Instr.makeFunc fn first cap).run Tryd.prog w = .ok (.func fn first cap) w := fun _ _ _ _ => rfl
  go_enter_defers Tryd.func35, Tryd.ntmps35
  go_wp2_with fail
  obtain ⟨h0, h1, h2, h3, h4⟩ := alloc3 w (.pointer none) (.int .i64 0) (.int .i64 0) 47 3 24
  obtain ⟨w3, hw3⟩ : ∃ w3, ((w.alloc (.cells #[.pointer none] 47)).alloc (.cells #[.int .i64 0] 3)).alloc (.cells #[.int .i64 0] 24) = w3 := ⟨_, rfl⟩
  rw [hw3] at h0 h1 h2 h3 h4 ⊢
  clear hw3
  refine (wrong_any w3 _ b (HV.out.below h4) hl (Utf8Tabs_below HT.out h4)).mono ?_
  rw [HWI.out]
  rintro e w4 ⟨rfl, hb4⟩
  have k0 := (hb4.block w.heap.size (by omega)).trans h0
  have k1 := (hb4.block (w.heap.size + 1) (by omega)).trans h1
  have k2 := (hb4.block (w.heap.size + 1 + 1) (by omega)).trans h2
  have HB4 := hide (h4.trans (hb4.mono (by omega)))
  have hs4 : w.heap.size + 3 ≤ w4.heap.size := by have := hb4.size; omega
  have d0 : w4.cell? ⟨w.heap.size, 0, none⟩ = some (.pointer none) := cells_at k0 0
  have f0 := frozen_at k0 0
  have hcv := (HV.out.below HB4.out).cv
  clear h0 h1 h2 h3 h4 hb4
  have K0 := hide k0; clear k0
  have K1 := hide k1; clear k1
  have K2 := hide k2; clear k2
  obtain ⟨B, hB⟩ : ∃ B, w4.heap.size = B := ⟨_, rfl⟩
  obtain ⟨w5, hw5⟩ : ∃ w5, w4.alloc (.cells #[.string (bs b), .int .i64 0, .slice none 0 0, .slice none 0 0] 51) = w5 := ⟨_, rfl⟩
  have j0 : w5.heap[w.heap.size]? = some (.cells #[.pointer none] 47 (0, 0)) := by rw [← hw5, Below.heap_alloc _ _ _ (by omega)]; exact K0.out
  have j1 : w5.heap[w.heap.size + 1]? = some (.cells #[.int .i64 0] 3 (0, 0)) := by rw [← hw5, Below.heap_alloc _ _ _ (by omega)]; exact K1.out
  have j2 : w5.heap[w.heap.size + 1 + 1]? = some (.cells #[.int .i64 0] 24 (0, 0)) := by rw [← hw5, Below.heap_alloc _ _ _ (by omega)]; exact K2.out
  have jB : w5.heap[B]? = some (.cells #[.string (bs b), .int .i64 0, .slice none 0 0, .slice none 0 0] 51 (0, 0)) := by rw [← hw5, ← hB]; exact heap_alloc_new w4 _
  have hb5 : Below w.heap.size w w5 := by rw [← hw5]; exact HB4.out.alloc (by omega) _
  have hs5 : w.heap.size + 3 ≤ w5.heap.size := by rw [← hw5]; simp; omega
  have e0 : w5.cell? ⟨w.heap.size, 0, none⟩ = some (.pointer none) := cells_at j0 0
  have ef0 := frozen_at j0 0
  have hBs : w.heap.size + 3 ≤ B := by omega
  have hset := set_at j0 0 (.pointer (some ⟨B, 0, none⟩))
  have HSET := hide hset; clear hset
  have J0 := hide j0; clear j0
  have J1 := hide j1; clear j1
  have J2 := hide j2; clear j2
  have JB := hide jB; clear jB
  have HB5 := hide hb5; clear hb5
  obtain ⟨w6, hw6⟩ : ∃ w6, w5.setCell ⟨w.heap.size, 0, none⟩ (.pointer (some ⟨B, 0, none⟩)) = w6 := ⟨_, rfl⟩
  have RUN : Hid (Run w b B w6 0 [] [] b.length) := hide (by
    rw [← hw6]
    refine ⟨⟨⟨none, none, 0, 0, ?_, ⟨rfl, .inl ⟨rfl, rfl⟩⟩, ⟨rfl, .inl ⟨rfl, rfl⟩⟩, .inl rfl⟩, hBs, fun t h => by cases h⟩, HSET.out, ?_, ?_, HB5.out.setCell (p := ⟨w.heap.size, 0, none⟩) (Nat.le_refl _) _, by simp [World.setCell]; omega, Nat.zero_le _, Nat.le_refl _, Nat.le_refl _, by simp, rfl⟩
    · rw [Below.heap_setCell _ _ _ _ (by show B ≠ w.heap.size; omega)]; exact JB.out
    · rw [Below.heap_setCell _ _ _ _ (by show w.heap.size + 1 ≠ w.heap.size; omega)]; exact J1.out
    · rw [Below.heap_setCell _ _ _ _ (by show w.heap.size + 1 + 1 ≠ w.heap.size; omega)]; exact J2.out)
  go_wp2_with fail
  clear hw5 hw6 hB hcv d0 f0 e0 ef0 hs4 hs5
  clear K0 K1 K2 J0 J1 J2 JB HSET HB5 HB4
  go_loopw [28] (fun _ W => ∃ w7, w7 = W ∧ ∃ p l ns f, Run w b B W p l ns f) (fun _ W => b.length - placeOf B W)
  case atStart => exact ⟨_, rfl, 0, [], [], b.length, RUN.out⟩
  case round =>
    obtain ⟨w7, rfl, p, l, ns, f, hrun⟩ := hrel
    have HR := hide hrun
    have hpl := hrun.sc.place
    obtain ⟨A1, A2, c1, c2, g1, g2, g3, g4⟩ := hrun.sc.ex
    have m0 : w7.cell? ⟨B, 0, none⟩ = some (.string (bs b)) := cells_at g1 0
    have m1 : w7.cell? ⟨B, 1, none⟩ = some (.int .i64 (p : Int)) := cells_at g1 1
    have m2 : w7.cell? ⟨w.heap.size, 0, none⟩ = some (.pointer (some ⟨B, 0, none⟩)) := cells_at hrun.x 0
    have mf2 := frozen_at hrun.x 0
    have my := cells_at hrun.y 0
    have mfy := frozen_at hrun.y 0
    have mz := cells_at hrun.z 0
    have mfz := frozen_at hrun.z 0
    have hsz : (bs b).size = b.length := bs_size b
    have hp0 := hrun.hp
    have p0 : (0 : Int) ≤ (p : Int) := by omega
    clear g1 g2 g3 g4 hrun
    by_cases hlt : p < b.length
    · have hlt2 : (p : Int) < (b.length : Int) := by omega
      have hlt3 : (p : Int) < ((bs b).size : Int) := by omega
      obtain ⟨d, r, hdr⟩ : ∃ d r, b.drop p = d :: r := by
        cases hq : b.drop p with
        | nil => have := congrArg List.length hq; rw [List.length_drop] at this; simp at this; omega
        | cons d r => exact ⟨d, r, rfl⟩
      have HDR := hide hdr; clear hdr
      go_wp2_with fail
      go_still (by kernel_rfl)
      rw [drew_lit]
      go_wp2_with fail
      have hn := next_any (w.heap.size + 3) w7.drew B (bs b) p l ns d r HDR.out HR.out.drew.sc (HM.out.below HR.out.drew.below h3) (by omega) (by omega) (by omega) (by have := HR.out.hl; omega) (by have := HR.out.hn; omega) HR.out.big
      refine hn.mono ?_
      clear hn
      cases hst : stepL (d :: r) p l ns with
      | none =>
        rintro e w8 ⟨rfl, hb8⟩
        have hbad : Hid (scanS b = .bad p 3) := hide (by rw [hs.out, HR.out.stop HDR.out hst])
        have b8 := HR.out.drew.below.trans (hb8.mono (by omega))
        have x8 := (hb8.block w.heap.size (by omega)).trans HR.out.drew.x
        have y8 := (hb8.block (w.heap.size + 1) (by omega)).trans HR.out.drew.y
        have z8 := (hb8.block (w.heap.size + 1 + 1) (by omega)).trans HR.out.drew.z
        have hbig8 : w.heap.size + 3 ≤ w8.heap.size := Nat.le_trans HR.out.drew.big hb8.size
        refine leaves_cons (f := 58) (args := #[.pointer (some ⟨w.heap.size, 0, none⟩), .pointer (some ⟨w.heap.size + 1, 0, none⟩), .pointer (some ⟨w.heap.size + 1 + 1, 0, none⟩)]) (by simp) (by simp [go_sem]) ?_
        refine (caught w.heap.size (w.heap.size + 1) (w.heap.size + 1 + 1) p w8 _ _ _ (cells_at x8 0) (cells_at y8 0) (cells_at z8 0) (frozen_at x8 0) (frozen_at y8 0) (frozen_at z8 0) (by omega) (by omega) (by omega)).mono ?_
        rintro e u' w9 ⟨rfl, rfl, hw9⟩
        have q0 := fun k h => Below.heap_alloc w8 (.cells #[.int .i64 p] 77) k h
        obtain ⟨e0, e1, e2, e3⟩ := set3 (H := w.heap.size) ((World.cell?_of_block (w := w8) (q0 w.heap.size (by omega))).trans (cells_at x8 0)) ((World.cell?_of_block (w := w8) (q0 (w.heap.size + 1) (by omega))).trans (cells_at y8 0)) ((World.cell?_of_block (w := w8) (q0 (w.heap.size + 1 + 1) (by omega))).trans (cells_at z8 0)) (.pointer none) (.int .i64 p) (.int .i64 3)
        have hb9 : Below w.heap.size w w9 := by rw [hw9]; exact (b8.trans (((Below.refl w.heap.size w8).alloc (by omega) _).trans e3)).drew
        have n0 : w9.cell? ⟨w.heap.size, 0, none⟩ = some (.pointer none) := by rw [hw9]; exact e0
        have n1 : w9.cell? ⟨w.heap.size + 1, 0, none⟩ = some (.int .i64 p) := by rw [hw9]; exact e1
        have n2 : w9.cell? ⟨w.heap.size + 1 + 1, 0, none⟩ = some (.int .i64 3) := by rw [hw9]; exact e2
        have hend : ScanEnd b w (.returned (.tuple #[.pointer none, .int .i64 p, .int .i64 3])) w9 := ScanEnd.bad hbad.out hb9
        clear hw9 e0 e1 e2 e3 q0 x8 y8 z8
        simp [Leaves, settle, results, Tryd.results35, go_sem, n0, n1, n2]
        exact hend
      | some o =>
        obtain ⟨q, l', ns'⟩ := o
        rintro e w8 ⟨rfl, hs8, hb8⟩
        obtain ⟨f', hr', hpq, hqb⟩ := HR.out.drew.step HDR.out hst hs8 hb8
        have HR' := hide hr'
        have hp8 := hr'.sc.place
        clear hr' hs8 hb8 hst
        go_wp2_with fail
        go_roundw
        case rel => exact ⟨_, rfl, q, l', ns', f', HR'.out⟩
        case measure => rw [hp8, hpl]; omega
    · have hlt2 : ¬ (p : Int) < (b.length : Int) := by omega
      have hlt3 : ¬ (p : Int) < ((bs b).size : Int) := by omega
      have hok : Hid (scanS b = .ok (line l b.length) ns) := hide (by rw [hs.out, HR.out.over hlt])
      go_wp2_with fail
      go_still (by kernel_rfl)
      rw [drew_lit]
      have HR1 := hide HR.out.drew
      have s0 : w7.drew.cell? ⟨B, 0, none⟩ = some (.string (bs b)) := m0
      have s2 : w7.drew.cell? ⟨w.heap.size, 0, none⟩ = some (.pointer (some ⟨B, 0, none⟩)) := m2
      obtain ⟨wd, hwd⟩ : ∃ wd, w7.drew = wd := ⟨_, rfl⟩
      rw [hwd] at HR1 s0 s2 ⊢
      clear hwd m0 m1 m2 mf2 my mfy mz mfz
      go_wp2_with fail
      go_still_tail 6, (by kernel_rfl)
      rw [drew_lit]
      go_wp2_with fail
      have HR2 := hide HR1.out.drew
      refine (line_any (w.heap.size + 3) wd.drew B (bs b) p b.length l ns HR2.out.sc (HM.out.below HR2.out.below h3) (by have := HR1.out.hl; omega) HR2.out.big).mono ?_
      rintro e w8 ⟨rfl, hs8, hb8⟩
      have b8 := HR2.out.below.trans (hb8.mono (by omega))
      have x8 := (hb8.block w.heap.size (by omega)).trans HR2.out.x
      have y8 := (hb8.block (w.heap.size + 1) (by omega)).trans HR2.out.y
      have z8 := (hb8.block (w.heap.size + 1 + 1) (by omega)).trans HR2.out.z
      have e0 : w8.cell? ⟨w.heap.size, 0, none⟩ = some (.pointer (some ⟨B, 0, none⟩)) := cells_at x8 0
      have e1 : w8.cell? ⟨w.heap.size + 1, 0, none⟩ = some (.int .i64 0) := cells_at y8 0
      have e2 : w8.cell? ⟨w.heap.size + 1 + 1, 0, none⟩ = some (.int .i64 0) := cells_at z8 0
      have f0 := frozen_at x8 0
      have f1 := frozen_at y8 0
      have f2 := frozen_at z8 0
      obtain ⟨n0, n1, n2, n3⟩ := set3 e0 e1 e2 (.pointer (some ⟨B, 0, none⟩)) (.int .i64 0) (.int .i64 0)
      have HB8 := hide b8; clear b8
      have HS8 := hide hs8; clear hs8
      clear hb8 x8 y8 z8 s0 s2
      have hfar : ∀ (g : Addr) (v : Value) (W : World), g.block < w.heap.size + 3 → Sc (w.heap.size + 3) W B (bs b) p (line l b.length) ns → Sc (w.heap.size + 3) (W.setCell g v) B (bs b) p (line l b.length) ns := by
        intro g v W hg h
        obtain ⟨A, A', c, c', h1, h2, hh3, h4⟩ := h.ex
        exact ⟨⟨A, A', c, c', (Below.heap_setCell _ _ _ _ (by omega)).trans h1, own_far' h2 (fun e => by have := (own_lt' h2 _ e).2; omega) _, own_far' hh3 (fun e => by have := (own_lt' hh3 _ e).2; omega) _, h4⟩, h.base_le, h.ok⟩
      have HFAR := hide hfar; clear hfar
      obtain ⟨w9, hw9⟩ : ∃ w9, ((w8.setCell ⟨w.heap.size, 0, none⟩ (.pointer (some ⟨B, 0, none⟩))).setCell ⟨w.heap.size + 1, 0, none⟩ (.int .i64 0)).setCell ⟨w.heap.size + 1 + 1, 0, none⟩ (.int .i64 0) = w9 := ⟨_, rfl⟩
      have HS9 : Hid (Sc (w.heap.size + 3) w9 B (bs b) p (line l b.length) ns) := hide (by
        rw [← hw9]
        exact HFAR.out ⟨w.heap.size + 1 + 1, 0, none⟩ _ _ (by show w.heap.size + 1 + 1 < _; omega) (HFAR.out ⟨w.heap.size + 1, 0, none⟩ _ _ (by show w.heap.size + 1 < _; omega) (HFAR.out ⟨w.heap.size, 0, none⟩ _ _ (by show w.heap.size < _; omega) HS8.out)))
      rw [hw9] at n0 n1 n2 n3
      have N3 := hide n3; clear n3
      go_wp2_with fail
      refine leaves_cons (f := 58) (args := #[.pointer (some ⟨w.heap.size, 0, none⟩), .pointer (some ⟨w.heap.size + 1, 0, none⟩), .pointer (some ⟨w.heap.size + 1 + 1, 0, none⟩)]) (by simp) (by simp [go_sem]) ?_
      refine (caught_idle _ _ _ w9).mono ?_
      rintro e u' w10 ⟨rfl, rfl, rfl⟩
      have hend : ScanEnd b w (.returned (.tuple #[.pointer (some ⟨B, 0, none⟩), .int .i64 0, .int .i64 0])) w10 := ScanEnd.good hok.out (HS9.out.mono (by omega)) (HB8.out.trans N3.out)
      clear hw9
      simp [Leaves, settle, results, Tryd.results35, go_sem, n0, n1, n2]
      exact hend

theorem wrongL_le (f : Nat) : ∀ (b : Bs) (p q : Nat), b.length ≤ f → wrongL f b p = some q → q < p + b.length := by
  induction f with
  | zero =>
    intro b p q hf h
    cases b with
    | nil => cases h
    | cons c r => simp at hf
  | succ f ih =>
    intro b p q hf h
    cases b with
    | nil => cases h
    | cons c r =>
      rw [wrong_step] at h
      have hl := decodeL_len (c :: r) (by simp)
      split at h
      · cases h; simp
      · have := ih _ _ _ (by rw [List.length_drop]; omega) h
        rw [List.length_drop] at this
        omega
theorem scan_any (w : World) (v : Value) (b : Bs) (hv : BytesAt w v b) (hT : Lib.Utf8Tabs 0 1 w) (hM : MaxLenOk w) (h3 : 3 ≤ w.heap.size) (hb : b.length ≤ 1000000) :
    Calls Tryd.prog 35 #[v] w (ScanEnd b w) := by
  by_cases hl : 65536 < b.length
  · exact scan_long w v b hv hb hl
  cases hw : wrongL b.length b 0 with
  | none => exact scan_run w v b hv hT hM h3 (by omega) hw
  | some p => exact scan_wrong w v b hv hT (by omega) p hw (by have := wrongL_le _ _ _ _ (Nat.le_refl _) hw; omega)
end Go.Proofs.YtehflgllfkkfoaaDoor
