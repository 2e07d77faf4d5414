/- TokenStands, walked. -/
import Derived.Test.YtehflgllfkkfoaaDoorTq
import Derived.Test.YtehflgllfkkfoaaDoorStand
import Derived.OwnWalk
import Derived.StillTactics
import Derived.Deep.CutRange
import Derived.Deep.DeepCutAuto
set_option linter.unusedVariables false
set_option linter.unusedSimpArgs false
namespace Go.Proofs.YtehflgllfkkfoaaDoor
open Go.RowKit Go.Proofs.Dm
/-- A row of truths in memory. -/
def UsedAt (W : World) (g n : Nat) (U : Nat → Bool) : Prop := ∃ cur, W.heap[g]? = some (.cells cur 4 (0, 0)) ∧ ∀ k, k < n → cur[k]? = some (.bool (U k))
theorem UsedAt.cell {W : World} {g n : Nat} {U : Nat → Bool} (h : UsedAt W g n U) (k : Nat) (hk : k < n) : W.cell? ⟨g, k, none⟩ = some (.bool (U k)) := by
  obtain ⟨cur, h1, h2⟩ := h
  rw [cells_at h1 k]; exact h2 k hk
theorem UsedAt.free {W : World} {g n : Nat} {U : Nat → Bool} (h : UsedAt W g n U) (k : Nat) : W.frozen? ⟨g, k, none⟩ = false := by
  obtain ⟨cur, h1, _⟩ := h
  exact frozen_at h1 k
theorem UsedAt.same {W W' : World} {g n : Nat} {U : Nat → Bool} (h : UsedAt W g n U) (he : W'.heap[g]? = W.heap[g]?) : UsedAt W' g n U := by
  obtain ⟨cur, h1, h2⟩ := h
  exact ⟨cur, he.trans h1, h2⟩
theorem UsedAt.lt {W : World} {g n : Nat} {U : Nat → Bool} (h : UsedAt W g n U) : g < W.heap.size := by
  obtain ⟨cur, h1, _⟩ := h
  exact block_lt h1
theorem UsedAt.set {W : World} {g n : Nat} {U : Nat → Bool} (h : UsedAt W g n U) (k : Nat) (hk : k < n) : UsedAt (W.setCell ⟨g, k, none⟩ (.bool true)) g n (fun j => U j || decide (j = k)) := by
  obtain ⟨cur, h1, h2⟩ := h
  refine ⟨_, set_at h1 k (.bool true), fun j hj => ?_⟩
  have hsz : k < cur.size := by
    rcases Nat.lt_or_ge k cur.size with hlt | hge
    · exact hlt
    · have := h2 k hk
      rw [Array.getElem?_eq_none hge] at this; cases this
  by_cases hjk : j = k
  · subst hjk
    rw [Array.getElem?_setIfInBounds_self_of_lt hsz]; simp
  · rw [Array.getElem?_setIfInBounds_ne (by omega), h2 j hj]; simp [hjk]
theorem UsedAt.eq {W : World} {g n : Nat} {U V : Nat → Bool} (h : UsedAt W g n U) (he : ∀ k, k < n → U k = V k) : UsedAt W g n V := by
  obtain ⟨cur, h1, h2⟩ := h
  exact ⟨cur, h1, fun k hk => by rw [h2 k hk, he k hk]⟩
theorem used_made {W : World} {base g n : Nat} (h : W.ownsRow base 4 1 (.slice (some ⟨g, 0, none⟩) n n) n (madeCells (Value.bool false).cells (n * 1)).toList) : UsedAt W g n (fun _ => false) := by
  rcases h.2 with ⟨hv, _⟩ | ⟨g', cap, cur, hv, _, hh, _, _, hsz, ht⟩
  · cases hv
  injection hv with hg _ hc
  injection hg with hg
  injection hg with hg _ _
  subst hg hc
  refine ⟨cur, hh, fun k hk => ?_⟩
  have hl : cur.toList = (madeCells (Value.bool false).cells (n * 1)).toList := by
    rw [← ht, List.take_of_length_le (by rw [Array.length_toList, hsz]; omega)]
  rw [← Array.getElem?_toList, hl]
  simp [madeCells, Value.cells]
  exact ⟨k, by simp [hk], by simp [Nat.mod_one]⟩
theorem bne_nil {t : Bs} (h : t ≠ []) : ((bs t).toList != ([] : Bs)) = true ∧ ((bs t).toList == ([] : Bs)) = false := by
  have : ((bs t).toList == ([] : Bs)) = false := by rw [bs_toList]; simpa using h
  exact ⟨by unfold bne; rw [this]; rfl, this⟩
theorem boolInfo : (Tryd.prog.info? 4).map (fun i => (i.zero, i.size, i.bytes)) = some (some (.bool false), 1, 1) := by kernel_rfl
theorem scanL_error (f : Nat) : ∀ (b : Bs) (p q : Nat) (l ns : List Tk), scanL f b p l ns = .error q → q ≤ p + b.length := by
  induction f with
  | zero =>
    intro b p q l ns h
    cases b with
    | nil => cases h
    | cons c r => injection h with h; subst h; simp
  | succ f ih =>
    intro b p q l ns h
    cases b with
    | nil => cases h
    | cons c r =>
      have s := step_scan (f := f) (c := c) (r := r) (p := p) (l := l) (ns := ns)
      cases hst : stepL (c :: r) p l ns with
      | none => rw [s.1 hst] at h; injection h with h; subst h; simp
      | some o =>
        obtain ⟨q', l2, ns2⟩ := o
        obtain ⟨h1, h2, _, _, h5⟩ := s.2 q' l2 ns2 hst
        rw [h5] at h
        have := ih _ _ _ _ _ h
        rw [List.length_drop] at this
        omega
theorem bad_place {b : Bs} {p k : Nat} (hb : b.length ≤ 1000) (h : scanS b = .bad p k) : p ≤ b.length := by
  unfold scanS at h
  rw [if_neg (by omega)] at h
  split at h
  · rename_i hw
    injection h with h1 _
    have := wrongL_le _ _ _ _ (Nat.le_refl _) hw
    omega
  · split at h
    · rename_i he
      injection h with h1 _
      have := scanL_error _ _ _ _ _ _ he
      omega
    · cases h

set_option maxRecDepth 100000 in
set_option maxHeartbeats 12800000 in
theorem stands_any (w : World) (v : Value) (b : Bs) (hv : BytesAt w v b) (hT : Lib.Utf8Tabs 0 1 w) (hM : MaxLenOk w) (h3 : 3 ≤ w.heap.size) :
    Calls Tryd.prog 6 #[v] w fun e w' => e = .returned (.bool true) ∧ Below w.heap.size w w' := by
  obtain ⟨A, c, rfl⟩ := hv.slice
  by_cases hlong : (1000 : Int) < (b.length : Int)
  · clear hv hT hM
    go_enter Tryd.func6, Tryd.ntmps6
    go_wp2_with fail
    go_ret
    exact ⟨rfl, Below.refl _ _⟩
  have hb : b.length ≤ 1000 := by omega
  have hsc := Scan_any w _ b hv hT hM h3 (by omega)
  have HT := hide hT; clear hT
  have HM := hide hM; clear hM
  have HV := hide hv; clear hv
  unfold ScanRet at hsc
  cases hs : scanS b with
  | bad p k =>
    rw [hs] at hsc
    simp only at hsc
    have hk := bad_code hs
    have k0 : ((k : Int) != 0) = true := by simp; omega
    have k1 : ((k : Int) == 0) = false := by simp; omega
    have HC := hide hsc
    clear hsc hk
    have hpb := bad_place hb hs
    have hnt : ∀ W : World, Below w.heap.size w W → Calls Tryd.prog 21 #[.slice A b.length c] W fun e w' => e = .returned (.slice none 0 0) ∧ Below W.heap.size W w' := fun W hw => by
      have := Notes_any W _ b (HV.out.below hw) (Utf8Tabs_below HT.out hw) (HM.out.below hw h3) (Nat.le_trans h3 hw.size) (by omega)
      unfold NotesRet at this
      rw [hs] at this
      exact this
    have HNT := hide hnt; clear hnt hs
    have p0 : (0 : Int) ≤ (p : Int) := by omega
    have p1 : (p : Int) ≤ (b.length : Int) := by omega
    go_enter Tryd.func6, Tryd.ntmps6
    go_wp2_with fail
    refine HC.out.mono ?_
    rintro e w1 ⟨rfl, hb1⟩
    have HB1 := hide hb1; clear hb1
    go_wp2_with fail
    refine (HNT.out w1 HB1.out).mono ?_
    rintro e w2 ⟨rfl, hb2⟩
    have HB2 := hide (HB1.out.trans (hb2.mono HB1.out.size)); clear hb2
    go_wp2_with fail
    refine (awake_any w2 (Utf8Tabs_below HT.out HB2.out) (HM.out.below HB2.out h3) (Nat.le_trans h3 (HB2.out).size)).mono ?_
    rintro e w9 ⟨rfl, hb9⟩
    have HB9 := hide hb9; clear hb9
    go_wp2_with fail
    go_ret
    exact ⟨rfl, (HB2.out).trans (HB9.out.mono (HB2.out).size)⟩
  | ok l ns =>
    rw [hs] at hsc
    simp only at hsc
    have hL : l.length ≤ 1001 := by have := scan_count hs; omega
    have HC := hide hsc
    clear hsc
    have hnt : ∀ W : World, Below w.heap.size w W → Calls Tryd.prog 21 #[.slice A b.length c] W fun e w' => ∃ v, e = .returned v ∧ TokRow W.heap.size w' v ns ∧ Below W.heap.size W w' := fun W hw => by
      have := Notes_any W _ b (HV.out.below hw) (Utf8Tabs_below HT.out hw) (HM.out.below hw h3) (Nat.le_trans h3 hw.size) (by omega)
      unfold NotesRet at this
      rw [hs] at this
      exact this
    have HNT := hide hnt; clear hnt
    have hN : ns.length ≤ 1001 := by have := scan_count hs; omega
    have HST := hide (scanS_stand hs)
    clear hs
    go_enter Tryd.func6, Tryd.ntmps6
    go_wp2_with fail
    refine HC.out.mono ?_
    rintro e w1 ⟨v1, rfl, hrow, hok, hb1⟩
    have HB1 := hide hb1; clear hb1
    have HROW := hide hrow
    obtain ⟨A1, c1, rfl⟩ := hrow.2
    clear hrow hok
    go_wp2_with fail
    refine (HNT.out w1 HB1.out).mono ?_
    rintro e w2 ⟨v2, rfl, hrow2, hb2⟩
    have HB12 := hide hb2
    have HB2 := hide (HB1.out.trans (hb2.mono HB1.out.size)); clear hb2
    have HROW2 := hide hrow2
    obtain ⟨A2, c2, rfl⟩ := hrow2.2
    clear hrow2
    obtain ⟨i0, hi0, hz0, hz1, hz2⟩ := info_parts boolInfo
    have lb : (b.length : Int) ≤ 1000 := by omega
    have lb0 : (0 : Int) ≤ (b.length : Int) := by omega
    go_wp2_with (at_make; refine wpList_make_full _ rfl _ _ 36 rfl w2.heap.size 4 i0 (.bool false) 1 Tryd.underlying36 hi0 hz0 hz1 .i64 .i64 _ _ (b.length + 1) rfl rfl (by omega) (by omega) (by rw [hz2]; omega) (by simp only [maxLen]; omega) (Nat.le_refl _) ?_; intro w3 hown3 hgrow3)
    have hus := used_made hown3
    have hgu : w3.heap[w2.heap.size]? ≠ none := by obtain ⟨cur, h1, _⟩ := hus; rw [h1]; simp
    have hb3 : Below w2.heap.size w2 w3 := (Below.refl _ w2).grown hgrow3 (Nat.le_refl _) (fun k h => by cases h)
    have HB3 := hide hb3
    have HUS := hide hus
    clear hown3 hgrow3 hus hb3 hgu
    obtain ⟨gu, hgu⟩ : ∃ gu, w2.heap.size = gu := ⟨_, rfl⟩
    rw [hgu] at HUS
    rw [hgu]
    have HGU := hide hgu; clear hgu
    go_loopw [8, 9] (fun e i W' => ∃ W, W = W' ∧ ∃ k : Nat, k ≤ l.length + ns.length ∧ i = .int .i64 k ∧ e = .int .i64 (endOf (l.take k) : Int) ∧ UsedAt W gu (b.length + 1) (fun j => cov ((l ++ ns).take k) j) ∧ Below w2.heap.size w2 W) (fun _ i _ => l.length + ns.length - (intOf i).toNat)
    case atStart => exact ⟨_, rfl, 0, Nat.zero_le _, rfl, rfl, HUS.out.eq (fun k hk => rfl), HB3.out⟩
    case round =>
      obtain ⟨W, rfl, k, hk, rfl, rfl, hused, hbl⟩ := hrel
      have HU := hide hused; clear hused
      have HBL := hide hbl; clear hbl
      have hk2 : (k : Int) ≤ 200000 := by omega
      have hk0 : (0 : Int) ≤ (k : Int) := by omega
      by_cases hlt : k < l.length + ns.length
      · have hlt2 : (k : Int) < (l.length : Int) + (ns.length : Int) := by omega
        obtain ⟨W1, hW1⟩ : ∃ W1, W.alloc (.cells #[.int .i64 6, .string ⟨#[10]⟩, .int .i64 0] 29) = W1 := ⟨_, rfl⟩
        obtain ⟨X, hX⟩ : ∃ X, W.heap.size = X := ⟨_, rfl⟩
        have hb2 : Below X W W1 := by rw [← hW1, ← hX]; exact (Below.refl _ W).alloc (Nat.le_refl _) _
        have hXb : W1.heap[X]? = some (.cells #[.int .i64 6, .string ⟨#[10]⟩, .int .i64 0] 29 (0, 0)) := by rw [← hW1, ← hX]; exact heap_alloc_new W _
        have hXs : w2.heap.size ≤ X := by rw [← hX]; exact HBL.out.size
        have hguX : gu < X := by rw [← hX]; exact HU.out.lt
        have x0 : W1.cell? ⟨X, 0, none⟩ = some (.int .i64 6) := cells_at hXb 0
        have x1 : W1.cell? ⟨X, 1, none⟩ = some (.string ⟨#[10]⟩) := cells_at hXb 1
        have x2 : W1.cell? ⟨X, 2, none⟩ = some (.int .i64 0) := cells_at hXb 2
        have xf0 := frozen_at hXb 0
        have xf1 := frozen_at hXb 1
        have xf2 := frozen_at hXb 2
        have HXB := hide hXb; clear hXb
        have HB2' := hide hb2; clear hb2
        have hitem : k < (l ++ ns).length := by rw [List.length_append]; omega
        obtain ⟨tk, htk⟩ : ∃ tk, (l ++ ns)[k]'hitem = tk := ⟨_, rfl⟩
        have HTK := hide htk; clear htk
        have HTAKE : Hid ((l ++ ns).take (k + 1) = (l ++ ns).take k ++ [tk]) := hide (by rw [List.take_succ_eq_append_getElem hitem, HTK.out])
        obtain ⟨eo, heo⟩ : ∃ eo, endOf (l.take k) = eo := ⟨_, rfl⟩
        have HEO := hide heo
        rw [heo]
        clear heo
        go_upto_if 65 with (fail)
        go_cut [10] from 52 to 152 (fun x wx => ∃ X : Nat, x = .pointer (some ⟨X, 0, none⟩) ∧ w2.heap.size ≤ X ∧ gu < X ∧ wx.heap[X]? = some (.cells #[.int .i64 (tk.kind : Int), .string (bs tk.text), .int .i64 (tk.pos : Int)] 29 (0, 0)) ∧ UsedAt wx gu (b.length + 1) (fun j => cov ((l ++ ns).take k) j) ∧ Below w2.heap.size w2 wx)
        case first =>
          have hset : Hid ((((( W1.setCell ⟨X, 2, none⟩ (.int .i64 0)).setCell ⟨X, 0, none⟩ (.int .i64 (tk.kind : Int))).setCell ⟨X, 1, none⟩ (.string (bs tk.text))).setCell ⟨X, 2, none⟩ (.int .i64 (tk.pos : Int))).heap[X]? = some (.cells #[.int .i64 (tk.kind : Int), .string (bs tk.text), .int .i64 (tk.pos : Int)] 29 (0, 0)) ∧
              Below X W ((((W1.setCell ⟨X, 2, none⟩ (.int .i64 0)).setCell ⟨X, 0, none⟩ (.int .i64 (tk.kind : Int))).setCell ⟨X, 1, none⟩ (.string (bs tk.text))).setCell ⟨X, 2, none⟩ (.int .i64 (tk.pos : Int)))) := hide
            ⟨set_at (set_at (set_at (set_at HXB.out 2 (.int .i64 0)) 0 (.int .i64 (tk.kind : Int))) 1 (.string (bs tk.text))) 2 (.int .i64 (tk.pos : Int)),
             (((HB2'.out.setCell (p := ⟨X, 2, none⟩) (Nat.le_refl _) _).setCell (p := ⟨X, 0, none⟩) (Nat.le_refl _) _).setCell (p := ⟨X, 1, none⟩) (Nat.le_refl _) _).setCell (p := ⟨X, 2, none⟩) (Nat.le_refl _) _⟩
          by_cases hkl : k < l.length
          · have hkl2 : (k : Int) < (l.length : Int) := by omega
            rcases HROW.out.lies with ⟨rfl, _⟩ | ⟨g, c1', hvv, hc1, hg, hr⟩
            · simp at hkl
            injection hvv with hA _ hcc
            subst hA hcc
            have hb1' : Below w1.heap.size w1 W1 := (HB12.out.trans (HBL.out.mono HB12.out.size)).trans (HB2'.out.mono (Nat.le_trans HB12.out.size hXs))
            have htk := HTK.out
            rw [List.getElem_append_left hkl] at htk
            have hr := hr k hkl
            have hordk := HST.out.ord k hkl
            rw [htk] at hr hordk
            rw [HEO.out] at hordk
            have r0 : W1.cell? ⟨g, k * 3, none⟩ = some (.int .i64 (tk.kind : Int)) := (hb1'.cell (p := ⟨g, k * 3, none⟩) hg).trans hr.1
            have r1 : W1.cell? ⟨g, k * 3 + 1, none⟩ = some (.string (bs tk.text)) := (hb1'.cell (p := ⟨g, k * 3 + 1, none⟩) hg).trans hr.2.1
            have r2 : W1.cell? ⟨g, k * 3 + 2, none⟩ = some (.int .i64 (tk.pos : Int)) := (hb1'.cell (p := ⟨g, k * 3 + 2, none⟩) hg).trans hr.2.2
            have hord : ¬ (tk.pos : Int) < (eo : Int) := by omega
            have hgX : g < X := by have := HB12.out.size; omega
            clear hr hb1' htk hordk
            go_wp2_with fail
            go_meet
            case rel => exact ⟨X, rfl, hXs, hguX, hset.out.1, HU.out.same (hset.out.2.block gu hguX), HBL.out.trans (hset.out.2.mono hXs)⟩
          · have hkl2 : ¬ (k : Int) < (l.length : Int) := by omega
            obtain ⟨q, hq⟩ : ∃ q, k = l.length + q := ⟨k - l.length, by omega⟩
            have hqn : q < ns.length := by omega
            rcases HROW2.out.lies with ⟨rfl, _⟩ | ⟨g, c2', hvv, hc2, hg, hr⟩
            · simp at hqn
            injection hvv with hA _ hcc
            subst hA hcc
            have hb1' : Below w2.heap.size w2 W1 := HBL.out.trans (HB2'.out.mono hXs)
            have htk := HTK.out
            have hr := hr q hqn
            rw [List.getElem_append_right (by omega)] at htk
            simp only [show k - l.length = q from by omega] at htk
            rw [htk] at hr
            have r0 : W1.cell? ⟨g, q * 3, none⟩ = some (.int .i64 (tk.kind : Int)) := (hb1'.cell (p := ⟨g, q * 3, none⟩) hg).trans hr.1
            have r1 : W1.cell? ⟨g, q * 3 + 1, none⟩ = some (.string (bs tk.text)) := (hb1'.cell (p := ⟨g, q * 3 + 1, none⟩) hg).trans hr.2.1
            have r2 : W1.cell? ⟨g, q * 3 + 2, none⟩ = some (.int .i64 (tk.pos : Int)) := (hb1'.cell (p := ⟨g, q * 3 + 2, none⟩) hg).trans hr.2.2
            have w0 : (k : Int) - (l.length : Int) = (q : Int) := by omega
            have w2' : IntKind.i64.wrap ((k : Int) - (l.length : Int)) = (q : Int) := by rw [w0]; exact IntWalk.i64_in _ (by omega)
            have q0 : (0 : Int) ≤ (q : Int) := by omega
            have q1 : (q : Int) < (ns.length : Int) := by omega
            have hgX : g < X := by omega
            clear hr hb1' htk hq
            go_wp2_with fail
            go_meet
            case rel => exact ⟨X, rfl, hXs, hguX, hset.out.1, HU.out.same (hset.out.2.block gu hguX), HBL.out.trans (hset.out.2.mono hXs)⟩
        case rest =>
          obtain ⟨X', rfl, hXs', hguX', hxr, husx, hbx⟩ := hcut
          have y0 : wc.cell? ⟨X', 0, none⟩ = some (.int .i64 (tk.kind : Int)) := cells_at hxr 0
          have y1 : wc.cell? ⟨X', 1, none⟩ = some (.string (bs tk.text)) := cells_at hxr 1
          have y2 : wc.cell? ⟨X', 2, none⟩ = some (.int .i64 (tk.pos : Int)) := cells_at hxr 2
          have HXR := hide hxr; clear hxr
          have HUX := hide husx; clear husx
          have HBX := hide hbx; clear hbx
          clear x0 x1 x2 xf0 xf1 xf2
          cases hnl : nlT tk with
          | true =>
            have h6 : tk.kind = 6 ∧ tk.text = [10] := by unfold nlT at hnl; simpa using hnl
            have HREL : Hid (UsedAt wc gu (b.length + 1) (fun j => cov ((l ++ ns).take (k + 1)) j) ∧ endOf (l.take (k + 1)) = eo) := hide (by
              refine ⟨HUX.out.eq (fun j _ => ?_), ?_⟩
              · rw [HTAKE.out]
                unfold cov
                rw [List.any_append]
                have : covT tk j = false := by unfold covT; rw [hnl]; rfl
                simp [this]
              · rw [← HEO.out]
                by_cases hkl : k < l.length
                · have htk := HTK.out
                  rw [List.getElem_append_left hkl] at htk
                  rw [List.take_succ_eq_append_getElem hkl, htk, endOf_snoc, hnl]; rfl
                · rw [List.take_of_length_le (by omega), List.take_of_length_le (by omega)])
            rw [h6.1] at y0
            rw [h6.2] at y1
            have y0' : wc.cell? ⟨X', 0, none⟩ = some (.int .i64 6) := y0
            have y1' : wc.cell? ⟨X', 1, none⟩ = some (.string ⟨#[10]⟩) := y1
            clear y0 y1 h6 hnl
            go_wp2_with fail
            go_roundw
            case rel => exact ⟨_, rfl, k + 1, by omega, by go_num, by rw [HREL.out.2], HREL.out.1, HBX.out⟩
            case measure => simp [intOf]; omega
          | false =>
            have hmem : tk ∈ l ++ ns := by rw [← HTK.out]; exact List.getElem_mem _
            obtain ⟨hne, hle, hsl⟩ := HST.out.at_ tk hmem hnl
            obtain ⟨ps, hps⟩ : ∃ ps, tk.pos = ps := ⟨_, rfl⟩
            obtain ⟨sz, hsz⟩ : ∃ sz, tk.text.length = sz := ⟨_, rfl⟩
            have hsz1 : 1 ≤ sz := by rw [← hsz]; exact List.length_pos_iff.2 hne
            rw [hps, hsz] at hle hsl
            rw [hps] at y2
            rcases HV.out with ⟨A', c', hva, hb0⟩ | ⟨a, o, cap, hva, hcap, hcell⟩
            · exfalso; rw [hb0] at hle; simp at hle; omega
            injection hva with hA _ hcc
            subst hA hcc
            have hcv : (convert 22 9 (.slice (some ⟨a, o + ps, none⟩) sz (c - ps))).run Tryd.prog wc.drew = .ok (.string (bs tk.text)) wc.drew := by
              have := run_convert_bytes_back (P := Tryd.prog) wc.drew 22 9 5 ⟨a, o + ps, none⟩ (c - ps) tk.text Tryd.underlying22 Tryd.underlying5 Tryd.underlying9 (fun j hj => by
                have e : (⟨a, o + ps, none⟩ : Addr).add j = ⟨a, o + (ps + j), none⟩ := by unfold Addr.add; split <;> simp_all <;> omega
                have hj2 : ps + j < b.length := by omega
                have hc := hcell (ps + j) hj2
                have hx := ((HB2.out.trans (HBX.out.mono HB2.out.size)).cell (p := ⟨a, o + (ps + j), none⟩) (World.block_lt_of_cell? w _ hc)).trans hc
                have ht : tk.text[j]'hj = b[ps + j]'hj2 := by
                  have h1 : tk.text[j]? = b[ps + j]? := by
                    rw [← hsl, List.getElem?_take_of_lt (by omega), List.getElem?_drop]
                  rw [List.getElem?_eq_getElem hj, List.getElem?_eq_getElem hj2] at h1
                  injection h1
                rw [e, ht]; exact hx)
              rw [hsz] at this
              exact this
            have z1 := (bne_nil hne).2
            have z2 : ((bs tk.text).toList != (bs tk.text).toList) = false := by simp
            have hTs : (bs tk.text).size = sz := by rw [bs_size, hsz]
            have HNO : Hid (∀ j, ps ≤ j → j < ps + sz → cov ((l ++ ns).take k) j = false) := hide (by
              intro j h1 h2
              have hh := HST.out.once k hitem j
              rw [HTK.out] at hh
              refine hh ?_
              unfold covT
              rw [hnl, hps, hsz]
              simp; omega)
            have HCOV : Hid (∀ j, covT tk j = (decide (ps ≤ j) && decide (j < ps + sz))) := hide (by
              intro j
              unfold covT
              rw [hnl, hps, hsz]; rfl)
            have HEND : Hid (endOf (l.take (k + 1)) = if k < l.length then ps + sz else eo) := hide (by
              rw [← HEO.out]
              by_cases hkl : k < l.length
              · have htk := HTK.out
                rw [List.getElem_append_left hkl] at htk
                rw [List.take_succ_eq_append_getElem hkl, htk, endOf_snoc, hnl, if_pos hkl, hps, hsz]; rfl
              · rw [List.take_of_length_le (by omega), List.take_of_length_le (by omega), if_neg hkl])
            have p0 : (0 : Int) ≤ (ps : Int) := by omega
            have p1 : (ps : Int) + (sz : Int) ≤ (b.length : Int) := by omega
            have p2 : (b.length : Int) ≤ (c : Int) := by omega
            have p3 : (0 : Int) ≤ (sz : Int) := by omega
            have p4 : (ps : Int) ≤ (ps : Int) + (sz : Int) := by omega
            have p5 : (ps : Int) + (sz : Int) ≤ (c : Int) := by omega
            have w5 : IntKind.i64.wrap ((ps : Int) + (sz : Int)) = (ps : Int) + (sz : Int) := IntWalk.i64_in _ (by omega)
            have q5 : decide ((b.length : Int) < (ps : Int) + (sz : Int)) = false := decide_eq_false (by omega)
            have q6 : ¬ ((b.length : Int) < (ps : Int) + (sz : Int)) := by omega
            have q7 : ¬ ((ps : Int) < 0) := by omega
            have q9 : ¬ c = ps := by omega
            have w7 : ((ps : Int) + (sz : Int)).toNat - ps = sz := by omega
            have q8 : decide ((ps : Int) < 0) = false := decide_eq_false q7
            have h6 : tk.kind ≠ 6 ∨ (tk.kind = 6 ∧ tk.text ≠ [10]) := by
              by_cases h : tk.kind = 6
              · right
                refine ⟨h, fun e => ?_⟩
                unfold nlT at hnl
                rw [h, e] at hnl
                cases hnl
              · exact .inl h
            have HNE := hide hne; clear hne
            have HPS := hide hps
            clear hnl hsl hcell hmem hps
            obtain ⟨T, hT⟩ : ∃ T, bs tk.text = T := ⟨_, rfl⟩
            have HXR2 := hide (HXR.out)
            rw [hT] at y1 hcv z1 z2 hTs HXR2
            have hk6 : (((tk.kind : Int)) == 6) = false ∨ ((((tk.kind : Int)) == 6) = true ∧ (T.toList == [10]) = false) := by
              rcases h6 with h6 | ⟨h6, h7⟩
              · left; rw [beq_eq_false_iff_ne]; omega
              · right; refine ⟨by rw [h6]; rfl, ?_⟩
                rw [← hT, bs_toList]; simpa using h7
            clear h6 hT hsz HXR
            obtain ⟨kd, hkd⟩ : ∃ kd : Int, (tk.kind : Int) = kd := ⟨_, rfl⟩
            rw [hkd] at y0 hk6 HXR2
            clear hkd
            have HXR3 := hide HXR2.out; clear HXR2
            have HTS := hide hTs
            have hTi : (T.size : Int) = (sz : Int) := by omega
            clear hTs
            go_upto_region 18 with (fail)
            go_cut [88] from 52 to 152 (fun s wx => s = .bool false ∧ wx = wc)
            case first =>
              rcases hk6 with hk6 | ⟨hk6, hk7⟩
              all_goals
                go_wp2_with fail
                go_meet
                case rel => exact ⟨rfl, rfl⟩
            case rest =>
              obtain ⟨rfl, hwx⟩ := hcut
              rw [hwx]
              clear hwx hk6
              go_wp2_with fail
              go_still (by kernel_rfl)
              rw [drew_lit]
              go_wp2_with fail
              clear hcv z1 z2 q5 q6 q7 q8 q9 w7
              go_loopw [11] (fun s W' => ∃ W, W = W' ∧ ∃ j : Nat, ps ≤ j ∧ j ≤ ps + sz ∧ s = .int .i64 (j : Int) ∧ W.heap[X']? = some (.cells #[.int .i64 kd, .string T, .int .i64 (tk.pos : Int)] 29 (0, 0)) ∧ UsedAt W gu (b.length + 1) (fun i => cov ((l ++ ns).take k) i || (decide (ps ≤ i) && decide (i < j))) ∧ Below w2.heap.size w2 W) (fun s _ => ps + sz - (intOf s).toNat)
              case atStart =>
                exact ⟨_, rfl, ps, Nat.le_refl _, by omega, rfl, HXR3.out, HUX.out.eq (fun i _ => by simp; omega), HBX.out.drew⟩
              case round =>
                obtain ⟨V, rfl, j, hj1, hj2, rfl, hvx, hvu, hvb⟩ := hrel
                have hps2 := HPS.out
                have v1 : V.cell? ⟨X', 1, none⟩ = some (.string T) := cells_at hvx 1
                have v2 : V.cell? ⟨X', 2, none⟩ = some (.int .i64 (ps : Int)) := by rw [← hps2]; exact cells_at hvx 2
                have HVX := hide hvx; clear hvx
                have HVU := hide hvu; clear hvu
                have HVB := hide hvb; clear hvb
                clear hps2
                have j0 : (0 : Int) ≤ (j : Int) := by omega
                have j1 : (j : Int) ≤ 200000 := by omega
                have j2 : (j : Int) ≤ (ps : Int) + (sz : Int) := by omega
                by_cases hjl : j < ps + sz
                · have j3 : (j : Int) < (ps : Int) + (sz : Int) := by omega
                  have j4 : (j : Int) < (b.length : Int) + 1 := by omega
                  have hjb : j < b.length + 1 := by omega
                  have u0 : V.cell? ⟨gu, j, none⟩ = some (.bool false) := by
                    rw [HVU.out.cell j hjb, HNO.out j hj1 hjl]
                    simp
                  have uf := HVU.out.free j
                  have hset := HVU.out.set j hjb
                  have HVS : Hid (UsedAt (V.setCell ⟨gu, j, none⟩ (.bool true)) gu (b.length + 1) (fun i => cov ((l ++ ns).take k) i || (decide (ps ≤ i) && decide (i < j + 1)))) := hide (hset.eq (fun i _ => by
                    rw [Bool.or_assoc]
                    congr 1
                    rw [Bool.eq_iff_iff]
                    simp; omega))
                  have HVX2 : Hid ((V.setCell ⟨gu, j, none⟩ (.bool true)).heap[X']? = some (.cells #[.int .i64 kd, .string T, .int .i64 (tk.pos : Int)] 29 (0, 0))) := hide ((Below.heap_setCell _ _ _ _ (by show X' ≠ gu; omega)).trans HVX.out)
                  have HVB2 : Hid (Below w2.heap.size w2 (V.setCell ⟨gu, j, none⟩ (.bool true))) := hide (HVB.out.setCell (p := ⟨gu, j, none⟩) (by show w2.heap.size ≤ gu; rw [HGU.out]; exact Nat.le_refl _) _)
                  clear hset
                  go_wp2_with fail
                  go_roundw
                  case rel => exact ⟨_, rfl, j + 1, by omega, by omega, by go_num, HVX2.out, HVS.out, HVB2.out⟩
                  case measure => simp [intOf]; omega
                · have j3 : ¬ (j : Int) < (ps : Int) + (sz : Int) := by omega
                  have hjj : j = ps + sz := by omega
                  have HREL : Hid (UsedAt V gu (b.length + 1) (fun i => cov ((l ++ ns).take (k + 1)) i)) := hide (HVU.out.eq (fun i _ => by
                    rw [HTAKE.out, hjj]
                    unfold cov
                    rw [List.any_append]
                    simp only [List.any_cons, List.any_nil, Bool.or_false]
                    rw [HCOV.out i]))
                  clear hjj
                  by_cases hkl : k < l.length
                  · have hkl2 : (k : Int) < (l.length : Int) := by omega
                    have hend := HEND.out
                    rw [if_pos hkl] at hend
                    have HE := hide hend; clear hend
                    go_wp2_with fail
                    go_roundw
                    case rel => exact ⟨_, rfl, k + 1, by omega, by go_num, by rw [HE.out, Int.natCast_add], HREL.out, HVB.out⟩
                    case measure => simp [intOf]; omega
                  · have hkl2 : ¬ (k : Int) < (l.length : Int) := by omega
                    have hend := HEND.out
                    rw [if_neg hkl] at hend
                    have HE := hide hend; clear hend
                    go_wp2_with fail
                    go_roundw
                    case rel => exact ⟨_, rfl, k + 1, by omega, by go_num, by rw [HE.out], HREL.out, HVB.out⟩
                    case measure => simp [intOf]; omega
      · have hkk : k = (l ++ ns).length := by rw [List.length_append]; omega
        have hlt2 : ¬ (k : Int) < (l.length : Int) + (ns.length : Int) := by omega
        have HALL : Hid (UsedAt W gu (b.length + 1) (fun j => cov (l ++ ns) j)) := hide (by
          have := HU.out
          rw [hkk, List.take_length] at this
          exact this)
        clear hkk
        have HWB := hide (HB2.out.trans (HBL.out.mono HB2.out.size))
        go_wp2_with fail
        go_loopw [12] (fun s W' => W' = W ∧ ∃ j : Nat, j ≤ b.length ∧ s = .int .i64 (j : Int)) (fun s _ => b.length - (intOf s).toNat)
        case atStart => exact ⟨rfl, 0, Nat.zero_le _, rfl⟩
        case round =>
          obtain ⟨hw', j, hj, rfl⟩ := hrel
          rw [hw']
          clear hw'
          have j0 : (0 : Int) ≤ (j : Int) := by omega
          have j1 : (j : Int) ≤ 200000 := by omega
          by_cases hjl : j < b.length
          · have j2 : (j : Int) < (b.length : Int) := by omega
            have j3 : (j : Int) < (b.length : Int) + 1 := by omega
            have u0 := HALL.out.cell j (by omega)
            have hbl := HST.out.blank j hjl
            rcases HV.out with ⟨A', c', hva, hb0⟩ | ⟨a, o, cap, hva, hcap, hcell⟩
            · exfalso; rw [hb0] at hjl; simp at hjl
            injection hva with hA _ hcc
            subst hA hcc
            have hcj := hcell j hjl
            have hc0 := hcell 0 (by omega)
            have g0 : W.cell? ⟨a, o + j, none⟩ = some (.int .u8 ((b[j]'hjl).toNat : Int)) := (HWB.out.cell (p := ⟨a, o + j, none⟩) (World.block_lt_of_cell? w _ hcj)).trans hcj
            have g1 : W.cell? ⟨a, o, none⟩ = some (.int .u8 ((b[0]'(by omega)).toNat : Int)) := (HWB.out.cell (p := ⟨a, o, none⟩) (World.block_lt_of_cell? w _ hc0)).trans hc0
            have b0 : (0 : Int) < (b.length : Int) := by omega
            have hblank : cov (l ++ ns) j = true ∨ (b[j]'hjl) = 32 ∨ (b[j]'hjl) = 9 ∨ (b[j]'hjl) = 13 ∨ (b[j]'hjl) = 10 ∨ (j < 3 ∧ 3 ≤ b.length ∧ (b[0]'(by omega)) = 239) := by
              cases hcv : cov (l ++ ns) j with
              | true => exact .inl rfl
              | false =>
                right
                rcases hbl hcv with ⟨c1, hc1, hc2⟩ | ⟨h1, h2, h3⟩
                · rw [List.getElem?_eq_getElem hjl] at hc1
                  injection hc1 with hc1
                  rw [hc1]
                  rcases hc2 with h | h | h | h
                  · exact .inl h
                  · exact .inr (.inl h)
                  · exact .inr (.inr (.inl h))
                  · exact .inr (.inr (.inr (.inl h)))
                · rw [List.getElem?_eq_getElem (by omega)] at h3
                  injection h3 with h3
                  exact .inr (.inr (.inr (.inr ⟨h1, h2, h3⟩)))
            obtain ⟨d, hd⟩ : ∃ d, b[j]'hjl = d := ⟨_, rfl⟩
            obtain ⟨d0, hd0⟩ : ∃ d0, b[0]'(by omega) = d0 := ⟨_, rfl⟩
            rw [hd] at g0 hblank
            rw [hd0] at g1 hblank
            obtain ⟨u, hu⟩ : ∃ u, cov (l ++ ns) j = u := ⟨_, rfl⟩
            rw [hu] at u0 hblank
            clear hd hd0 hu hcj hc0 hcell hbl
            by_cases h32 : d = 32
            · have g0' : W.cell? ⟨a, o + j, none⟩ = some (.int .u8 32) := by rw [h32] at g0; exact g0
              clear g0 h32 hblank
              cases u
              all_goals
                go_wp2_with fail
                go_roundw
                case rel => exact ⟨trivial, j + 1, by omega, by go_num⟩
                case measure => simp [intOf]; omega
            by_cases h9 : d = 9
            · have g0' : W.cell? ⟨a, o + j, none⟩ = some (.int .u8 9) := by rw [h9] at g0; exact g0
              clear g0 h9 hblank
              cases u
              all_goals
                go_wp2_with fail
                go_roundw
                case rel => exact ⟨trivial, j + 1, by omega, by go_num⟩
                case measure => simp [intOf]; omega
            by_cases h13 : d = 13
            · have g0' : W.cell? ⟨a, o + j, none⟩ = some (.int .u8 13) := by rw [h13] at g0; exact g0
              clear g0 h13 hblank
              cases u
              all_goals
                go_wp2_with fail
                go_roundw
                case rel => exact ⟨trivial, j + 1, by omega, by go_num⟩
                case measure => simp [intOf]; omega
            by_cases h10 : d = 10
            · have g0' : W.cell? ⟨a, o + j, none⟩ = some (.int .u8 10) := by rw [h10] at g0; exact g0
              clear g0 h10 hblank
              cases u
              all_goals
                go_wp2_with fail
                go_roundw
                case rel => exact ⟨trivial, j + 1, by omega, by go_num⟩
                case measure => simp [intOf]; omega
            have e32 : (((d.toNat : Int)) == 32) = false := byte_int 32 32 h32
            have e9 : (((d.toNat : Int)) == 9) = false := byte_int 9 9 h9
            have e13 : (((d.toNat : Int)) == 13) = false := byte_int 13 13 h13
            have e10 : (((d.toNat : Int)) == 10) = false := byte_int 10 10 h10
            obtain ⟨dd, hdd⟩ : ∃ dd : Int, (d.toNat : Int) = dd := ⟨_, rfl⟩
            rw [hdd] at g0 e32 e9 e13 e10
            clear hdd
            have hb5 : u = true ∨ (j < 3 ∧ 3 ≤ b.length ∧ d0 = 239) := by
              rcases hblank with h | h | h | h | h | h
              · exact .inl h
              · exact absurd h h32
              · exact absurd h h9
              · exact absurd h h13
              · exact absurd h h10
              · exact .inr h
            clear hblank h32 h9 h13 h10
            by_cases k3 : (j : Int) < 3
            · have k3' : decide ((j : Int) < 3) = true := decide_eq_true k3
              by_cases k4 : (3 : Int) ≤ (b.length : Int)
              · have k4' : decide ((3 : Int) ≤ (b.length : Int)) = true := decide_eq_true k4
                by_cases k5 : d0 = 239
                · have g1' : W.cell? ⟨a, o, none⟩ = some (.int .u8 239) := by rw [k5] at g1; exact g1
                  clear g1 k5 hb5
                  cases u
                  all_goals
                    go_wp2_with fail
                    go_roundw
                    case rel => exact ⟨trivial, j + 1, by omega, by go_num⟩
                    case measure => simp [intOf]; omega
                · obtain rfl : u = true := by rcases hb5 with h | h; exact h; exact absurd h.2.2 k5
                  have e5 : (((d0.toNat : Int)) == 239) = false := byte_int 239 239 k5
                  obtain ⟨dd0, hdd0⟩ : ∃ dd0 : Int, (d0.toNat : Int) = dd0 := ⟨_, rfl⟩
                  rw [hdd0] at g1 e5
                  clear hdd0 k5 hb5
                  go_wp2_with fail
                  go_roundw
                  case rel => exact ⟨trivial, j + 1, by omega, by go_num⟩
                  case measure => simp [intOf]; omega
              · have k4' : decide ((3 : Int) ≤ (b.length : Int)) = false := decide_eq_false k4
                obtain rfl : u = true := by rcases hb5 with h | h; exact h; omega
                clear hb5
                go_wp2_with fail
                go_roundw
                case rel => exact ⟨trivial, j + 1, by omega, by go_num⟩
                case measure => simp [intOf]; omega
            · have k3' : decide ((j : Int) < 3) = false := decide_eq_false k3
              obtain rfl : u = true := by rcases hb5 with h | h; exact h; omega
              clear hb5
              go_wp2_with fail
              go_roundw
              case rel => exact ⟨trivial, j + 1, by omega, by go_num⟩
              case measure => simp [intOf]; omega
          · have hjj : j = b.length := by omega
            have j2 : ¬ (j : Int) < (b.length : Int) := by omega
            clear hjj
            go_wp2_with fail
            refine (awake_any W (Utf8Tabs_below HT.out HWB.out) (HM.out.below HWB.out h3) (Nat.le_trans h3 HWB.out.size)).mono ?_
            rintro e w9 ⟨rfl, hb9⟩
            have HB9 := hide hb9; clear hb9
            go_wp2_with fail
            go_ret
            exact ⟨rfl, HWB.out.trans (HB9.out.mono HWB.out.size)⟩
end Go.Proofs.YtehflgllfkkfoaaDoor
