/- Package lit: Text, at any text of at most 500 bytes: whether it is well. -/
import Derived.Test.YtehflgllfkkfoaaDoorNqa
import Derived.Lib.Replace
import Derived.IntWalk
set_option linter.unusedVariables false
set_option linter.unusedSimpArgs false
namespace Go.Proofs.Dm
open Go.Lib

theorem index13_eq (l : Bs) : index (13 :: l) [13] = 0 := by unfold index; rfl
theorem index13_ne {c : UInt8} (h : c ≠ 13) (l : Bs) : index (c :: l) [13] = if index l [13] == -1 then -1 else index l [13] + 1 := by
  have h1 : ([13] : Bs).isPrefixOf (c :: l) = false := by
    simp only [List.isPrefixOf, Bool.and_eq_false_iff]
    left
    rw [beq_eq_false_iff_ne]
    exact fun e => h e.symm
  rw [index, h1]; rfl
theorem replace13_ne {c : UInt8} (h : c ≠ 13) : ∀ (k : Nat) (l : Bs), replaceK [13] [] k (c :: l) = c :: replaceK [13] [] k l
  | 0, l => rfl
  | k + 1, l => by
    rcases index_spec l [13] with ⟨hi, _⟩ | ⟨i, hi, _⟩
    · have e1 : index (c :: l) [13] = -1 := by rw [index13_ne h, hi]; rfl
      rw [replaceK, replaceK, e1, hi]; rfl
    · have hne : ((i : Int) == -1) = false := by rw [beq_eq_false_iff_ne]; omega
      have e1 : index (c :: l) [13] = ((i + 1 : Nat) : Int) := by rw [index13_ne h, hi, hne]; rfl
      rw [replaceK_hit _ _ _ _ _ e1, replaceK_hit _ _ _ _ _ hi]
      simp
theorem replace13 : ∀ l : Bs, replaceK [13] [] (l.count 13) l = l.filter (· ≠ 13)
  | [] => rfl
  | c :: l => by
    by_cases h : c = 13
    · subst h
      rw [List.count_cons_self, replaceK_hit _ _ _ _ 0 (index13_eq l)]
      simpa using replace13 l
    · rw [List.count_cons_of_ne h, replace13_ne h, replace13 l, List.filter_cons, if_pos (by simpa using h)]
theorem strip13 (l : Bs) : replaceAll l [13] [] = l.filter (· ≠ 13) := by
  unfold replaceAll replace replaceNum
  rw [if_neg (by decide), if_pos (.inl (by decide)), count_one]
  exact replace13 l
end Go.Proofs.Dm
namespace Go.Proofs.YtehflgllfkkfoaaDoor
open Go.RowKit Go.Proofs.Dm

set_option maxRecDepth 100000 in
set_option maxHeartbeats 3200000 in
theorem text_caught (x y : Nat) (w : World) (vx vy : Value) (hx : w.cell? ⟨x, 0, none⟩ = some vx) (hy : w.cell? ⟨y, 0, none⟩ = some vy)
    (fx : w.frozen? ⟨x, 0, none⟩ = false) (fy : w.frozen? ⟨y, 0, none⟩ = false) (hxy : ¬ x = y) :
    CallsD Tryd.prog 49 #[.pointer (some ⟨x, 0, none⟩), .pointer (some ⟨y, 0, none⟩)] (.panicking ({ v := .iface 66 (.agg #[]), recovered := false } :: [])) w fun e u' w' =>
      e = .returned (.tuple #[]) ∧ u' = .panicking ({ v := .iface 66 (.agg #[]), recovered := true } :: []) ∧ w' = ((w.setCell ⟨x, 0, none⟩ (.string ⟨#[]⟩)).setCell ⟨y, 0, none⟩ (.int .i64 4)).alloc (.cells #[] 66) := by
  have hta : ∀ w, (Instr.typeAssert (.iface 66 (.agg #[])) 20 66 true).run Tryd.prog w = .ok (.tuple #[.agg #[], .bool true]) w := fun _ => by kernel_rfl
  refine callsD_of_wpS Tryd.func49 rfl fun c₀ cs hu => ?_
  simp only [Tryd.ntmps49, List.size_toArray, List.length_cons, List.length_nil, Nat.reduceAdd, Nat.reduceSub, Array.replicate_succ, Array.replicate_zero, List.push_toArray, List.append_toArray, List.nil_append, List.cons_append]
  apply wpS_seq
  apply wpS_region
  simp [wpOpsS, go_sem, recoverD, hu, Exit.thenS]
  refine wpS_of_wp ?_
  have hxl := World.block_lt_of_cell? w _ hx
  have hyl := World.block_lt_of_cell? w _ hy
  go_wp2
  show bodyPostS Tryd.prog Tryd.f49 c₀ cs _ Exit.normal _ _ _
  cases c₀
  simp only at hu
  subst hu
  simp [bodyPostS, results, Tryd.results49]
/-- How Text ends, but for what a raw text means. -/
def TextRet (s : Bs) (w : World) (e : Ending) (w' : World) : Prop :=
  (match textL s with
  | .long => e = .returned (.tuple #[.string ⟨#[]⟩, .int .i64 12])
  | .bad => e = .returned (.tuple #[.string ⟨#[]⟩, .int .i64 4])
  | .ok t => e = .returned (.tuple #[.string (bs t), .int .i64 0])) ∧ Below w.heap.size w w'
theorem TextRet.bad {s : Bs} {w w' : World} (h : textL s = .bad) (hb : Below w.heap.size w w') : TextRet s w (.returned (.tuple #[.string ⟨#[]⟩, .int .i64 4])) w' := by
  unfold TextRet; rw [h]; exact ⟨rfl, hb⟩
theorem TextRet.good {s t : Bs} {w w' : World} (h : textL s = .ok t) (hb : Below w.heap.size w w') : TextRet s w (.returned (.tuple #[.string (bs t), .int .i64 0])) w' := by
  unfold TextRet; rw [h]; exact ⟨rfl, hb⟩
theorem caught_world {w w8 w9 : World} (x8 : w8.heap[w.heap.size]? = some (.cells #[.string ⟨#[]⟩] 9 (0, 0))) (y8 : w8.heap[w.heap.size + 1]? = some (.cells #[.int .i64 0] 24 (0, 0))) (b8 : Below w.heap.size w w8)
    (hw9 : w9 = ((w8.setCell ⟨w.heap.size, 0, none⟩ (.string ⟨#[]⟩)).setCell ⟨w.heap.size + 1, 0, none⟩ (.int .i64 4)).alloc (.cells #[] 66)) :
    w9.cell? ⟨w.heap.size, 0, none⟩ = some (.string ⟨#[]⟩) ∧ w9.cell? ⟨w.heap.size + 1, 0, none⟩ = some (.int .i64 4) ∧ Below w.heap.size w w9 := by
  obtain ⟨e0, e1, e2⟩ := set2 (H := w.heap.size) (cells_at x8 0) (cells_at y8 0) (.string ⟨#[]⟩) (.int .i64 4)
  have l0 := World.block_lt_of_cell? _ _ e0
  have l1 := World.block_lt_of_cell? _ _ e1
  have q0 := fun k h => Below.heap_alloc ((w8.setCell ⟨w.heap.size, 0, none⟩ (.string ⟨#[]⟩)).setCell ⟨w.heap.size + 1, 0, none⟩ (.int .i64 4)) (.cells #[] 66) k h
  subst hw9
  refine ⟨(World.cell?_of_block (q0 w.heap.size l0)).trans e0, (World.cell?_of_block (q0 (w.heap.size + 1) l1)).trans e1, ?_⟩
  have h1 := b8.trans e2
  exact h1.alloc h1.size _
theorem textL_two (S : Bs) (c : UInt8) (r : Bs) (hS : S = c :: r) (hl : S.length ≤ 65536) : (S.length < 2 → textL S = .bad) ∧ (S.head? ≠ S.getLast? → textL S = .bad) ∧ (wrongL S.length S 0 ≠ none → textL S = .bad) ∧
    (¬ S.length < 2 → S.head? = S.getLast? → wrongL S.length S 0 = none → textL S = if c = 34 then (match bodyQ r.length r.dropLast with | none => .bad | some t => .ok t) else if c = 96 then (if (96 : UInt8) ∈ r.dropLast then .bad else .ok (r.dropLast.filter (· ≠ 13))) else .bad) := by
  unfold textL
  rw [if_neg (by omega)]
  refine ⟨fun h => by rw [if_pos (.inl h)], fun h => by rw [if_pos (.inr (.inl h))], fun h => by rw [if_pos (.inr (.inr h))], fun h1 h2 h3 => ?_⟩
  rw [if_neg (by rintro (h | h | h); exact h1 h; exact h h2; exact h h3), hS]
  rfl
theorem index_byte (l : Bs) (c : UInt8) : (c ∈ l → 0 ≤ Lib.indexByte l c) ∧ (c ∉ l → Lib.indexByte l c = -1) := by
  induction l with
  | nil => exact ⟨(fun h => by cases h), fun _ => rfl⟩
  | cons b l ih =>
    unfold Lib.indexByte
    by_cases hb : b = c
    · subst hb
      refine ⟨fun _ => by simp, fun h => absurd (by simp) h⟩
    · have h1 : (b == c) = false := by rw [beq_eq_false_iff_ne]; exact hb
      rw [h1]
      simp only [Bool.false_eq_true, if_false]
      refine ⟨fun h => ?_, fun h => ?_⟩
      · have hm : c ∈ l := by
          rcases List.mem_cons.1 h with h | h
          · exact absurd h.symm hb
          · exact h
        have := ih.1 hm
        rw [if_neg (by rw [beq_iff_eq]; omega)]
        omega
      · rw [ih.2 (fun hm => h (List.mem_cons_of_mem _ hm))]; rfl
set_option maxRecDepth 100000 in
set_option maxHeartbeats 51200000 in
theorem text_any (X : ByteArray) (hl : X.size ≤ 500) (w : World) (hT : Lib.Utf8Tabs 0 1 w) (hM : MaxLenOk w) (h3 : 3 ≤ w.heap.size) :
    Calls Tryd.prog 27 #[.string X] w (TextRet X.data.toList w) := by
  have HT := hide hT; have HM := hide hM; have H3' := hide h3
  clear hT hM h3
  have hz := size_data X
  obtain ⟨S, hS⟩ : ∃ S, X.data.toList = S := ⟨_, rfl⟩
  rw [hS] at hz ⊢
  have x5 : (X.size : Int) ≤ 500 := by omega
  have hlong : ¬ (65536 : Int) < (X.size : Int) := by omega
  cases hSc : S with
  | nil =>
    have HE : Hid (textL [] = .bad) := hide (by decide)
    obtain rfl : X = ⟨#[]⟩ := by rw [← bs_of X, hS, hSc]; rfl
    clear hz hS hSc hl x5 hlong
    go_enter_defers Tryd.func27, Tryd.ntmps27
    go_wp2_with fail
    obtain ⟨h0, h1, hw2, h4⟩ := alloc2 w (.string ⟨#[]⟩) (.int .i64 0) 9 24
    obtain ⟨w3, hw3⟩ : ∃ w3, (w.alloc (.cells #[.string ⟨#[]⟩] 9)).alloc (.cells #[.int .i64 0] 24) = w3 := ⟨_, rfl⟩
    rw [hw3] at h0 h1 hw2 h4
    have H0 := hide h0
    have H1 := hide h1
    have H2 := hide hw2
    have H3 := hide h4
    clear h0 h1 hw2 h4
    rw [hw3]
    clear hw3
    refine wp_region_still_tail 15 (by kernel_rfl) (by kernel_rfl) ?_
    simp only [List.take_succ_cons, List.take_zero, List.drop_succ_cons, List.drop_zero]
    iterate 15 ((with_reducible refine wpStill_step (fun K hK => ?_)); go_simp; (with_reducible refine hK _ ?_); clear hK K)
    with_reducible refine wpStill_nil ?_
    rw [drew_lit]
    go_wp2_with fail
    refine (need_bad _).mono ?_
    rintro e w' ⟨rfl, rfl⟩
    refine leaves_cons (f := 49) (args := #[.pointer (some ⟨w.heap.size, 0, none⟩), .pointer (some ⟨w.heap.size + 1, 0, none⟩)]) (by simp) (by simp [go_sem]) ?_
    refine (text_caught w.heap.size (w.heap.size + 1) w3.drew _ _ (cells_at (H0.out) 0) (cells_at (H1.out) 0) (frozen_at (H0.out) 0) (frozen_at (H1.out) 0) (by omega)).mono ?_
    rintro e u' w9 ⟨rfl, rfl, hw9⟩
    obtain ⟨n0, n1, n2⟩ := caught_world (w8 := w3.drew) (H0.out) (H1.out) (H3.out.drew) hw9
    have N2 := hide n2
    clear hw9 n2
    simp [Leaves, settle, results, Tryd.results27, go_sem, n0, n1]
    exact TextRet.bad HE.out N2.out
  | cons c r =>
  rw [← hSc]
  obtain ⟨t1, t2, t3, t4⟩ := textL_two S c r hSc (by omega)
  by_cases h2 : S.length < 2
  · have HE := hide (t1 h2)
    have hr0 : r = [] := List.eq_nil_of_length_eq_zero (by rw [hSc, List.length_cons] at h2; omega)
    subst hr0
    obtain rfl : X = ⟨#[c]⟩ := by rw [← bs_of X, hS, hSc]; rfl
    clear hz hS hSc hl t1 t2 t3 t4 h2 x5 hlong
    go_enter_defers Tryd.func27, Tryd.ntmps27
    go_wp2_with fail
    obtain ⟨h0, h1, hw2, h4⟩ := alloc2 w (.string ⟨#[]⟩) (.int .i64 0) 9 24
    obtain ⟨w3, hw3⟩ : ∃ w3, (w.alloc (.cells #[.string ⟨#[]⟩] 9)).alloc (.cells #[.int .i64 0] 24) = w3 := ⟨_, rfl⟩
    rw [hw3] at h0 h1 hw2 h4
    have H0 := hide h0
    have H1 := hide h1
    have H2 := hide hw2
    have H3 := hide h4
    clear h0 h1 hw2 h4
    rw [hw3]
    clear hw3
    refine wp_region_still_tail 15 (by kernel_rfl) (by kernel_rfl) ?_
    simp only [List.take_succ_cons, List.take_zero, List.drop_succ_cons, List.drop_zero]
    iterate 15 ((with_reducible refine wpStill_step (fun K hK => ?_)); go_simp; (with_reducible refine hK _ ?_); clear hK K)
    with_reducible refine wpStill_nil ?_
    rw [drew_lit]
    go_wp2_with fail
    refine (need_bad _).mono ?_
    rintro e w' ⟨rfl, rfl⟩
    refine leaves_cons (f := 49) (args := #[.pointer (some ⟨w.heap.size, 0, none⟩), .pointer (some ⟨w.heap.size + 1, 0, none⟩)]) (by simp) (by simp [go_sem]) ?_
    refine (text_caught w.heap.size (w.heap.size + 1) w3.drew _ _ (cells_at (H0.out) 0) (cells_at (H1.out) 0) (frozen_at (H0.out) 0) (frozen_at (H1.out) 0) (by omega)).mono ?_
    rintro e u' w9 ⟨rfl, rfl, hw9⟩
    obtain ⟨n0, n1, n2⟩ := caught_world (w8 := w3.drew) (H0.out) (H1.out) (H3.out.drew) hw9
    have N2 := hide n2
    clear hw9 n2
    simp [Leaves, settle, results, Tryd.results27, go_sem, n0, n1]
    exact TextRet.bad HE.out N2.out
  obtain ⟨i0, e0⟩ := byte_at0 (s := X) (d := c) (r := r) (by rw [hS, hSc])
  obtain ⟨m, hm⟩ : ∃ m, X.size - 1 = m := ⟨_, rfl⟩
  have i1 : m < X.size := by omega
  obtain ⟨cl, e1⟩ : ∃ cl, X[m]'i1 = cl := ⟨_, rfl⟩
  have hlast : S.getLast? = some cl := by
    have h9 : S[m]'(by omega) = cl := by
      rw [← e1]
      have : X.data.toList[m]'(by rw [hS]; omega) = S[m]'(by omega) := by simp [hS]
      rw [← this]; rfl
    rw [List.getLast?_eq_getElem?, show S.length - 1 = m from by omega, List.getElem?_eq_getElem (by omega), h9]
  have hI : X.extract 1 m = bs r.dropLast := by
    have h8 : (X.extract 1 m).data.toList = r.dropLast := by
      have h1 : (X.extract 1 m).data.toList = (X.data.toList.drop 1).take (m - 1) := by simp [ByteArray.extract, ByteArray.copySlice]
      rw [h1, hS, hSc, List.dropLast_eq_take]
      have : S.length = r.length + 1 := by rw [hSc]; rfl
      rw [show m - 1 = r.length - 1 from by omega]; rfl
    rw [← bs_of (X.extract 1 m), h8]
  have hmi : (X.size : Int) - 1 = (m : Int) := by omega
  have hwr : IntKind.i64.wrap ((X.size : Int) - 1) = (m : Int) := by rw [hmi]; exact IntWalk.i64_in _ (by omega)
  have hwr2 : IntKind.i64.wrap (m : Int) = (m : Int) := IntWalk.i64_in _ (by omega)
  have z2 : (2 : Int) ≤ (X.size : Int) := by omega
  have z1 : (1 : Int) ≤ (X.size : Int) := by omega
  have z0 : (0 : Int) < (X.size : Int) := by omega
  have m0 : (0 : Int) ≤ (m : Int) := by omega
  have m1 : (m : Int) < (X.size : Int) := by omega
  have m2 : (1 : Int) ≤ (m : Int) := by omega
  have m3 : (m : Int) ≤ (X.size : Int) := by omega
  have hhead : S.head? = some c := by rw [hSc]; rfl
  by_cases hcc : ¬ c = cl
  · have HE := hide (t2 (by rw [hhead, hlast]; intro h; injection h with h; exact hcc h))
    have qcc : (((c.toNat : Int)) == (cl.toNat : Int)) = false := by
      rw [beq_eq_false_iff_ne]; intro h; exact hcc (UInt8.toNat_inj.1 (by omega))
    clear hz hS hSc hl t1 t2 t3 t4 h2 hlast hhead hcc hm
    go_enter_defers Tryd.func27, Tryd.ntmps27
    go_wp2_with fail
    obtain ⟨h0, h1, hw2, h4⟩ := alloc2 w (.string ⟨#[]⟩) (.int .i64 0) 9 24
    obtain ⟨w3, hw3⟩ : ∃ w3, (w.alloc (.cells #[.string ⟨#[]⟩] 9)).alloc (.cells #[.int .i64 0] 24) = w3 := ⟨_, rfl⟩
    rw [hw3] at h0 h1 hw2 h4
    have H0 := hide h0
    have H1 := hide h1
    have H2 := hide hw2
    have H3 := hide h4
    clear h0 h1 hw2 h4
    rw [hw3]
    clear hw3
    refine wp_region_still_tail 15 (by kernel_rfl) (by kernel_rfl) ?_
    simp only [List.take_succ_cons, List.take_zero, List.drop_succ_cons, List.drop_zero]
    iterate 15 ((with_reducible refine wpStill_step (fun K hK => ?_)); go_simp; (with_reducible refine hK _ ?_); clear hK K)
    with_reducible refine wpStill_nil ?_
    rw [drew_lit]
    go_wp2_with fail
    refine (need_bad _).mono ?_
    rintro e w' ⟨rfl, rfl⟩
    refine leaves_cons (f := 49) (args := #[.pointer (some ⟨w.heap.size, 0, none⟩), .pointer (some ⟨w.heap.size + 1, 0, none⟩)]) (by simp) (by simp [go_sem]) ?_
    refine (text_caught w.heap.size (w.heap.size + 1) w3.drew _ _ (cells_at (H0.out) 0) (cells_at (H1.out) 0) (frozen_at (H0.out) 0) (frozen_at (H1.out) 0) (by omega)).mono ?_
    rintro e u' w9 ⟨rfl, rfl, hw9⟩
    obtain ⟨n0, n1, n2⟩ := caught_world (w8 := w3.drew) (H0.out) (H1.out) (H3.out.drew) hw9
    have N2 := hide n2
    clear hw9 n2
    simp [Leaves, settle, results, Tryd.results27, go_sem, n0, n1]
    exact TextRet.bad HE.out N2.out
  have hcc : c = cl := Decidable.not_not.1 hcc
  subst hcc
  have hcb : ∀ W : World, (convert 9 22 (.string X)).run Tryd.prog W = .ok (.slice (some ⟨W.heap.size, 0, none⟩) X.size (grownCap W X.size 0 5)) (Lib.bytesWorld W 5 X) := fun W =>
    Lib.run_convert_string_bytes (P := Tryd.prog) W 9 22 5 X Tryd.underlying9 Tryd.underlying22 Tryd.underlying5
  have HWR : Hid (∀ W : World, Lib.Utf8Tabs 0 1 W → Calls Tryd.prog 51 #[.slice (some ⟨W.heap.size, 0, none⟩) X.size (grownCap W X.size 0 5)] (Lib.bytesWorld W 5 X) fun e w' => e = .returned (.int .i64 (wrongInt S)) ∧ Below W.heap.size W w') := hide (fun W hW => by
    have hba := bytes_made W X
    have hbl : Below W.heap.size W (Lib.bytesWorld W 5 X) := Lib.bytesWorld_below W _ X
    refine (wrong_any _ _ X.data.toList hba (by rw [← size_data]; omega) (Utf8Tabs_below hW hbl)).mono ?_
    rw [hS]
    rintro e w' ⟨rfl, hb⟩
    exact ⟨rfl, hbl.trans (hb.mono hbl.size)⟩)
  cases hwl : wrongL S.length S 0 with
  | some p =>
    have HE := hide (t3 (by rw [hwl]; simp))
    rw [wrongInt_some hwl] at HWR
    have p0 : ¬ (p : Int) < 0 := by omega
    clear hz hS hSc hl t1 t2 t3 t4 h2 hlast hhead hm hwl
    go_enter_defers Tryd.func27, Tryd.ntmps27
    go_wp2_with fail
    obtain ⟨h0, h1, hw2, h4⟩ := alloc2 w (.string ⟨#[]⟩) (.int .i64 0) 9 24
    obtain ⟨w3, hw3⟩ : ∃ w3, (w.alloc (.cells #[.string ⟨#[]⟩] 9)).alloc (.cells #[.int .i64 0] 24) = w3 := ⟨_, rfl⟩
    rw [hw3] at h0 h1 hw2 h4
    have H0 := hide h0
    have H1 := hide h1
    have H2 := hide hw2
    have H3 := hide h4
    clear h0 h1 hw2 h4
    rw [hw3]
    clear hw3
    go_still_tail 15, (by kernel_rfl)
    rw [drew_lit]
    go_wp2_with fail
    refine (HWR.out w3.drew (Utf8Tabs_below HT.out H3.out.drew)).mono ?_
    rintro e w4 ⟨rfl, hb4⟩
    have hw34 : w3.drew.heap.size = w3.heap.size := rfl
    have K0 := hide ((hb4.block w.heap.size (by rw [hw34, H2.out]; omega)).trans H0.out)
    have K1 := hide ((hb4.block (w.heap.size + 1) (by rw [hw34, H2.out]; omega)).trans H1.out)
    have HS4 : Hid (w3.heap.size ≤ w4.heap.size) := hide hb4.size
    have HB4 := hide (H3.out.drew.trans (hb4.mono (by rw [hw34, H2.out]; omega)))
    clear hb4 hw34
    go_wp2_with fail
    refine (need_bad _).mono ?_
    rintro e w' ⟨rfl, rfl⟩
    refine leaves_cons (f := 49) (args := #[.pointer (some ⟨w.heap.size, 0, none⟩), .pointer (some ⟨w.heap.size + 1, 0, none⟩)]) (by simp) (by simp [go_sem]) ?_
    refine (text_caught w.heap.size (w.heap.size + 1) w4 _ _ (cells_at (K0.out) 0) (cells_at (K1.out) 0) (frozen_at (K0.out) 0) (frozen_at (K1.out) 0) (by omega)).mono ?_
    rintro e u' w9 ⟨rfl, rfl, hw9⟩
    obtain ⟨n0, n1, n2⟩ := caught_world (w8 := w4) (K0.out) (K1.out) (HB4.out) hw9
    have N2 := hide n2
    clear hw9 n2
    simp [Leaves, settle, results, Tryd.results27, go_sem, n0, n1]
    exact TextRet.bad HE.out N2.out
  | none =>
  rw [wrongInt_none hwl] at HWR
  have ht := t4 h2 (by rw [hhead, hlast]) hwl
  have hrl : S.length = r.length + 1 := by rw [hSc]; rfl
  have hdl : r.dropLast.length = r.length - 1 := List.length_dropLast
  by_cases hc34 : c = 34
  · subst hc34
    rw [if_pos rfl] at ht
    have hbf : bodyQ r.length r.dropLast = bodyQ (r.dropLast.length + 1) r.dropLast := bodyQ_fuel r.dropLast.length _ _ _ (Nat.le_refl _) (by omega) (by omega)
    rw [hbf] at ht
    have hq := litquoted_any r.dropLast (by omega)
    cases hb : bodyQ (r.dropLast.length + 1) r.dropLast with
    | none =>
      rw [hb] at ht
      have HE := hide ht
      have HQ : Hid (∀ w, Calls Tryd.prog 52 #[.string (bs r.dropLast)] w fun e w' => e = .panicked litWrong ∧ Below w.heap.size w w') := hide (fun w => by have h9 := hq w; unfold QuotedEnd at h9; rw [hb] at h9; exact h9)
      clear hz hS hSc hl t1 t2 t3 t4 h2 hlast hhead hm hwl ht hrl hdl hbf hq hb
      go_enter_defers Tryd.func27, Tryd.ntmps27
      go_wp2_with fail
      obtain ⟨h0, h1, hw2, h4⟩ := alloc2 w (.string ⟨#[]⟩) (.int .i64 0) 9 24
      obtain ⟨w3, hw3⟩ : ∃ w3, (w.alloc (.cells #[.string ⟨#[]⟩] 9)).alloc (.cells #[.int .i64 0] 24) = w3 := ⟨_, rfl⟩
      rw [hw3] at h0 h1 hw2 h4
      have H0 := hide h0
      have H1 := hide h1
      have H2 := hide hw2
      have H3 := hide h4
      clear h0 h1 hw2 h4
      rw [hw3]
      clear hw3
      go_still_tail 15, (by kernel_rfl)
      rw [drew_lit]
      go_wp2_with fail
      refine (HWR.out w3.drew (Utf8Tabs_below HT.out H3.out.drew)).mono ?_
      rintro e w4 ⟨rfl, hb4⟩
      have hw34 : w3.drew.heap.size = w3.heap.size := rfl
      have K0 := hide ((hb4.block w.heap.size (by rw [hw34, H2.out]; omega)).trans H0.out)
      have K1 := hide ((hb4.block (w.heap.size + 1) (by rw [hw34, H2.out]; omega)).trans H1.out)
      have HS4 : Hid (w3.heap.size ≤ w4.heap.size) := hide hb4.size
      have HB4 := hide (H3.out.drew.trans (hb4.mono (by rw [hw34, H2.out]; omega)))
      clear hb4 hw34
      go_wp2_with fail
      refine (need_ok _).mono ?_
      rintro e w' ⟨rfl, rfl⟩
      go_wp2_with fail
      refine (HQ.out w4).mono ?_
      rintro e w5 ⟨rfl, hb5⟩
      have K05 := hide ((hb5.block w.heap.size (by have := HS4.out; have := H2.out; omega)).trans K0.out)
      have K15 := hide ((hb5.block (w.heap.size + 1) (by have := HS4.out; have := H2.out; omega)).trans K1.out)
      have HB5 := hide (HB4.out.trans (hb5.mono (HB4.out.size)))
      clear hb5
      refine leaves_cons (f := 49) (args := #[.pointer (some ⟨w.heap.size, 0, none⟩), .pointer (some ⟨w.heap.size + 1, 0, none⟩)]) (by simp) (by simp [go_sem]) ?_
      refine (text_caught w.heap.size (w.heap.size + 1) w5 _ _ (cells_at (K05.out) 0) (cells_at (K15.out) 0) (frozen_at (K05.out) 0) (frozen_at (K15.out) 0) (by omega)).mono ?_
      rintro e u' w9 ⟨rfl, rfl, hw9⟩
      obtain ⟨n0, n1, n2⟩ := caught_world (w8 := w5) (K05.out) (K15.out) (HB5.out) hw9
      have N2 := hide n2
      clear hw9 n2
      simp [Leaves, settle, results, Tryd.results27, go_sem, n0, n1]
      exact TextRet.bad HE.out N2.out
    | some t =>
      rw [hb] at ht
      have HE := hide ht
      have HQ : Hid (∀ w, Calls Tryd.prog 52 #[.string (bs r.dropLast)] w fun e w' => e = .returned (.string (bs t)) ∧ Below w.heap.size w w') := hide (fun w => by have h9 := hq w; unfold QuotedEnd at h9; rw [hb] at h9; exact h9)
      clear hz hS hSc hl t1 t2 t3 t4 h2 hlast hhead hm hwl ht hrl hdl hbf hq hb
      go_enter_defers Tryd.func27, Tryd.ntmps27
      go_wp2_with fail
      obtain ⟨h0, h1, hw2, h4⟩ := alloc2 w (.string ⟨#[]⟩) (.int .i64 0) 9 24
      obtain ⟨w3, hw3⟩ : ∃ w3, (w.alloc (.cells #[.string ⟨#[]⟩] 9)).alloc (.cells #[.int .i64 0] 24) = w3 := ⟨_, rfl⟩
      rw [hw3] at h0 h1 hw2 h4
      have H0 := hide h0
      have H1 := hide h1
      have H2 := hide hw2
      have H3 := hide h4
      clear h0 h1 hw2 h4
      rw [hw3]
      clear hw3
      go_still_tail 15, (by kernel_rfl)
      rw [drew_lit]
      go_wp2_with fail
      refine (HWR.out w3.drew (Utf8Tabs_below HT.out H3.out.drew)).mono ?_
      rintro e w4 ⟨rfl, hb4⟩
      have hw34 : w3.drew.heap.size = w3.heap.size := rfl
      have K0 := hide ((hb4.block w.heap.size (by rw [hw34, H2.out]; omega)).trans H0.out)
      have K1 := hide ((hb4.block (w.heap.size + 1) (by rw [hw34, H2.out]; omega)).trans H1.out)
      have HS4 : Hid (w3.heap.size ≤ w4.heap.size) := hide hb4.size
      have HB4 := hide (H3.out.drew.trans (hb4.mono (by rw [hw34, H2.out]; omega)))
      clear hb4 hw34
      go_wp2_with fail
      refine (need_ok _).mono ?_
      rintro e w' ⟨rfl, rfl⟩
      go_wp2_with fail
      refine (HQ.out w4).mono ?_
      rintro e w5 ⟨rfl, hb5⟩
      have K05 := hide ((hb5.block w.heap.size (by have := HS4.out; have := H2.out; omega)).trans K0.out)
      have K15 := hide ((hb5.block (w.heap.size + 1) (by have := HS4.out; have := H2.out; omega)).trans K1.out)
      have HB5 := hide (HB4.out.trans (hb5.mono (HB4.out.size)))
      clear hb5
      have e0' : w5.cell? ⟨w.heap.size, 0, none⟩ = some (.string ⟨#[]⟩) := cells_at K05.out 0
      have e1' : w5.cell? ⟨w.heap.size + 1, 0, none⟩ = some (.int .i64 0) := cells_at K15.out 0
      have f0 := frozen_at K05.out 0
      have f1 := frozen_at K15.out 0
      obtain ⟨n0, n1, n2⟩ := set2 e0' e1' (.string (bs t)) (.int .i64 0)
      obtain ⟨w9, hw9⟩ : ∃ w9, (w5.setCell ⟨w.heap.size, 0, none⟩ (.string (bs t))).setCell ⟨w.heap.size + 1, 0, none⟩ (.int .i64 0) = w9 := ⟨_, rfl⟩
      rw [hw9] at n0 n1 n2
      have N2 := hide n2; clear n2
      go_wp2_with fail
      refine leaves_cons (f := 49) (args := #[.pointer (some ⟨w.heap.size, 0, none⟩), .pointer (some ⟨w.heap.size + 1, 0, none⟩)]) (by simp) (by simp [go_sem]) ?_
      refine (text_idle _ _ w9).mono ?_
      rintro e u' w10 ⟨rfl, rfl, rfl⟩
      clear hw9
      simp [Leaves, settle, results, Tryd.results27, go_sem, n0, n1]
      exact TextRet.good HE.out (HB5.out.trans N2.out)
  · rw [if_neg hc34] at ht
    have q34 : (((c.toNat : Int)) == 34) = false := byte_eqF 34 34 hc34
    by_cases hc96 : c = 96
    · subst hc96
      rw [if_pos rfl] at ht
      have hix := index_byte r.dropLast 96
      have hib : ∀ w : World, Calls Tryd.prog 53 #[.string (bs r.dropLast), .int .u8 96] w fun e w' => e = .returned (.int .i64 (Lib.indexByte r.dropLast 96)) ∧ w = w' := fun w => (Tryd.strings_IndexByte (bs r.dropLast) 96 w).mono fun e w' h => ⟨h.1, h.2.symm⟩
      by_cases hmem : (96 : UInt8) ∈ r.dropLast
      · rw [if_pos hmem] at ht
        have HE := hide ht
        obtain ⟨ix, hixx⟩ : ∃ ix, Lib.indexByte r.dropLast 96 = ix := ⟨_, rfl⟩
        have ix0 : ¬ ix < 0 := by rw [← hixx]; have := hix.1 hmem; omega
        have ixb : decide (ix < 0) = false := decide_eq_false ix0
        rw [hixx] at hib
        have HIB := hide hib
        clear hz hS hSc hl t1 t2 t3 t4 h2 hlast hhead hm hwl ht hrl hdl hix hib hmem hixx
        go_enter_defers Tryd.func27, Tryd.ntmps27
        go_wp2_with fail
        obtain ⟨h0, h1, hw2, h4⟩ := alloc2 w (.string ⟨#[]⟩) (.int .i64 0) 9 24
        obtain ⟨w3, hw3⟩ : ∃ w3, (w.alloc (.cells #[.string ⟨#[]⟩] 9)).alloc (.cells #[.int .i64 0] 24) = w3 := ⟨_, rfl⟩
        rw [hw3] at h0 h1 hw2 h4
        have H0 := hide h0
        have H1 := hide h1
        have H2 := hide hw2
        have H3 := hide h4
        clear h0 h1 hw2 h4
        rw [hw3]
        clear hw3
        go_still_tail 15, (by kernel_rfl)
        rw [drew_lit]
        go_wp2_with fail
        refine (HWR.out w3.drew (Utf8Tabs_below HT.out H3.out.drew)).mono ?_
        rintro e w4 ⟨rfl, hb4⟩
        have hw34 : w3.drew.heap.size = w3.heap.size := rfl
        have K0 := hide ((hb4.block w.heap.size (by rw [hw34, H2.out]; omega)).trans H0.out)
        have K1 := hide ((hb4.block (w.heap.size + 1) (by rw [hw34, H2.out]; omega)).trans H1.out)
        have HS4 : Hid (w3.heap.size ≤ w4.heap.size) := hide hb4.size
        have HB4 := hide (H3.out.drew.trans (hb4.mono (by rw [hw34, H2.out]; omega)))
        clear hb4 hw34
        go_wp2_with fail
        refine (need_ok _).mono ?_
        rintro e w' ⟨rfl, rfl⟩
        go_wp2_with fail
        refine (HIB.out w4).mono ?_
        rintro e w' ⟨rfl, rfl⟩
        go_wp2_with fail
        refine (need_bad _).mono ?_
        rintro e w' ⟨rfl, rfl⟩
        refine leaves_cons (f := 49) (args := #[.pointer (some ⟨w.heap.size, 0, none⟩), .pointer (some ⟨w.heap.size + 1, 0, none⟩)]) (by simp) (by simp [go_sem]) ?_
        refine (text_caught w.heap.size (w.heap.size + 1) w4 _ _ (cells_at (K0.out) 0) (cells_at (K1.out) 0) (frozen_at (K0.out) 0) (frozen_at (K1.out) 0) (by omega)).mono ?_
        rintro e u' w9 ⟨rfl, rfl, hw9⟩
        obtain ⟨n0, n1, n2⟩ := caught_world (w8 := w4) (K0.out) (K1.out) (HB4.out) hw9
        have N2 := hide n2
        clear hw9 n2
        simp [Leaves, settle, results, Tryd.results27, go_sem, n0, n1]
        exact TextRet.bad HE.out N2.out
      · rw [if_neg hmem] at ht
        have HE := hide ht
        rw [hix.2 hmem] at hib
        have HIB := hide hib
        obtain ⟨T, hT⟩ : ∃ T, r.dropLast.filter (· ≠ 13) = T := ⟨_, rfl⟩
        have HRA : Hid (∀ W : World, Below w.heap.size w W → Calls Tryd.prog 54 #[.string (bs r.dropLast), .string ⟨#[13]⟩, .string ⟨#[]⟩] W fun e w' => e = .returned (.string (bs T)) ∧ Below W.heap.size W w') := hide (fun W hb => by
          obtain ⟨mm, hmm⟩ := HM.out.below hb H3'.out
          have h9 := Tryd.strings_ReplaceAll (bs r.dropLast) ⟨#[13]⟩ ⟨#[]⟩ mm W (by rw [size_data]; show r.dropLast.length < _; omega) hmm (by decide) (by rw [size_data]; show r.dropLast.length + _ * 0 ≤ _; omega)
          have h10 : (⟨(Lib.replaceAll (bs r.dropLast).data.toList (⟨#[13]⟩ : ByteArray).data.toList (⟨#[]⟩ : ByteArray).data.toList).toArray⟩ : ByteArray) = bs T := by rw [← hT, ← strip13]; rfl
          rw [h10] at h9
          exact h9)
        rw [hT] at HE
        clear hz hS hSc hl t1 t2 t3 t4 h2 hlast hhead hm hwl ht hrl hdl hix hib hmem hT
        go_enter_defers Tryd.func27, Tryd.ntmps27
        go_wp2_with fail
        obtain ⟨h0, h1, hw2, h4⟩ := alloc2 w (.string ⟨#[]⟩) (.int .i64 0) 9 24
        obtain ⟨w3, hw3⟩ : ∃ w3, (w.alloc (.cells #[.string ⟨#[]⟩] 9)).alloc (.cells #[.int .i64 0] 24) = w3 := ⟨_, rfl⟩
        rw [hw3] at h0 h1 hw2 h4
        have H0 := hide h0
        have H1 := hide h1
        have H2 := hide hw2
        have H3 := hide h4
        clear h0 h1 hw2 h4
        rw [hw3]
        clear hw3
        go_still_tail 15, (by kernel_rfl)
        rw [drew_lit]
        go_wp2_with fail
        refine (HWR.out w3.drew (Utf8Tabs_below HT.out H3.out.drew)).mono ?_
        rintro e w4 ⟨rfl, hb4⟩
        have hw34 : w3.drew.heap.size = w3.heap.size := rfl
        have K0 := hide ((hb4.block w.heap.size (by rw [hw34, H2.out]; omega)).trans H0.out)
        have K1 := hide ((hb4.block (w.heap.size + 1) (by rw [hw34, H2.out]; omega)).trans H1.out)
        have HS4 : Hid (w3.heap.size ≤ w4.heap.size) := hide hb4.size
        have HB4 := hide (H3.out.drew.trans (hb4.mono (by rw [hw34, H2.out]; omega)))
        clear hb4 hw34
        go_wp2_with fail
        refine (need_ok _).mono ?_
        rintro e w' ⟨rfl, rfl⟩
        go_wp2_with fail
        refine (HIB.out w4).mono ?_
        rintro e w' ⟨rfl, rfl⟩
        go_wp2_with fail
        refine (need_ok _).mono ?_
        rintro e w' ⟨rfl, rfl⟩
        go_wp2_with fail
        refine (HRA.out w4 HB4.out).mono ?_
        rintro e w5 ⟨rfl, hb5⟩
        have K05 := hide ((hb5.block w.heap.size (by have := HS4.out; have := H2.out; omega)).trans K0.out)
        have K15 := hide ((hb5.block (w.heap.size + 1) (by have := HS4.out; have := H2.out; omega)).trans K1.out)
        have HB5 := hide (HB4.out.trans (hb5.mono (HB4.out.size)))
        clear hb5
        have e0' : w5.cell? ⟨w.heap.size, 0, none⟩ = some (.string ⟨#[]⟩) := cells_at K05.out 0
        have e1' : w5.cell? ⟨w.heap.size + 1, 0, none⟩ = some (.int .i64 0) := cells_at K15.out 0
        have f0 := frozen_at K05.out 0
        have f1 := frozen_at K15.out 0
        obtain ⟨n0, n1, n2⟩ := set2 e0' e1' (.string (bs T)) (.int .i64 0)
        obtain ⟨w9, hw9⟩ : ∃ w9, (w5.setCell ⟨w.heap.size, 0, none⟩ (.string (bs T))).setCell ⟨w.heap.size + 1, 0, none⟩ (.int .i64 0) = w9 := ⟨_, rfl⟩
        rw [hw9] at n0 n1 n2
        have N2 := hide n2; clear n2
        go_wp2_with fail
        refine leaves_cons (f := 49) (args := #[.pointer (some ⟨w.heap.size, 0, none⟩), .pointer (some ⟨w.heap.size + 1, 0, none⟩)]) (by simp) (by simp [go_sem]) ?_
        refine (text_idle _ _ w9).mono ?_
        rintro e u' w10 ⟨rfl, rfl, rfl⟩
        clear hw9
        simp [Leaves, settle, results, Tryd.results27, go_sem, n0, n1]
        exact TextRet.good HE.out (HB5.out.trans N2.out)
    · rw [if_neg hc96] at ht
      have HE := hide ht
      have q96 : (((c.toNat : Int)) == 96) = false := byte_eqF 96 96 hc96
      clear hz hS hSc hl t1 t2 t3 t4 h2 hlast hhead hm hwl ht hrl hdl hc34 hc96
      go_enter_defers Tryd.func27, Tryd.ntmps27
      go_wp2_with fail
      obtain ⟨h0, h1, hw2, h4⟩ := alloc2 w (.string ⟨#[]⟩) (.int .i64 0) 9 24
      obtain ⟨w3, hw3⟩ : ∃ w3, (w.alloc (.cells #[.string ⟨#[]⟩] 9)).alloc (.cells #[.int .i64 0] 24) = w3 := ⟨_, rfl⟩
      rw [hw3] at h0 h1 hw2 h4
      have H0 := hide h0
      have H1 := hide h1
      have H2 := hide hw2
      have H3 := hide h4
      clear h0 h1 hw2 h4
      rw [hw3]
      clear hw3
      go_still_tail 15, (by kernel_rfl)
      rw [drew_lit]
      go_wp2_with fail
      refine (HWR.out w3.drew (Utf8Tabs_below HT.out H3.out.drew)).mono ?_
      rintro e w4 ⟨rfl, hb4⟩
      have hw34 : w3.drew.heap.size = w3.heap.size := rfl
      have K0 := hide ((hb4.block w.heap.size (by rw [hw34, H2.out]; omega)).trans H0.out)
      have K1 := hide ((hb4.block (w.heap.size + 1) (by rw [hw34, H2.out]; omega)).trans H1.out)
      have HS4 : Hid (w3.heap.size ≤ w4.heap.size) := hide hb4.size
      have HB4 := hide (H3.out.drew.trans (hb4.mono (by rw [hw34, H2.out]; omega)))
      clear hb4 hw34
      go_wp2_with fail
      refine (need_ok _).mono ?_
      rintro e w' ⟨rfl, rfl⟩
      have e0' : w4.cell? ⟨w.heap.size, 0, none⟩ = some (.string ⟨#[]⟩) := cells_at K0.out 0
      have e1' : w4.cell? ⟨w.heap.size + 1, 0, none⟩ = some (.int .i64 0) := cells_at K1.out 0
      have f0 := frozen_at K0.out 0
      have f1 := frozen_at K1.out 0
      obtain ⟨n0, n1, n2⟩ := set2 e0' e1' (.string ⟨#[]⟩) (.int .i64 4)
      obtain ⟨w9, hw9⟩ : ∃ w9, (w4.setCell ⟨w.heap.size, 0, none⟩ (.string ⟨#[]⟩)).setCell ⟨w.heap.size + 1, 0, none⟩ (.int .i64 4) = w9 := ⟨_, rfl⟩
      rw [hw9] at n0 n1 n2
      have N2 := hide n2; clear n2
      go_wp2_with fail
      refine leaves_cons (f := 49) (args := #[.pointer (some ⟨w.heap.size, 0, none⟩), .pointer (some ⟨w.heap.size + 1, 0, none⟩)]) (by simp) (by simp [go_sem]) ?_
      refine (text_idle _ _ w9).mono ?_
      rintro e u' w10 ⟨rfl, rfl, rfl⟩
      clear hw9
      simp [Leaves, settle, results, Tryd.results27, go_sem, n0, n1]
      exact TextRet.bad HE.out (HB4.out.trans N2.out)
end Go.Proofs.YtehflgllfkkfoaaDoor
