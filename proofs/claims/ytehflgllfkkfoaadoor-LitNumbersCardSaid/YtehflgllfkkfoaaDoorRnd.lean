/- Package demoticref03: decimal. -/
import Derived.Test.YtehflgllfkkfoaaDoorRn
set_option linter.unusedVariables false
set_option linter.unusedSimpArgs false
namespace Go.Proofs.YtehflgllfkkfoaaDoor
open Go.RowKit Go.Proofs.Dm

/-- The row of figures of a number. -/
def rowL (v : Nat) : List Nat := if v = 0 then [0] else ldL v
theorem rowL_times (b : Nat) (hb : 0 < b) (v d : Nat) : timesL b (rowL v) d = rowL (v * b + d) := by
  unfold rowL
  rcases Nat.eq_zero_or_pos v with rfl | h
  · rw [if_pos rfl, Nat.zero_mul, Nat.zero_add]
    show (0 * b + d) % 10 :: ldL ((0 * b + d) / 10) = _
    rw [Nat.zero_mul, Nat.zero_add]
    rcases Nat.eq_zero_or_pos d with rfl | h
    · rfl
    · rw [if_neg (by omega), ldL_pos h]
  · have := Nat.mul_pos h hb
    rw [if_neg (by omega), if_neg (by omega), timesL_ld hb]
theorem rowL_lt (v : Nat) : ∀ x ∈ rowL v, x < 10 := by
  unfold rowL
  split
  · intro x hx; simp at hx; omega
  · exact ldL_lt v
theorem rowL_pos (v : Nat) : 0 < (rowL v).length := by
  unfold rowL
  split
  · simp
  · rename_i h; have := ldL_ne (n := v) (by omega); exact List.length_pos_iff.2 this
theorem rowL_len {b : Nat} (hb : 0 < b) (hb16 : b ≤ 16) (ds : List Nat) (h : ∀ d ∈ ds, d < b) (hl : ds.length ≤ 200) : (rowL (valL b ds)).length ≤ 242 := by
  unfold rowL
  split
  · simp
  · exact Nat.le_succ_of_le (val_len hb hb16 ds h hl)
theorem rowL_last (v : Nat) (h : 1 < (rowL v).length) : ∃ x, (rowL v)[(rowL v).length - 1]? = some x ∧ x ≠ 0 := by
  unfold rowL at h ⊢
  split at h
  · simp at h
  · rename_i h0
    rw [if_neg h0]
    obtain ⟨l, d, e, hd, _⟩ := ldL_last (n := v) (by omega)
    rw [e]
    exact ⟨d, by simp, by omega⟩
theorem rowL_dec (v : Nat) : decS v = (rowL v).reverse.map fig := by
  unfold decS rowL
  split <;> rfl
theorem irow_one (w : World) (x : Nat) : IRow w.heap.size (w.alloc (.cells #[.int .i64 (x : Int)] 3)) (some ⟨w.heap.size, 0, none⟩) 1 [x] :=
  ⟨rfl, .inr ⟨w.heap.size, 1, #[.int .i64 (x : Int)], rfl, Nat.le_refl _, heap_alloc_new w _, Nat.le_refl _, by simp [maxLen], rfl, rfl⟩⟩

set_option maxRecDepth 100000 in
set_option maxHeartbeats 51200000 in
theorem decimal_any (B0 : Nat) (w : World) (A : Option Addr) (c : Nat) (ds : List Nat) (b : Nat) (h : IRow B0 w A c ds) (hne : 0 < ds.length) (hl : ds.length ≤ 200) (hd : ∀ d ∈ ds, d < b) (hb0 : 0 < b) (hb : b ≤ 16) :
    Calls Tryd.prog 56 #[.slice A ds.length c, .int .i64 (b : Int)] w fun e w' => e = .returned (.string (bs (decS (valL b ds)))) ∧ Below w.heap.size w w' := by
  obtain ⟨g, rfl, hgc, _⟩ := h.form hne
  have HLC : Hid (∀ W : World, Below w.heap.size w W → ∀ j (hj : j < ds.length), W.cell? ⟨g, j, none⟩ = some (.int .i64 ((ds[j]'hj : Nat) : Int))) := hide (fun W hb j hj => by
    have h9 := h
    unfold IRow at h9
    have h8 := h9.cellAt j (by omega)
    rw [icells_get ds j hj] at h8
    exact (hb.cell (p := ⟨g, j, none⟩) (World.block_lt_of_cell? w _ h8)).trans h8)
  have HD := hide hd; clear hd h
  obtain ⟨i0, hi0, hz0, hz1, hz2⟩ := info_parts intInfo
  obtain ⟨b0, hb0', hy0, hy1, hy2⟩ := info_parts byteInfo
  obtain ⟨nd, hnd⟩ : ∃ nd, ds.length = nd := ⟨_, rfl⟩
  have HND := hide hnd
  rw [hnd] at hl hne hgc
  rw [hnd]
  clear hnd
  have nd0 : (nd : Int) ≤ 200 := by omega
  have nd1 : (0 : Int) < (nd : Int) := by omega
  have nd2 : (nd : Int) ≤ (c : Int) := by omega
  have bb0 : (0 : Int) ≤ (b : Int) := by omega
  have bb1 : (b : Int) ≤ 16 := by omega
  go_enter Tryd.func56, Tryd.ntmps56
  go_wp2_with fail
  go_loopw [5, 6] (fun s5 s6 W' => ∃ W, W = W' ∧ ∃ (i : Nat) (A1 : Option Addr) (c1 : Nat), i ≤ nd ∧ s6 = .int .i64 (i : Int) ∧ s5 = .slice A1 (rowL (valL b (ds.take i))).length c1 ∧ IRow w.heap.size W A1 c1 (rowL (valL b (ds.take i))) ∧ Below w.heap.size w W) (fun _ s6 _ => nd - (intOf s6).toNat)
  case atStart => exact ⟨_, rfl, 0, _, _, Nat.zero_le _, rfl, rfl, irow_one w 0, (Below.refl _ _).alloc (Nat.le_refl _) _⟩
  case round =>
    obtain ⟨W0, rfl, i, A1, c1, hi, rfl, rfl, hir, hbl0⟩ := hrel
    have HI0 := hide hir; clear hir
    have HBL0 := hide hbl0; clear hbl0
    have hxl := rowL_len hb0 hb (ds.take i) (fun d hd => HD.out d (List.mem_of_mem_take hd)) (by rw [List.length_take]; have := HND.out; omega)
    have hx10 := rowL_lt (valL b (ds.take i))
    have hxp := rowL_pos (valL b (ds.take i))
    have i1 : (0 : Int) ≤ (i : Int) := by omega
    by_cases hlt : i < nd
    · have i2 : (i : Int) < (nd : Int) := by omega
      have hid : i < ds.length := by rw [HND.out]; exact hlt
      have hcd := HLC.out W0 HBL0.out i hid
      obtain ⟨d, hdd⟩ : ∃ d, ds[i]'hid = d := ⟨_, rfl⟩
      have hdb : d < b := by rw [← hdd]; exact HD.out _ (List.getElem_mem hid)
      have hnx : valL b (ds.take (i + 1)) = valL b (ds.take i) * b + d := by rw [List.take_succ_eq_append_getElem hid, valL_snoc, hdd]
      rw [hdd] at hcd
      have hR := rowL_times b hb0 (valL b (ds.take i)) d
      rw [← hnx] at hR
      obtain ⟨xs, hxs⟩ : ∃ xs, rowL (valL b (ds.take i)) = xs := ⟨_, rfl⟩
      obtain ⟨R, hRR⟩ : ∃ R, rowL (valL b (ds.take (i + 1))) = R := ⟨_, rfl⟩
      rw [hxs] at hR HI0 hxl hx10 hxp
      rw [hxs]
      rw [hRR] at hR
      have HRR := hide hRR
      have HX := hide hx10
      have HR := hide hR
      obtain ⟨n, hn⟩ : ∃ n, xs.length = n := ⟨_, rfl⟩
      rw [hn] at hxl hxp
      rw [hn]
      have HN := hide hn
      have n0 : (n : Int) ≤ 242 := by omega
      have hm : d < 16 := by omega
      have HB00 : Hid (Below w.heap.size w W0) := HBL0
      have hWs : w.heap.size ≤ W0.heap.size := HBL0.out.size
      clear hn hR hx10 hRR hxs hnx hdd
      go_wp2_with fail
      go_loopw [7, 8] (fun s2 s11 W' => ∃ W, W = W' ∧ ∃ (k mk : Nat) (outs : List Nat), k ≤ n ∧ s11 = .int .i64 (k : Int) ∧ s2 = .int .i64 (mk : Int) ∧ mk < 16 ∧ outs.length = k ∧ W.ownsRow w.heap.size 3 1 (.slice A1 n c1) n (icells (outs ++ xs.drop k)) ∧ R = outs ++ timesL b (xs.drop k) mk ∧ Below w.heap.size w W) (fun _ s11 _ => n - (intOf s11).toNat)
      case atStart =>
        refine ⟨_, rfl, 0, d, [], Nat.zero_le _, rfl, rfl, hm, rfl, ?_, ?_, HB00.out⟩
        · have := HI0.out; unfold IRow at this; rw [HN.out] at this; exact this
        · rw [List.drop_zero, List.nil_append]; exact HR.out.symm
      case round =>
        obtain ⟨W, rfl, k, mk, outs, hk, rfl, rfl, hmk, hol, hown, hRk, hbl⟩ := hrel
        have HO := hide hown; clear hown
        have HK := hide hRk; clear hRk
        have HBL := hide hbl; clear hbl
        have HOL := hide hol; clear hol
        have k0 : (0 : Int) ≤ (k : Int) := by omega
        have mk0 : (mk : Int) < 16 := by omega
        by_cases hlt : k < n
        · have k1 : (k : Int) < (n : Int) := by omega
          have hkx : k < xs.length := by rw [HN.out]; exact hlt
          obtain ⟨g1, hA1, hgc1, hgb⟩ := HI0.out.form (by omega)
          subst hA1
          have hgc' : (n : Int) ≤ (c1 : Int) := by have := HN.out; omega
          have hdr := List.drop_eq_getElem_cons hkx
          obtain ⟨x, hx⟩ : ∃ x, xs[k]'hkx = x := ⟨_, rfl⟩
          rw [hx] at hdr
          have hx10 : x < 10 := by rw [← hx]; exact HX.out _ (List.getElem_mem _)
          clear hx
          have hc := HO.out.cellAt k (by omega)
          have hc2 : W.cell? ⟨g1, k, none⟩ = some (.int .i64 (x : Int)) := by
            rw [hc, hdr, icells_get _ k (by rw [List.length_append, List.length_cons, HOL.out]; omega)]
            congr 3
            rw [List.getElem_append_right (by rw [HOL.out]; exact Nat.le_refl _)]
            simp [HOL.out]
          clear hc
          have hfz := HO.out.frozenAt k
          obtain ⟨P, hP⟩ : ∃ P : Nat, (x : Int) * (b : Int) = (P : Int) := ⟨x * b, by push_cast; rfl⟩
          have hPb : (P : Int) ≤ 144 := by
            rw [← hP]
            have h1 : (x : Int) ≤ 9 := by omega
            have h2 : (x : Int) * (b : Int) ≤ 9 * (b : Int) := Int.mul_le_mul_of_nonneg_right h1 (by omega)
            omega
          obtain ⟨V, hV⟩ : ∃ V : Nat, (P : Int) + (mk : Int) = (V : Int) := ⟨P + mk, by push_cast; rfl⟩
          obtain ⟨r, hr⟩ : ∃ r : Nat, (V : Int) % 10 = (r : Int) := ⟨V % 10, by omega⟩
          obtain ⟨q, hq⟩ : ∃ q : Nat, (V : Int) / 10 = (q : Int) := ⟨V / 10, by omega⟩
          have hq16 : q < 16 := by omega
          have hVn : V = x * b + mk := by
            have : (P : Int) = ((x * b : Nat) : Int) := by rw [← hP]; push_cast; rfl
            omega
          have hrn : r = V % 10 := by omega
          have hqn : q = V / 10 := by omega
          have hst := HO.out.stored k (.int .i64 (r : Int))
          rw [hdr, icells_set outs _ x r k HOL.out.symm] at hst
          have HST := hide hst; clear hst
          have HK2 : Hid (R = (outs ++ [r]) ++ timesL b (xs.drop (k + 1)) q) := hide (by
            rw [HK.out, hdr, timesL, ← hVn, ← hrn, ← hqn, List.append_assoc]; rfl)
          have HB2 : Hid (Below w.heap.size w (W.setCell ⟨g1, k, none⟩ (.int .i64 (r : Int)))) := hide (HBL.out.setCell (p := ⟨g1, k, none⟩) hgb _)
          clear hdr hVn hrn hqn hgc1 hcd
          go_wp2_with fail
          go_roundw
          case rel => exact ⟨_, rfl, k + 1, q, outs ++ [r], by omega, by go_num, rfl, hq16, by rw [List.length_append, HOL.out]; rfl, HST.out.1, HK2.out, HB2.out⟩
          case measure => (simp [intOf]) <;> omega
        · have hkn : k = n := by omega
          have k1 : ¬ (k : Int) < (n : Int) := by omega
          have hd0 : xs.drop k = [] := List.drop_of_length_le (by rw [HN.out]; omega)
          have hown := HO.out
          have hRk := HK.out
          rw [hd0] at hown hRk
          rw [List.append_nil] at hown
          have hon : outs.length = n := by rw [HOL.out]; exact hkn
          have HO2 : Hid (IRow w.heap.size W A1 c1 outs) := hide (by unfold IRow; rw [hon]; exact hown)
          have HK2 : Hid (R = outs ++ ldL mk) := hide hRk
          have HON := hide hon
          clear hd0 hown hRk hkn hon hcd
          go_wp2_with fail
          go_loopw [5, 7] (fun s0 s2 W' => ∃ W2, W2 = W' ∧ ∃ (m2 : Nat) (ys : List Nat) (A2 : Option Addr) (c2 : Nat), s0 = .slice A2 ys.length c2 ∧ s2 = .int .i64 (m2 : Int) ∧ m2 < 16 ∧ ys.length + m2 ≤ n + 16 ∧ IRow w.heap.size W2 A2 c2 ys ∧ R = ys ++ ldL m2 ∧ Below w.heap.size w W2) (fun _ s2 _ => (intOf s2).toNat)
          case atStart => exact ⟨_, rfl, mk, outs, A1, c1, slice_len A1 c1 HON.out.symm, rfl, hmk, by rw [HON.out]; omega, HO2.out, HK2.out, HBL.out⟩
          case round =>
            obtain ⟨W2, rfl, m2, ys, A2, c2, rfl, rfl, hm2, hyl, hir, hR2, hb2⟩ := hrel
            have HI := hide hir; clear hir
            have HR2 := hide hR2; clear hR2
            have HB2 := hide hb2; clear hb2
            by_cases hpos : 0 < m2
            · have m1 : (0 : Int) < (m2 : Int) := by omega
              have m3 : (m2 : Int) < 16 := by omega
              obtain ⟨r, hr⟩ : ∃ r : Nat, (m2 : Int) % 10 = (r : Int) := ⟨m2 % 10, by omega⟩
              obtain ⟨q, hq⟩ : ∃ q : Nat, (m2 : Int) / 10 = (q : Int) := ⟨m2 / 10, by omega⟩
              have hrn : r = m2 % 10 := by omega
              have hqn : q = m2 / 10 := by omega
              have HK3 : Hid (R = (ys ++ [r]) ++ ldL q) := hide (by rw [HR2.out, ldL_pos hpos, ← hrn, ← hqn, List.append_assoc]; rfl)
              have hbs : w.heap.size ≤ W2.heap.size := HB2.out.size
              have hq1 : q + 1 ≤ m2 := by omega
              clear hrn hqn
              go_wp2_with ((at_builtin; refine wpList_append_lies _ rfl _ _ _ rfl w.heap.size 3 i0 _ 1 8 Tryd.underlying62 hi0 hz0 hz1 hz2 rfl (by omega) (.slice A2 ys.length c2) ys.length (icells ys) rfl (HI.out.alloc _) ⟨W2.heap.size, 0, none⟩ 1 1 [.int .i64 (r : Int)] rfl rfl (World.news_of_block (cs := #[.int .i64 (r : Int)]) (t := 3) (fr := (0, 0)) (heap_alloc_new W2 _)) (by simp [Value.oneCell']) (by omega) (by simp only [maxLen]; omega) (by omega) (by simp; omega) (W2.heap.size + 1) (by simp) ?_; intro gg cc w9 hown1 hgrow hat hlt9; have hg1 := grow_of0 hgrow))
              have HI2 : Hid (IRow w.heap.size w9 (some ⟨gg, 0, none⟩) cc (ys ++ [r])) := hide (by
                unfold IRow
                rw [List.length_append, List.length_singleton, icells_append]
                exact hown1)
              have HB3 : Hid (Below w.heap.size w w9) := hide (HB2.out.grown hg1 hbs (fun k hk => (own_lt' HI.out k hk).2))
              clear hown1 hgrow hat hlt9 hg1
              go_roundw
              case rel => exact ⟨_, rfl, q, ys ++ [r], _, _, by rw [List.length_append, List.length_singleton], rfl, by omega, by rw [List.length_append, List.length_singleton]; omega, HI2.out, HK3.out, HB3.out⟩
              case measure => (simp [intOf]) <;> omega
            · have m1 : ¬ (0 : Int) < (m2 : Int) := by omega
              have HK3 : Hid (ys = rowL (valL b (ds.take (i + 1)))) := hide (by
                obtain rfl : m2 = 0 := by omega
                rw [HRR.out, HR2.out, ldL_zero, List.append_nil])
              go_wp2_with fail
              go_roundw
              case rel => exact ⟨_, rfl, i + 1, A2, c2, by omega, by go_num, by rw [← HK3.out], by rw [← HK3.out]; exact HI.out, HB2.out⟩
              case measure => (simp [intOf]) <;> omega
    · have i2 : ¬ (i : Int) < (nd : Int) := by omega
      have hall : ds.take i = ds := List.take_of_length_le (by rw [HND.out]; omega)
      rw [hall] at HI0 hxl hx10 hxp
      rw [hall]
      have hlast := rowL_last (valL b ds)
      have hdec := rowL_dec (valL b ds)
      obtain ⟨vs, hvs⟩ : ∃ vs, rowL (valL b ds) = vs := ⟨_, rfl⟩
      rw [hvs] at HI0 hxl hx10 hxp hlast hdec
      rw [hvs]
      obtain ⟨nv, hnv⟩ : ∃ nv, vs.length = nv := ⟨_, rfl⟩
      rw [hnv] at hxl hxp hlast
      rw [hnv]
      have HNV := hide hnv
      have HDEC := hide hdec
      have HVL := hide hx10
      obtain ⟨g1, rfl, hgc1, hgb⟩ := HI0.out.form (by rw [HNV.out]; exact hxp)
      rw [hnv] at hgc1
      have hcase : ¬ (1 : Int) < (nv : Int) ∨ ((1 : Int) < (nv : Int) ∧ ∃ x : Nat, W0.cell? ⟨g1, nv - 1, none⟩ = some (.int .i64 (x : Int)) ∧ (((x : Int)) == 0) = false) := by
        by_cases h1 : 1 < nv
        · right
          refine ⟨by omega, ?_⟩
          obtain ⟨x, hx1, hx2⟩ := hlast h1
          refine ⟨x, ?_, by rw [beq_eq_false_iff_ne]; omega⟩
          have h9 := HI0.out
          unfold IRow at h9
          rw [h9.cellAt (nv - 1) (by rw [HNV.out]; omega)]
          unfold icells
          rw [List.getElem?_map, hx1]; rfl
        · left; omega
      clear hall hdec hnv hvs hlast hx10 hlt
      have nv1 : (0 : Int) < (nv : Int) := by omega
      have nv2 : (nv : Int) ≤ 242 := by omega
      have nv3 : (nv : Int) ≤ (c1 : Int) := by omega
      obtain ⟨mv, hmv⟩ : ∃ mv, nv - 1 = mv := ⟨_, rfl⟩
      have hmi : (nv : Int) - 1 = (mv : Int) := by omega
      rw [hmv] at hcase
      have mv0 : (0 : Int) ≤ (mv : Int) := by omega
      have mv1 : (mv : Int) < (nv : Int) := by omega
      clear hmv
      rcases hcase with q1 | ⟨q1, x, q2, q3⟩
      all_goals
        go_wp2_with fail
        go_loopw [5] (fun s5 W' => ∃ W, W = W' ∧ W = W0 ∧ s5 = .slice (some ⟨g1, 0, none⟩) nv c1) (fun _ _ => 0)
        case atStart => exact ⟨_, rfl, rfl, rfl⟩
        case round =>
          obtain ⟨W, rfl, rfl, rfl⟩ := hrel
          go_wp2_with fail
          go_loopw [10, 11] (fun s12 s13 W' => ∃ W3, W3 = W' ∧ ∃ (j : Nat) (A2 : Option Addr) (c2 : Nat), j ≤ nv ∧ s12 = .slice A2 (nv - j) c2 ∧ s13 = .int .i64 ((j : Int) - 1) ∧ W3.ownsRow W.heap.size 5 1 (.slice A2 (nv - j) c2) (nv - j) (bcells ((vs.drop j).reverse.map fig)) ∧ Below W.heap.size W W3) (fun _ s13 _ => (intOf s13 + 1).toNat)
          case atStart =>
            refine ⟨_, rfl, nv, none, 0, Nat.le_refl _, by rw [Nat.sub_self], by rw [hmi], ?_, Below.refl _ _⟩
            rw [Nat.sub_self, List.drop_of_length_le (by rw [HNV.out]; exact Nat.le_refl _)]
            exact own_none _ _ _ _
          case round =>
            obtain ⟨W3, rfl, j, A2, c2, hj, rfl, rfl, ho, hb3⟩ := hrel
            have HO := hide ho; clear ho
            have HB4 := hide hb3; clear hb3
            have j0 : (0 : Int) ≤ (j : Int) := by omega
            have j1 : (j : Int) ≤ 242 := by omega
            by_cases hj0 : 0 < j
            · obtain ⟨i, hi⟩ : ∃ i, j = i + 1 := ⟨j - 1, by omega⟩
              have hiv : i < vs.length := by rw [HNV.out]; omega
              have hc1 : W.cell? ⟨g1, i, none⟩ = some (.int .i64 ((vs[i]'hiv : Nat) : Int)) := by
                have h9 := HI0.out
                unfold IRow at h9
                rw [h9.cellAt i (by omega), icells_get vs i hiv]
              have hc2 := (HB4.out.cell (p := ⟨g1, i, none⟩) (World.block_lt_of_cell? W _ hc1)).trans hc1
              have hdr := List.drop_eq_getElem_cons hiv
              have hx10 := HVL.out _ (List.getElem_mem hiv)
              obtain ⟨x, hx⟩ : ∃ x, vs[i]'hiv = x := ⟨_, rfl⟩
              rw [hx] at hc2 hdr hx10
              have hrow : (vs.drop i).reverse.map fig = (vs.drop j).reverse.map fig ++ [fig x] := by rw [hdr, hi]; simp
              have hfx : ((fig x).toNat : Int) = 48 + (x : Int) := by
                unfold fig
                rw [UInt8.toNat_ofNat']; omega
              have HROW := hide hrow
              have HFX := hide hfx
              have ji : (j : Int) - 1 = (i : Int) := by omega
              have x0 : (0 : Int) ≤ (x : Int) := by omega
              have x9 : (x : Int) ≤ 9 := by omega
              have i0' : (0 : Int) ≤ (i : Int) := by omega
              have i1' : (i : Int) < (nv : Int) := by omega
              have hsz : W.heap.size ≤ W3.heap.size := HB4.out.size
              have hnj : nv - i = nv - j + 1 := by omega
              have HNJ := hide hnj
              have hji : i ≤ nv := by omega
              clear hc1 hdr hrow hfx hx hi hnj
              rw [ji]
              clear ji
              go_wp2_with ((at_builtin; refine wpList_append_lies _ rfl _ _ _ rfl W.heap.size 5 b0 _ 1 1 Tryd.underlying22 hb0' hy0 hy1 hy2 rfl (by omega) (.slice A2 (nv - j) c2) (nv - j) (bcells ((vs.drop j).reverse.map fig)) rfl (HO.out.alloc _) ⟨W3.heap.size, 0, none⟩ 1 1 [.int .u8 (48 + (x : Int))] rfl rfl (World.news_of_block (cs := #[.int .u8 (48 + (x : Int))]) (t := 5) (fr := (0, 0)) (heap_alloc_new W3 _)) (by simp [Value.oneCell']) (by omega) (by simp only [maxLen]; omega) (by omega) (by simp; omega) (W3.heap.size + 1) (by simp) ?_; intro gg cc w9 hown1 hgrow hat hlt9; have hg1 := grow_of0 hgrow))
              have HO9 : Hid (w9.ownsRow W.heap.size 5 1 (.slice (some ⟨gg, 0, none⟩) (nv - i) cc) (nv - i) (bcells ((vs.drop i).reverse.map fig))) := hide (by
                rw [HNJ.out, HROW.out, bcells_append]
                have : bcells [fig x] = [.int .u8 (48 + (x : Int))] := by unfold bcells; rw [List.map_cons, List.map_nil, HFX.out]
                rw [this]
                exact hown1)
              have HB9 : Hid (Below W.heap.size W w9) := hide (HB4.out.grown hg1 hsz (fun k hk => (own_lt' HO.out k hk).2))
              clear hown1 hgrow hat hlt9 hg1
              go_roundw
              case rel => exact ⟨_, rfl, i, _, _, hji, by rw [HNJ.out], rfl, HO9.out, HB9.out⟩
              case measure => (simp [intOf]) <;> omega
            · obtain rfl : j = 0 := by omega
              have ho := HO.out
              rw [List.drop_zero, Nat.sub_zero] at ho
              have hfin := HBL0.out.trans (HB4.out.mono HBL0.out.size)
              have HFIN := hide hfin; clear hfin
              rw [Nat.sub_zero]
              have hl9 : (vs.reverse.map fig).length = nv := by rw [List.length_map, List.length_reverse, HNV.out]
              have hby : BytesAt W3 (.slice A2 nv c2) (vs.reverse.map fig) := by
                have h9 := ho
                rw [← hl9] at h9 ⊢
                exact own_bytes h9
              have hcv := hby.cv
              rw [← HDEC.out] at hcv
              clear hby hl9 ho
              go_wp2_with fail
              go_ret
              exact ⟨rfl, HFIN.out⟩
end Go.Proofs.YtehflgllfkkfoaaDoor
