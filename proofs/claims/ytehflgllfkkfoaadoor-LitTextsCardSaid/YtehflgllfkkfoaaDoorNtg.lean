/- Package lit: Text, where all is well. -/
import Derived.Test.YtehflgllfkkfoaaDoorNqg
import Derived.IntWalk
set_option linter.unusedVariables false
set_option linter.unusedSimpArgs false
namespace Go.Proofs.YtehflgllfkkfoaaDoor
open Go.RowKit Go.Proofs.Dm

/-- []byte(s) holds the bytes of s. -/
theorem bytes_made (W : World) (X : ByteArray) : BytesAt (Lib.bytesWorld W 5 X) (.slice (some ⟨W.heap.size, 0, none⟩) X.size (grownCap W X.size 0 5)) X.data.toList :=
  .inr ⟨W.heap.size, 0, _, by rw [size_data], by rw [← size_data]; exact grownCap_ge W X.size 0 _, fun j hj => by
    rw [show (0 : Nat) + j = j from by omega, Lib.bytesWorld_cell W _ X j (by rw [size_data]; exact hj)]
    have : X.data.toList.getD j 0 = X.data.toList[j]'hj := by rw [List.getD_eq_getElem?_getD, List.getElem?_eq_getElem hj]; rfl
    rw [this]⟩
set_option maxRecDepth 100000 in
set_option maxHeartbeats 12800000 in
theorem text_good (X : ByteArray) (body t : Bs) (hX : X.data.toList = 34 :: (body ++ [34])) (hl : X.size ≤ 65536) (hwl : wrongL X.data.toList.length X.data.toList 0 = none) (hg : GoodQ body t) (ht : t.length ≤ 100000) (w : World) (hT : Lib.Utf8Tabs 0 1 w) :
    Calls Tryd.prog 27 #[.string X] w fun e w' => e = .returned (.tuple #[.string (bs t), .int .i64 0]) ∧ Below w.heap.size w w' := by
  have HT := hide hT; clear hT
  have hz : X.size = body.length + 2 := by rw [size_data, hX]; simp
  obtain ⟨i0, e0⟩ := byte_at0 hX
  obtain ⟨m, hm⟩ : ∃ m, body.length + 1 = m := ⟨_, rfl⟩
  have i1 : m < X.size := by omega
  have e1 : X[m]'i1 = 34 := by
    have h1 : m < X.data.toList.length := by rw [← size_data]; exact i1
    have : X.data.toList[m]'h1 = 34 := by
      have h2 : X.data.toList[m]? = some 34 := by rw [hX, ← hm, List.getElem?_cons_succ, List.getElem?_append_right (Nat.le_refl _)]; simp
      rw [List.getElem?_eq_getElem h1] at h2
      injection h2
    exact this
  have hI : X.extract 1 m = bs body := by
    have : (X.extract 1 m).data.toList = body := by
      have h1 : (X.extract 1 m).data.toList = (X.data.toList.drop 1).take (m - 1) := by simp [ByteArray.extract, ByteArray.copySlice]
      rw [h1, hX, ← hm]; simp
    rw [← bs_of (X.extract 1 m), this]
  have hmi : (X.size : Int) - 1 = (m : Int) := by omega
  have hwr : IntKind.i64.wrap ((X.size : Int) - 1) = (m : Int) := by rw [hmi]; exact IntWalk.i64_in _ (by omega)
  have hwr2 : IntKind.i64.wrap (m : Int) = (m : Int) := IntWalk.i64_in _ (by omega)
  have z2 : (2 : Int) ≤ (X.size : Int) := by omega
  have z3 : (X.size : Int) ≤ 65536 := by omega
  have z1 : (1 : Int) ≤ (X.size : Int) := by omega
  have z0 : (0 : Int) < (X.size : Int) := by omega
  have m0 : (0 : Int) ≤ (m : Int) := by omega
  have m1 : (m : Int) < (X.size : Int) := by omega
  have m2 : (1 : Int) ≤ (m : Int) := by omega
  have m3 : (m : Int) ≤ (X.size : Int) := by omega
  have HQ := hide (quoted_good body t hg (by omega) ht)
  have hwi : wrongInt X.data.toList = -1 := wrongInt_none hwl
  have HWI := hide hwi
  have hcb : ∀ W : World, (convert 9 22 (.string X)).run Tryd.prog W = .ok (.slice (some ⟨W.heap.size, 0, none⟩) X.size (grownCap W X.size 0 5)) (Lib.bytesWorld W 5 X) := fun W =>
    Lib.run_convert_string_bytes (P := Tryd.prog) W 9 22 5 X Tryd.underlying9 Tryd.underlying22 Tryd.underlying5
  have HWR : Hid (∀ W : World, Lib.Utf8Tabs 0 1 W → Calls Tryd.prog 51 #[.slice (some ⟨W.heap.size, 0, none⟩) X.size (grownCap W X.size 0 5)] (Lib.bytesWorld W 5 X) fun e w' => e = .returned (.int .i64 (-1)) ∧ Below W.heap.size W w') := hide (fun W hW => by
    have hba := bytes_made W X
    have hbl : Below W.heap.size W (Lib.bytesWorld W 5 X) := Lib.bytesWorld_below W _ X
    refine (wrong_any _ _ X.data.toList hba (by rw [← size_data]; omega) (Utf8Tabs_below hW hbl)).mono ?_
    rw [HWI.out]
    rintro e w' ⟨rfl, hb⟩
    exact ⟨rfl, hbl.trans (hb.mono hbl.size)⟩)
  clear hX hl hwl hg ht hz hm hwi
  go_enter_defers Tryd.func27, Tryd.ntmps27
  go_wp2_with fail
  obtain ⟨h0, h1, h2, h3⟩ := alloc2 w (.string ⟨#[]⟩) (.int .i64 0) 9 24
  obtain ⟨w3, hw3⟩ : ∃ w3, (w.alloc (.cells #[.string ⟨#[]⟩] 9)).alloc (.cells #[.int .i64 0] 24) = w3 := ⟨_, rfl⟩
  rw [hw3] at h0 h1 h2 h3
  have H0 := hide h0
  have H1 := hide h1
  have H2 := hide h2
  have H3 := hide h3
  clear h0 h1 h2 h3
  rw [hw3]
  clear hw3
  go_still_tail 15, (by kernel_rfl)
  rw [drew_lit]
  go_wp2_with fail
  refine (HWR.out w3.drew (Utf8Tabs_below HT.out H3.out.drew)).mono ?_
  rintro e w4 ⟨rfl, hb4⟩
  have hw34 : w3.drew.heap.size = w3.heap.size := rfl
  have k0 := (hb4.block w.heap.size (by rw [hw34, H2.out]; omega)).trans H0.out
  have k1 := (hb4.block (w.heap.size + 1) (by rw [hw34, H2.out]; omega)).trans H1.out
  have hs4 : w3.heap.size ≤ w4.heap.size := hb4.size
  have HB4 := hide (H3.out.drew.trans (hb4.mono (by rw [hw34, H2.out]; omega)))
  have K0 := hide k0
  have K1 := hide k1
  have HS4 := hide hs4
  clear hb4 k0 k1 hw34 hs4
  go_wp2_with fail
  refine (need_ok _).mono ?_
  rintro e w' ⟨rfl, rfl⟩
  go_wp2_with fail
  refine (HQ.out w4).mono ?_
  rintro e w5 ⟨rfl, hb5⟩
  have k0 := (hb5.block w.heap.size (by have := HS4.out; have := H2.out; omega)).trans K0.out
  have k1 := (hb5.block (w.heap.size + 1) (by have := HS4.out; have := H2.out; omega)).trans K1.out
  have HB5 := hide (HB4.out.trans (hb5.mono (HB4.out.size)))
  have e0 : w5.cell? ⟨w.heap.size, 0, none⟩ = some (.string ⟨#[]⟩) := cells_at k0 0
  have e1 : w5.cell? ⟨w.heap.size + 1, 0, none⟩ = some (.int .i64 0) := cells_at k1 0
  have f0 := frozen_at k0 0
  have f1 := frozen_at k1 0
  clear k0 k1 hb5
  obtain ⟨n0, n1, n2⟩ := set2 e0 e1 (.string (bs t)) (.int .i64 0)
  obtain ⟨w9, hw9⟩ : ∃ w9, (w5.setCell ⟨w.heap.size, 0, none⟩ (.string (bs t))).setCell ⟨w.heap.size + 1, 0, none⟩ (.int .i64 0) = w9 := ⟨_, rfl⟩
  rw [hw9] at n0 n1 n2
  have N2 := hide n2; clear n2
  go_wp2_with fail
  refine leaves_cons (f := 49) (args := #[.pointer (some ⟨w.heap.size, 0, none⟩), .pointer (some ⟨w.heap.size + 1, 0, none⟩)]) (by simp) (by simp [go_sem]) ?_
  refine (text_idle _ _ w9).mono ?_
  rintro e u' w10 ⟨rfl, rfl, rfl⟩
  clear hw9
  simp [Leaves, settle, results, Tryd.results27, go_sem, n0, n1]
  exact HB5.out.trans N2.out
set_option maxRecDepth 100000 in
set_option maxHeartbeats 12800000 in
theorem part_hex (s : ByteArray) (r : Bs) (hs : s.data.toList = 120 :: r) (hl : s.size ≤ 90000) (h2 : 2 ≤ r.length) (hg : ∀ d ∈ r.take 2, digL d < 16) (w : World) :
    Calls Tryd.prog 63 #[.string s] w fun e w' => e = .returned (.tuple #[.string (bs [UInt8.ofNat (foldD 16 (r.take 2))]), .int .i64 3]) ∧ Below w.heap.size w w' := by
  obtain ⟨i0, e0⟩ := byte_at0 hs
  have j0 : (0 : Int) < (s.size : Int) := by omega
  have j1 : (1 : Int) ≤ (s.size : Int) := by omega
  have j2 : (s.size : Int) ≤ 90000 := by omega
  have e2 : s.toList.isEmpty = false := by rw [toList_bs, hs]; rfl
  have e3 : (s.toList == ([] : Bs)) = false := by rw [toList_bs, hs]; rfl
  have hd1 : s.data.toList.drop 1 = r := by rw [hs]; rfl
  obtain ⟨T, hT⟩ : ∃ T, s.extract 1 s.size = T := ⟨_, rfl⟩
  have hTl : T.data.toList = r := by rw [← hT, extract_from, hd1]; rfl
  have hTs : T.size = r.length := by rw [size_data, hTl]
  have hTz : T.size ≤ 90000 := by rw [hTs]; have := congrArg List.length hs; rw [← size_data] at this; simp at this; omega
  have hdg := fun w => digits_good T 2 16 (by omega) (by omega) (by omega) (by omega) (by rw [hTl]; exact hg) w
  rw [hTl] at hdg
  have hlt := foldD_lt 16 (Nat.le_refl _) _ hg 2 (by rw [List.length_take]; omega)
  obtain ⟨V, hV⟩ : ∃ V, foldD 16 (r.take 2) = V := ⟨_, rfl⟩
  rw [hV] at hdg hlt ⊢
  have HDG := hide hdg
  have v0 : (0 : Int) ≤ (V : Int) := by omega
  have v1 : (V : Int) ≤ 255 := by omega
  have hlk := look_single 120 rfl
  have hlk1 : ∀ w : World, (Instr.lookup 100 (.map (some w.heap.size)) (.int .u8 120) true).run Tryd.prog (w.drew.alloc (.map singles 9)) = _ := fun w => look_single 120 rfl w.drew
  have hlk2 : ∀ w : World, (Instr.lookup 100 (.map (some w.heap.size)) (.int .u8 120) true).run Tryd.prog (w.alloc (.map singles 9)).drew = _ := fun w => run_look (w := (w.alloc (.map singles 9)).drew) (heap_alloc_new w _) 120 rfl
  have hlk3 : ∀ w : World, (Instr.lookup 100 (.map (some w.heap.size)) (.int .u8 120) true).run Tryd.prog (w.drew.alloc (.map singles 9)).drew = _ := fun w => run_look (w := (w.drew.alloc (.map singles 9)).drew) (heap_alloc_new w.drew _) 120 rfl
  have hcv := one_byte V (by omega) (0, 0)
  clear hs hd1 hTl hTs hTz hdg hlt hg hV h2 hl
  go_enter Tryd.func63, Tryd.ntmps63
  go_wp2_with fail
  refine (need_ok _).mono ?_
  rintro e w' ⟨rfl, rfl⟩
  go_wp2_with fail
  go_region_with (go_at_call 81; refine (single_any _).mono ?_; rintro e w1 ⟨rfl, rfl⟩)
  all_goals (go_wp2_with fail)
  all_goals (refine (HDG.out _).mono ?_)
  all_goals (rintro e w2 ⟨rfl, hb2⟩)
  all_goals (have HB2 := hide hb2; clear hb2)
  all_goals (go_wp2_with fail)
  all_goals go_ret2
  all_goals (refine ⟨rfl, ?_⟩)
  all_goals exact (Below.trans (by first | exact (below_x w _).1 | exact (below_x w _).2.1 | exact (below_x w _).2.2.1 | exact (below_x w _).2.2.2) (HB2.out.mono (by first | exact (below_x w (.map singles 9)).1.size | exact (below_x w (.map singles 9)).2.1.size | exact (below_x w (.map singles 9)).2.2.2.size))).alloc (Nat.le_trans (below_x w (.map singles 9)).1.size HB2.out.size) _
theorem GoodQ.lie {r b t : Bs} {n : Nat} (hp : PartOk r b n) (hn : n ≤ r.length) (h : GoodQ (r.drop n) t) {s : Bs} (hs : s = 92 :: r) : GoodQ s (b ++ t) := by subst hs; exact .esc hp hn h
theorem hex_val : ∀ c : Fin 256, foldD 16 [hexD (c.val / 16), hexD (c.val % 16)] = c.val ∧ digL (hexD (c.val / 16)) < 16 ∧ digL (hexD (c.val % 16)) < 16 := by decide +kernel
theorem quoteC_good (c : UInt8) (r t : Bs) (hr : r.length ≤ 80000) (h : GoodQ r t) : GoodQ (quoteC c ++ r) (c :: t) := by
  have single : ∀ (a b : UInt8), singleL a = some b → GoodQ (92 :: a :: r) (b :: t) := fun a b hab =>
    GoodQ.esc (b := [b]) (n := 1) (fun w => part_single (bs (a :: r)) a b r rfl (by rw [size_data]; show (a :: r).length ≤ _; simp; omega) hab w) (by simp) h
  unfold quoteC
  split
  · rename_i h1
    rcases h1 with rfl | rfl
    · exact single 34 34 rfl
    · exact single 92 92 rfl
  split
  · rename_i h1; subst h1; exact single 110 10 rfl
  split
  · rename_i h1; subst h1; exact single 116 9 rfl
  split
  · rename_i h0 h1 h2 h3
    exact .chr (fun e => h0 (.inl e)) h1 (fun e => h0 (.inr e)) h
  · have hv := hex_val ⟨c.toNat, c.toNat_lt⟩
    refine GoodQ.esc (b := [c]) (n := 3) (r := 120 :: hexD (c.toNat / 16) :: hexD (c.toNat % 16) :: r) (fun w => ?_) (by simp) h
    have := part_hex (bs (120 :: hexD (c.toNat / 16) :: hexD (c.toNat % 16) :: r)) (hexD (c.toNat / 16) :: hexD (c.toNat % 16) :: r) rfl (by rw [size_data]; show (120 :: _).length ≤ _; simp; omega) (by simp) (fun d hd => by
      have hd' : d = hexD (c.toNat / 16) ∨ d = hexD (c.toNat % 16) := by simpa using hd
      rcases hd' with rfl | rfl
      · exact hv.2.1
      · exact hv.2.2) w
    have h2 : foldD 16 ((hexD (c.toNat / 16) :: hexD (c.toNat % 16) :: r).take 2) = c.toNat := hv.1
    rw [h2] at this
    rw [show UInt8.ofNat c.toNat = c from by simp] at this
    exact this
theorem quoteB_good : ∀ (s : Bs), s.length ≤ 20000 → GoodQ (quoteB s) s
  | [], _ => .nil
  | c :: s, h => by
    have h1 := quoteB_good s (by simp at h; omega)
    have h2 := quoteB_len s
    exact quoteC_good c (quoteB s) s (by simp at h; omega) h1
end Go.Proofs.YtehflgllfkkfoaaDoor
