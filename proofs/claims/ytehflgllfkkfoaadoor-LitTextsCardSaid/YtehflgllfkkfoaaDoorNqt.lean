/- Package lit: Quote. -/
import Derived.Test.YtehflgllfkkfoaaDoorNo
import Derived.Test.YtehflgllfkkfoaaDoorTq
import Derived.Lib.AppendStr
import Derived.StillTailTactics
set_option linter.unusedVariables false
set_option linter.unusedSimpArgs false
namespace Go.Proofs.YtehflgllfkkfoaaDoor
open Go.RowKit Go.Proofs.Dm

theorem own_one (w : World) (c : Int) : (w.alloc (.cells #[.int .u8 c] 5)).ownsRow w.heap.size 5 1 (.slice (some ⟨w.heap.size, 0, none⟩) 1 1) 1 [.int .u8 c] :=
  ⟨rfl, .inr ⟨w.heap.size, 1, #[.int .u8 c], rfl, Nat.le_refl _, heap_alloc_new w _, by decide, by decide, rfl, rfl⟩⟩
theorem own_end {w : World} {base g c nq : Nat} {Q : Bs} (hq : Q.length = nq) (h : w.ownsRow base 5 1 (.slice (some ⟨g, 0, none⟩) (nq + 1) c) (nq + 1) (bcells Q ++ [.int .u8 34])) :
    (convert 22 9 (.slice (some ⟨g, 0, none⟩) (nq + 1) c)).run Tryd.prog w = .ok (.string (bs (Q ++ [34]))) w := by
  have h1 : (Q ++ [34]).length = nq + 1 := by rw [List.length_append, hq]; rfl
  have h2 : bcells (Q ++ [34]) = bcells Q ++ [.int .u8 34] := by rw [bcells_append]; rfl
  rw [← h1, ← h2] at h
  rw [← h1]
  exact (own_bytes h).cv
theorem quoteB_snoc (l : Bs) (d : UInt8) : quoteB (l ++ [d]) = quoteB l ++ quoteC d := by simp [quoteB]
def hexes : Array UInt8 := #[48, 49, 50, 51, 52, 53, 54, 55, 56, 57, 97, 98, 99, 100, 101, 102]
theorem hex_at : ∀ a : Fin 16, (⟨hexes⟩ : ByteArray)[a.val]'a.isLt = hexD a.val := by decide
theorem and15 : ∀ c : Fin 256, bits BinOp.and IntKind.u8 ((c.val : Nat) : Int) 15 = ((c.val % 16 : Nat) : Int) := by decide +kernel
set_option maxRecDepth 100000 in
set_option maxHeartbeats 25600000 in
theorem Quote_any (s : ByteArray) (hs : s.size ≤ 20000) (w : World) :
    Calls Tryd.prog 33 #[.string s] w fun e w' => e = .returned (.string (bs (quoteL s.data.toList))) ∧ Below w.heap.size w w' := by
  have hsz := size_data s
  obtain ⟨S, hS⟩ : ∃ S, s.data.toList = S := ⟨_, rfl⟩
  rw [hS] at hsz ⊢
  have HS := hide hS
  have HSZ := hide hsz
  clear hS hsz
  have t0 : (s.size : Int) ≤ 20000 := by omega
  obtain ⟨i0, hi0, hz0, hz1, hz2⟩ := info_parts byteInfo
  go_enter Tryd.func33, Tryd.ntmps33
  go_wp2_with fail
  go_loopw [3, 9] (fun v i W' => ∃ W, W = W' ∧ ∃ k : Nat, k ≤ s.size ∧ i = .int .i64 (k : Int) ∧ W.ownsRow w.heap.size 5 1 v (34 :: quoteB (S.take k)).length (bcells (34 :: quoteB (S.take k))) ∧ Below w.heap.size w W) (fun _ i _ => s.size - (intOf i).toNat)
  case atStart => exact ⟨_, rfl, 0, Nat.zero_le _, rfl, own_one w 34, (Below.refl _ _).alloc (Nat.le_refl _) _⟩
  case round =>
    obtain ⟨W, rfl, k, hk, rfl, ho, hbl⟩ := hrel
    have HBL := hide hbl; clear hbl
    have hqb := quoteB_len (S.take k)
    have htk : (S.take k).length = k := by rw [List.length_take, ← HSZ.out]; omega
    obtain ⟨Q, hQ⟩ : ∃ Q, 34 :: quoteB (S.take k) = Q := ⟨_, rfl⟩
    obtain ⟨nq, hnq⟩ : ∃ nq, Q.length = nq := ⟨_, rfl⟩
    have hnq2 : nq ≤ 80001 := by rw [← hnq, ← hQ, List.length_cons]; omega
    rw [hQ, hnq] at ho
    have HO := hide ho; clear ho
    have HQ := hide hQ
    have HNQ := hide hnq
    clear hqb htk hQ hnq
    have k0 : (0 : Int) ≤ (k : Int) := by omega
    have hwW := HBL.out.size
    by_cases hlt : k < s.size
    · have hkl : k < S.length := by rw [← HSZ.out]; exact hlt
      have j0 : (k : Int) < (s.size : Int) := by omega
      obtain ⟨d, e0⟩ : ∃ d, s[k]'hlt = d := ⟨_, rfl⟩
      have hnext : ∀ x, x = quoteC d → 34 :: quoteB (S.take (k + 1)) = Q ++ x := by
        intro x hx
        have hd : S[k]'hkl = d := by
          rw [← e0]
          have : s.data.toList[k]'(by rw [HS.out]; exact hkl) = S[k]'hkl := by simp [HS.out]
          rw [← this]; rfl
        rw [List.take_succ_eq_append_getElem hkl, hd, quoteB_snoc, ← List.cons_append, HQ.out, hx]
      have HNX := hide hnext
      clear hnext hkl
      have hcl : (d = 34 ∨ d = 92) ∨ d = 10 ∨ d = 9 ∨ ((((d.toNat : Int)) == 34) = false ∧ (((d.toNat : Int)) == 92) = false ∧ (((d.toNat : Int)) == 10) = false ∧ (((d.toNat : Int)) == 9) = false ∧ ((((32 : Int) ≤ (d.toNat : Int)) ∧ (d.toNat : Int) ≤ 126 ∧ quoteC d = [d]) ∨ ((¬ (32 : Int) ≤ (d.toNat : Int) ∨ ((32 : Int) ≤ (d.toNat : Int) ∧ ¬ (d.toNat : Int) ≤ 126)) ∧ quoteC d = [92, 120, hexD (d.toNat / 16), hexD (d.toNat % 16)]))) := by
        by_cases h1 : d = 34
        · exact .inl (.inl h1)
        by_cases h2 : d = 92
        · exact .inl (.inr h2)
        by_cases h3 : d = 10
        · exact .inr (.inl h3)
        by_cases h4 : d = 9
        · exact .inr (.inr (.inl h4))
        refine .inr (.inr (.inr ⟨byte_eqF 34 34 h1, byte_eqF 92 92 h2, byte_eqF 10 10 h3, byte_eqF 9 9 h4, ?_⟩))
        unfold quoteC
        rw [if_neg (by simp [h1, h2]), if_neg h3, if_neg h4]
        by_cases h5 : 32 ≤ d.toNat ∧ d.toNat ≤ 126
        · left; rw [if_pos h5]; exact ⟨by omega, by omega, rfl⟩
        · right; rw [if_neg h5]; exact ⟨by omega, rfl⟩
      rcases hcl with (rfl | rfl) | rfl | rfl | ⟨q1, q2, q3, q4, ⟨q5, q6, hqc⟩ | ⟨q5, hqc⟩⟩
      · go_wp2_with ((at_builtin; refine wpList_append_lies _ rfl _ _ _ rfl w.heap.size 5 i0 _ 1 1 Tryd.underlying22 hi0 hz0 hz1 hz2 rfl (by omega) _ nq (bcells Q) rfl (HO.out.alloc _) ⟨W.heap.size, 0, none⟩ 2 2 [.int .u8 (92), .int .u8 (34)] rfl rfl (World.news_of_block (cs := #[.int .u8 (92), .int .u8 (34)]) (t := 5) (fr := (0, 0)) (heap_alloc_new W _)) (by simp [Value.oneCell']) (by omega) (by simp only [maxLen]; omega) (by omega) (by simp; omega) (W.heap.size + 1) (by simp) ?_; intro gg cc w9 hown1 hgrow hat hlt9; have hg1 := grow_of0 hgrow))
        have HO9 : Hid (w9.ownsRow w.heap.size 5 1 (.slice (some ⟨gg, 0, none⟩) (nq + 2) cc) (34 :: quoteB (S.take (k + 1))).length (bcells (34 :: quoteB (S.take (k + 1))))) := hide (by
          rw [HNX.out [92, 34] rfl, List.length_append, bcells_append, HNQ.out]
          exact hown1)
        have HB9 : Hid (Below w.heap.size w w9) := hide (HBL.out.grown hg1 hwW (fun k hk => (own_lt' HO.out k hk).2))
        clear hown1 hg1
        go_roundw
        case rel => exact ⟨_, rfl, k + 1, hlt, by go_num, HO9.out, HB9.out⟩
        case measure => simp [intOf]; omega
      · go_wp2_with ((at_builtin; refine wpList_append_lies _ rfl _ _ _ rfl w.heap.size 5 i0 _ 1 1 Tryd.underlying22 hi0 hz0 hz1 hz2 rfl (by omega) _ nq (bcells Q) rfl (HO.out.alloc _) ⟨W.heap.size, 0, none⟩ 2 2 [.int .u8 (92), .int .u8 (92)] rfl rfl (World.news_of_block (cs := #[.int .u8 (92), .int .u8 (92)]) (t := 5) (fr := (0, 0)) (heap_alloc_new W _)) (by simp [Value.oneCell']) (by omega) (by simp only [maxLen]; omega) (by omega) (by simp; omega) (W.heap.size + 1) (by simp) ?_; intro gg cc w9 hown1 hgrow hat hlt9; have hg1 := grow_of0 hgrow))
        have HO9 : Hid (w9.ownsRow w.heap.size 5 1 (.slice (some ⟨gg, 0, none⟩) (nq + 2) cc) (34 :: quoteB (S.take (k + 1))).length (bcells (34 :: quoteB (S.take (k + 1))))) := hide (by
          rw [HNX.out [92, 92] rfl, List.length_append, bcells_append, HNQ.out]
          exact hown1)
        have HB9 : Hid (Below w.heap.size w w9) := hide (HBL.out.grown hg1 hwW (fun k hk => (own_lt' HO.out k hk).2))
        clear hown1 hg1
        go_roundw
        case rel => exact ⟨_, rfl, k + 1, hlt, by go_num, HO9.out, HB9.out⟩
        case measure => simp [intOf]; omega
      · go_wp2_with ((at_builtin; refine Lib.wpList_append_own_string _ rfl _ _ _ _ rfl w.heap.size 5 i0 Tryd.underlying22 Tryd.underlying9 hi0 hz0 hz1 hz2 _ _ _ rfl HO.out (bs [92, 110]) rfl (by rw [bs_size]; simp only [maxLen]; simp; omega) (by rw [bs_size]; simp; omega) HBL.out.size ?_; intro v9 w9 hown1 hg1 hnil9))
        have HO9 : Hid (w9.ownsRow w.heap.size 5 1 v9 (34 :: quoteB (S.take (k + 1))).length (bcells (34 :: quoteB (S.take (k + 1))))) := hide (by
          rw [HNX.out [92, 110] rfl, List.length_append, bcells_append, HNQ.out]
          exact hown1)
        have HB9 : Hid (Below w.heap.size w w9) := hide (HBL.out.grown hg1 hwW (fun k hk => (own_lt' HO.out k hk).2))
        clear hown1 hg1
        go_roundw
        case rel => exact ⟨_, rfl, k + 1, hlt, by go_num, HO9.out, HB9.out⟩
        case measure => simp [intOf]; omega
      · go_wp2_with ((at_builtin; refine Lib.wpList_append_own_string _ rfl _ _ _ _ rfl w.heap.size 5 i0 Tryd.underlying22 Tryd.underlying9 hi0 hz0 hz1 hz2 _ _ _ rfl HO.out (bs [92, 116]) rfl (by rw [bs_size]; simp only [maxLen]; simp; omega) (by rw [bs_size]; simp; omega) HBL.out.size ?_; intro v9 w9 hown1 hg1 hnil9))
        have HO9 : Hid (w9.ownsRow w.heap.size 5 1 v9 (34 :: quoteB (S.take (k + 1))).length (bcells (34 :: quoteB (S.take (k + 1))))) := hide (by
          rw [HNX.out [92, 116] rfl, List.length_append, bcells_append, HNQ.out]
          exact hown1)
        have HB9 : Hid (Below w.heap.size w w9) := hide (HBL.out.grown hg1 hwW (fun k hk => (own_lt' HO.out k hk).2))
        clear hown1 hg1
        go_roundw
        case rel => exact ⟨_, rfl, k + 1, hlt, by go_num, HO9.out, HB9.out⟩
        case measure => simp [intOf]; omega
      · have HQC := hide hqc
        clear hqc
        go_wp2_with ((at_builtin; refine wpList_append_lies _ rfl _ _ _ rfl w.heap.size 5 i0 _ 1 1 Tryd.underlying22 hi0 hz0 hz1 hz2 rfl (by omega) _ nq (bcells Q) rfl (HO.out.alloc _) ⟨W.heap.size, 0, none⟩ 1 1 [.int .u8 (d.toNat)] rfl rfl (World.news_of_block (cs := #[.int .u8 (d.toNat)]) (t := 5) (fr := (0, 0)) (heap_alloc_new W _)) (by simp [Value.oneCell']) (by omega) (by simp only [maxLen]; omega) (by omega) (by simp; omega) (W.heap.size + 1) (by simp) ?_; intro gg cc w9 hown1 hgrow hat hlt9; have hg1 := grow_of0 hgrow))
        have HO9 : Hid (w9.ownsRow w.heap.size 5 1 (.slice (some ⟨gg, 0, none⟩) (nq + 1) cc) (34 :: quoteB (S.take (k + 1))).length (bcells (34 :: quoteB (S.take (k + 1))))) := hide (by
          rw [HNX.out [d] HQC.out.symm, List.length_append, bcells_append, HNQ.out]
          exact hown1)
        have HB9 : Hid (Below w.heap.size w w9) := hide (HBL.out.grown hg1 hwW (fun k hk => (own_lt' HO.out k hk).2))
        clear hown1 hg1
        go_roundw
        case rel => exact ⟨_, rfl, k + 1, hlt, by go_num, HO9.out, HB9.out⟩
        case measure => simp [intOf]; omega
      · have HQC := hide hqc
        clear hqc
        obtain ⟨a, ha⟩ : ∃ a, d.toNat / 16 = a := ⟨_, rfl⟩
        obtain ⟨b, hb⟩ : ∃ b, d.toNat % 16 = b := ⟨_, rfl⟩
        rw [ha, hb] at HQC
        have hd256 := d.toNat_lt
        have hai : (d.toNat : Int) / 16 = (a : Int) := by omega
        have hbi : bits BinOp.and IntKind.u8 (d.toNat : Int) 15 = (b : Int) := by have := and15 ⟨d.toNat, hd256⟩; rw [← hb]; exact this
        have hxa : ∀ (h : a < (⟨hexes⟩ : ByteArray).size), (⟨hexes⟩ : ByteArray)[a]'h = hexD a := fun h => hex_at ⟨a, by omega⟩
        have hxb : ∀ (h : b < (⟨hexes⟩ : ByteArray).size), (⟨hexes⟩ : ByteArray)[b]'h = hexD b := fun h => hex_at ⟨b, by omega⟩
        have a1 : (0 : Int) ≤ (a : Int) := by omega
        have a2 : (a : Int) < 16 := by omega
        have b1 : (0 : Int) ≤ (b : Int) := by omega
        have b2 : (b : Int) < 16 := by omega
        have hz16 : (⟨hexes⟩ : ByteArray).size = 16 := rfl
        obtain ⟨x, hx⟩ : ∃ x, hexD a = x := ⟨_, rfl⟩
        obtain ⟨y, hy⟩ : ∃ y, hexD b = y := ⟨_, rfl⟩
        rw [hx] at hxa HQC
        rw [hy] at hxb HQC
        unfold hexes at hxa hxb hz16
        clear ha hb hx hy hd256
        rcases q5 with q5 | ⟨q5, q6⟩
        all_goals
          go_wp2_with fail
          go_region_law
            ((refine step_append_lies _ (by rfl) _ _ _ (by rfl) w.heap.size 5 i0 _ 1 1 Tryd.underlying22 hi0 hz0 hz1 hz2 rfl (by omega) _ nq (bcells Q) (by rfl) ((HO.out.alloc _).drew) ⟨W.heap.size, 0, none⟩ 4 4 [.int .u8 92, .int .u8 120, .int .u8 (x.toNat : Int), .int .u8 (y.toNat : Int)] (by rfl) (by rfl) (World.news_of_block (cs := #[.int .u8 92, .int .u8 120, .int .u8 (x.toNat : Int), .int .u8 (y.toNat : Int)]) (t := 5) (fr := (0, 0)) (heap_alloc_new W _)) (by simp [Value.oneCell']) (by omega) (by simp only [maxLen]; omega) (by omega) (by simp; omega) (W.heap.size + 1) (by simp) ?_; intro gg cc w9 hown1 hgrow hat hlt9; have hg1 := grow_of hgrow))
          all_goals
            (have HO9 : Hid (w9.ownsRow w.heap.size 5 1 (.slice (some ⟨gg, 0, none⟩) (nq + 4) cc) (34 :: quoteB (S.take (k + 1))).length (bcells (34 :: quoteB (S.take (k + 1))))) := hide (by
              rw [HNX.out [92, 120, x, y] HQC.out.symm, List.length_append, bcells_append, HNQ.out]
              exact hown1))
            have HB9 : Hid (Below w.heap.size w w9) := hide (HBL.out.grown hg1 hwW (fun k hk => (own_lt' HO.out k hk).2))
            clear hown1 hg1
            go_wp2_with fail
            go_roundw
            case rel => exact ⟨_, rfl, k + 1, hlt, by go_num, HO9.out, HB9.out⟩
            case measure => (simp [intOf]) <;> omega
    · have j0 : ¬ (k : Int) < (s.size : Int) := by omega
      have hend : Q ++ [34] = quoteL S := by rw [← HQ.out, List.take_of_length_le (by rw [← HSZ.out]; omega)]; rfl
      have HEND := hide hend
      clear hend hlt
      go_wp2_with ((at_builtin; refine wpList_append_lies _ rfl _ _ _ rfl w.heap.size 5 i0 _ 1 1 Tryd.underlying22 hi0 hz0 hz1 hz2 rfl (by omega) _ nq (bcells Q) rfl (HO.out.alloc _) ⟨W.heap.size, 0, none⟩ 1 1 [.int .u8 (34)] rfl rfl (World.news_of_block (cs := #[.int .u8 (34)]) (t := 5) (fr := (0, 0)) (heap_alloc_new W _)) (by simp [Value.oneCell']) (by omega) (by simp only [maxLen]; omega) (by omega) (by simp; omega) (W.heap.size + 1) (by simp) ?_; intro gg cc w9 hown1 hgrow hat hlt9; have hg1 := grow_of0 hgrow; have hcv := own_end HNQ.out hown1))
      rw [HEND.out] at hcv
      have HB9 : Hid (Below w.heap.size w w9) := hide (HBL.out.grown hg1 hwW (fun k hk => (own_lt' HO.out k hk).2))
      clear hown1 hg1
      go_wp2_with fail
      go_ret
      exact ⟨by rw [HEND.out]; rfl, HB9.out⟩
end Go.Proofs.YtehflgllfkkfoaaDoor
