/- The scanner's 'ends'. -/
import Derived.Test.YtehflgllfkkfoaaDoorTb
import Derived.Test.YtehflgllfkkfoaaDoorShelf
set_option linter.unusedVariables false
namespace Go.Proofs.YtehflgllfkkfoaaDoor
open Go.RowKit Go.Proofs.Dm

theorem ends_contains : ∀ x ∈ allSigns, Lib.contains [32, 43, 43, 32, 45, 45, 32, 41, 32, 93, 32, 125, 32] (32 :: (x ++ [32])) = decide (x ∈ endSigns) := by decide +kernel

/-- The variable that says how long a text the quick search takes. -/
def MaxLenOk (w : World) : Prop := ∃ m, w.cell? ⟨2, 0, none⟩ = some (.int .i64 m)

theorem last_cells {w : World} {base : Nat} {A : Option Addr} {n c : Nat} {l : List Tk} {t : Tk} (h : w.ownsRow base 29 3 (.slice A n c) n (toks (l ++ [t]))) (hn : n = l.length + 1) :
    ∃ g, A = some ⟨g, 0, none⟩ ∧ n ≤ c ∧ w.cell? ⟨g, l.length * 3, none⟩ = some (.int .i64 (t.kind : Int)) ∧ w.cell? ⟨g, l.length * 3 + 1, none⟩ = some (.string (bs t.text)) ∧ w.cell? ⟨g, l.length * 3 + 2, none⟩ = some (.int .i64 (t.pos : Int)) := by
  obtain ⟨g, cap, hv, _, _⟩ := h.form (by omega)
  injection hv with hA _ hc
  subst hA
  subst hc
  have hle : n ≤ c := by
    rcases h.2 with ⟨_, h0⟩ | ⟨g', cap', cur, hv', _, _, h1, _⟩
    · omega
    · injection hv' with _ _ hc'; omega
  have hx : ∀ i v, (tokCells t)[i]? = some v → w.cell? ⟨g, l.length * 3 + i, none⟩ = some v := by
    intro i v hv
    have := h.cells (g := g) rfl (l.length * 3 + i) v (by
      rw [toks_snoc, List.getElem?_append_right (by rw [toks_length]; omega), toks_length]
      rw [show l.length * 3 + i - l.length * 3 = i from by omega]
      exact hv)
    have e : (⟨g, 0, none⟩ : Addr).add (l.length * 3 + i) = ⟨g, l.length * 3 + i, none⟩ := by unfold Addr.add; split <;> simp_all
    rwa [e] at this
  exact ⟨g, rfl, hle, hx 0 _ rfl, hx 1 _ rfl, hx 2 _ rfl⟩

theorem bs_toList (l : Bs) : (bs l).toList = l := ByteArray.toList_mk l
theorem endsT_hit (k : Nat) (text w : Bs) (hk : k = 2 ∨ k = 3) (hw : w ∈ endWords) (h : ((bs text).toList == w) = true) : endsT k text = true := by
  rw [beq_iff_eq, bs_toList] at h
  subst h
  rcases hk with rfl | rfl <;> simp [endsT, hw]
theorem endsT_miss (k : Nat) (text : Bs) (hk : k = 2 ∨ k = 3) (h : ∀ w ∈ endWords, ((bs text).toList == w) = false) : endsT k text = false := by
  have hn : text ∉ endWords := fun hm => by
    have := h _ hm
    rw [bs_toList] at this
    simp at this
  rcases hk with rfl | rfl <;> simp [endsT, hn]
theorem sign_short : ∀ text ∈ allSigns, text.length ≤ 3 := by decide +kernel
theorem bs_add (a b : Bs) : bs a ++ bs b = bs (a ++ b) := ByteArray.mk_append_mk a b
theorem add_left {P : Program} (text : Bs) (h : text.length ≤ 3) (W : World) : (Op.stringOp .add ⟨#[32]⟩ (bs text)).run P W = .ok (.string (bs (32 :: text))) W := by
  have e := run_string_add_sum (P := P) W (bs [32]) (bs text) (by rw [bs_size, bs_size]; simp; omega)
  rw [bs_add] at e
  exact e
theorem add_right {P : Program} (text : Bs) (h : text.length ≤ 3) (W : World) : (Op.stringOp .add (bs (32 :: text)) ⟨#[32]⟩).run P W = .ok (.string (bs (32 :: (text ++ [32])))) W := by
  have e := run_string_add_sum (P := P) W (bs (32 :: text)) (bs [32]) (by rw [bs_size, bs_size]; simp; omega)
  rw [bs_add] at e
  exact e
theorem endsT_sign (text : Bs) : endsT 6 text = decide (text ∈ endSigns) := by simp [endsT]

set_option maxRecDepth 100000 in
set_option maxHeartbeats 3200000 in
theorem ends_nil (base : Nat) (w : World) (B : Nat) (s : ByteArray) (p : Nat) (ns : List Tk) (h : Sc base w B s p [] ns) :
    Calls Tryd.prog 79 #[.pointer (some ⟨B, 0, none⟩)] w fun e w' => e = .returned (.bool false) ∧ Below w.heap.size w w' := by
  obtain ⟨A, A', c, c', h1, h2, h3, h4⟩ := h.ex
  have c2 : w.cell? ⟨B, 2, none⟩ = some (.slice A 0 c) := cells_at h1 2
  clear h h1 h2 h3 h4
  go_enter Tryd.func79, Tryd.ntmps79
  go_wp2_with fail
  go_ret
  exact ⟨rfl, Below.refl _ _⟩

set_option maxRecDepth 100000 in
set_option maxHeartbeats 3200000 in
theorem ends_some (w : World) (B : Nat) (g n m c kind pos : Nat) (text : Bs) (hk : TkOk ⟨kind, text, pos⟩) (hM : MaxLenOk w) (c2 : w.cell? ⟨B, 2, none⟩ = some (.slice (some ⟨g, 0, none⟩) m c))
    (k0 : w.cell? ⟨g, n * 3, none⟩ = some (.int .i64 (kind : Int))) (k1 : w.cell? ⟨g, n * 3 + 1, none⟩ = some (.string (bs text))) (k2 : w.cell? ⟨g, n * 3 + 2, none⟩ = some (.int .i64 (pos : Int))) (hn : n < m) (hm : m ≤ n + 1) (hn2 : n ≤ 200000) :
    Calls Tryd.prog 79 #[.pointer (some ⟨B, 0, none⟩)] w fun e w' => e = .returned (.bool (endsT kind text)) ∧ Below w.heap.size w w' := by
  have HK := hide hk; clear hk
  obtain ⟨mx, hM⟩ := hM
  have hM0 := World.new_ne w _ hM
  have w0 : IntKind.i64.wrap ((m : Int) - 1) = (n : Int) := by rw [show (m : Int) - 1 = (n : Int) from by omega]; exact IntWalk.i64_in _ (by omega)
  have w2 : (((m : Int) == 0) = false) := by rw [beq_eq_false_iff_ne]; omega
  have w3 : (0 : Int) ≤ (n : Int) := by omega
  have w4 : (n : Int) < (m : Int) := by omega
  have w5 : ((n : Int)).toNat = n := by omega
  have hB := World.new_ne w _ c2
  have hg0 := World.new_ne w _ k0
  go_enter Tryd.func79, Tryd.ntmps79
  go_wp2_with fail
  go_region_held3 (fun w' => w'.cell? ⟨B, 2, none⟩ = some (.slice (some ⟨g, 0, none⟩) m c) ∧ w'.cell? ⟨g, n * 3, none⟩ = some (.int .i64 (kind : Int)) ∧ w'.cell? ⟨g, n * 3 + 1, none⟩ = some (.string (bs text)) ∧ w'.cell? ⟨g, n * 3 + 2, none⟩ = some (.int .i64 (pos : Int)))
    (go_keep) (fail)
  have hb : Below w.heap.size w (w.alloc (Obj.cells #[Value.int IntKind.i64 ↑kind, Value.string (bs text), Value.int IntKind.i64 ↑pos] 29)).drew := ((Below.refl _ w).alloc (Nat.le_refl _) _).drew
  have HB := hide hb; clear hb
  rcases HK.out with hk | hk | hk | hk | hk | ⟨hk, ht⟩
  · obtain rfl : kind = 1 := hk
    go_wp2; go_ret
    exact ⟨ret_bool rfl, HB.out⟩
  · obtain rfl : kind = 2 := hk
    by_cases t0 : ((bs text).toList == [98, 114, 101, 97, 107]) = true
    · have he : Hid (endsT 2 text = true) := endsT_hit 2 text _ (by decide) (by decide) t0
      go_wp2; go_ret; exact ⟨ret_bool he.out.symm, HB.out⟩
    simp only [Bool.not_eq_true] at t0
    by_cases t1 : ((bs text).toList == [99, 111, 110, 116, 105, 110, 117, 101]) = true
    · have he : Hid (endsT 2 text = true) := endsT_hit 2 text _ (by decide) (by decide) t1
      go_wp2; go_ret; exact ⟨ret_bool he.out.symm, HB.out⟩
    simp only [Bool.not_eq_true] at t1
    by_cases t2 : ((bs text).toList == [114, 101, 116, 117, 114, 110]) = true
    · have he : Hid (endsT 2 text = true) := endsT_hit 2 text _ (by decide) (by decide) t2
      go_wp2; go_ret; exact ⟨ret_bool he.out.symm, HB.out⟩
    simp only [Bool.not_eq_true] at t2
    by_cases t3 : ((bs text).toList == [102, 97, 108, 108, 116, 104, 114, 111, 117, 103, 104]) = true
    · have he : Hid (endsT 2 text = true) := endsT_hit 2 text _ (by decide) (by decide) t3
      go_wp2; go_ret; exact ⟨ret_bool he.out.symm, HB.out⟩
    simp only [Bool.not_eq_true] at t3
    have he : Hid (endsT 2 text = false) := endsT_miss 2 text (by decide) (by intro w hw; simp only [endWords, List.mem_cons, List.mem_nil_iff, or_false] at hw; rcases hw with rfl | rfl | rfl | rfl <;> assumption)
    go_wp2; go_ret; exact ⟨ret_bool he.out.symm, HB.out⟩
  · obtain rfl : kind = 3 := hk
    by_cases t0 : ((bs text).toList == [98, 114, 101, 97, 107]) = true
    · have he : Hid (endsT 3 text = true) := endsT_hit 3 text _ (by decide) (by decide) t0
      go_wp2; go_ret; exact ⟨ret_bool he.out.symm, HB.out⟩
    simp only [Bool.not_eq_true] at t0
    by_cases t1 : ((bs text).toList == [99, 111, 110, 116, 105, 110, 117, 101]) = true
    · have he : Hid (endsT 3 text = true) := endsT_hit 3 text _ (by decide) (by decide) t1
      go_wp2; go_ret; exact ⟨ret_bool he.out.symm, HB.out⟩
    simp only [Bool.not_eq_true] at t1
    by_cases t2 : ((bs text).toList == [114, 101, 116, 117, 114, 110]) = true
    · have he : Hid (endsT 3 text = true) := endsT_hit 3 text _ (by decide) (by decide) t2
      go_wp2; go_ret; exact ⟨ret_bool he.out.symm, HB.out⟩
    simp only [Bool.not_eq_true] at t2
    by_cases t3 : ((bs text).toList == [102, 97, 108, 108, 116, 104, 114, 111, 117, 103, 104]) = true
    · have he : Hid (endsT 3 text = true) := endsT_hit 3 text _ (by decide) (by decide) t3
      go_wp2; go_ret; exact ⟨ret_bool he.out.symm, HB.out⟩
    simp only [Bool.not_eq_true] at t3
    have he : Hid (endsT 3 text = false) := endsT_miss 3 text (by decide) (by intro w hw; simp only [endWords, List.mem_cons, List.mem_nil_iff, or_false] at hw; rcases hw with rfl | rfl | rfl | rfl <;> assumption)
    go_wp2; go_ret; exact ⟨ret_bool he.out.symm, HB.out⟩
  · obtain rfl : kind = 4 := hk
    go_wp2; go_ret
    exact ⟨ret_bool rfl, HB.out⟩
  · obtain rfl : kind = 5 := hk
    go_wp2; go_ret
    exact ⟨ret_bool rfl, HB.out⟩
  · obtain rfl : kind = 6 := hk
    have hs1 : ∀ W : World, (Op.stringOp .add ⟨#[32]⟩ (bs text)).run Tryd.prog W = .ok (.string (bs (32 :: text))) W := add_left text (sign_short text ht)
    have hs2 : ∀ W : World, (Op.stringOp .add (bs (32 :: text)) ⟨#[32]⟩).run Tryd.prog W = .ok (.string (bs (32 :: (text ++ [32])))) W := add_right text (sign_short text ht)
    have hM2 := (HB.out.cell (p := ⟨2, 0, none⟩) (World.block_lt_of_cell? w _ hM)).trans hM
    have hr := (endsT_sign text).trans (ends_contains text ht).symm
    have HR := hide hr; clear hr
    go_wp2_with (go_at_call 92; refine (Tryd.strings_Contains _ _ mx _ (by decide) hM2).mono ?_; rintro e w' ⟨rfl, rfl⟩)
    go_ret
    exact ⟨ret_bool HR.out.symm, HB.out⟩

theorem ends_snoc' (l : List Tk) (t : Tk) : ends (l ++ [t]) = endsT t.kind t.text := ends_snoc l t
theorem ends_any (base : Nat) (w : World) (B : Nat) (s : ByteArray) (p : Nat) (l ns : List Tk) (h : Sc base w B s p l ns) (hM : MaxLenOk w) (hl : l.length ≤ 200000) :
    Calls Tryd.prog 79 #[.pointer (some ⟨B, 0, none⟩)] w fun e w' => e = .returned (.bool (ends l)) ∧ Below w.heap.size w w' := by
  rcases List.eq_nil_or_concat l with rfl | ⟨l, t, rfl⟩
  · exact ends_nil base w B s p ns h
  · rw [List.concat_eq_append] at h hl ⊢
    rw [List.length_append, List.length_singleton] at hl
    obtain ⟨A, A', c, c', h1, h2, h3, h4⟩ := h.ex
    have c2 := cells_at h1 2
    obtain ⟨g, rfl, _, k0, k1, k2⟩ := last_cells h2 (by rw [List.length_append, List.length_singleton])
    rw [ends_snoc]
    exact ends_some w B g l.length (l ++ [t]).length c t.kind t.pos t.text (h.ok t (by simp)) hM c2 k0 k1 k2 (by rw [List.length_append, List.length_singleton]; omega) (by rw [List.length_append, List.length_singleton]; omega) (by omega)
end Go.Proofs.YtehflgllfkkfoaaDoor
