/- The reference's Scan, walked. -/
import Derived.Test.YtehflgllfkkfoaaDoorRh
import Derived.Test.YtehflgllfkkfoaaDoorRk
import Derived.Test.YtehflgllfkkfoaaDoorRj
import Derived.OwnWalk
import Derived.Deep.CutRange
import Derived.Deep.DeepCutAuto
set_option linter.unusedVariables false
set_option linter.unusedSimpArgs false
namespace Go.Proofs.YtehflgllfkkfoaaDoor
open Go.RowKit Go.Proofs.Dm

theorem results_tmp4 {fn : Func} {t u v x : Tmp} (h : fn.results = #[.tmp t, .tmp u, .tmp v, .tmp x]) (tmps : Array Value) (P : Program) (w : World) :
    (results fn tmps).run P w = .ok (.tuple #[tmps.getD t undef, tmps.getD u undef, tmps.getD v undef, tmps.getD x undef]) w := by
  simp [results, h]
theorem rtokInfo : (Tryd.prog.info? 54).map (fun i => (i.zero, i.size, i.bytes)) = some (some (.agg #[.int .i64 0, .string ⟨#[]⟩, .int .i64 0]), 3, 32) := by kernel_rfl
/-- The reference's rows. -/
structure RR (w W : World) (vl vn : Value) (l ns : List Tk) : Prop where
  ol : W.ownsRow w.heap.size 54 3 vl l.length (toks l)
  on : W.ownsRow w.heap.size 54 3 vn ns.length (toks ns)
  ap : vl.ownBlock = none ∨ vl.ownBlock ≠ vn.ownBlock
  below : Below w.heap.size w W
  ok : ∀ t ∈ l, TkOk t
theorem RR.to {w W W' : World} {vl vn : Value} {l ns : List Tk} (h : RR w W vl vn l ns) (hb : Below W.heap.size W W') : RR w W' vl vn l ns :=
  ⟨own_below' h.ol hb, own_below' h.on hb, h.ap, h.below.trans (hb.mono h.below.size), h.ok⟩
theorem apart_comm {a b : Value} (h : a.ownBlock = none ∨ a.ownBlock ≠ b.ownBlock) : b.ownBlock = none ∨ b.ownBlock ≠ a.ownBlock := by
  rcases h with h | h
  · cases hq : b.ownBlock with
    | none => exact .inl rfl
    | some k => right; rw [h]; simp
  · exact .inr (fun e => h e.symm)
theorem RR.putL {w W W1 : World} {vl vn : Value} {l ns : List Tk} {t : Tk} {g cap : Nat} (h : RR w W vl vn l ns) (ht : TkOk t)
    (hown : W1.ownsRow w.heap.size 54 3 (.slice (some ⟨g, 0, none⟩) (l.length + 1) cap) (l.length + 1) (toks l ++ tokCells t)) (hgrow : W.grownBy W1 vl.ownBlock)
    (hat : vl.ownBlock = some g ∨ W.heap.size ≤ g) : RR w W1 (.slice (some ⟨g, 0, none⟩) (l.length + 1) cap) vn (l ++ [t]) ns := by
  have hn := apart_comm h.ap
  refine ⟨by rw [toks_snoc, List.length_append, List.length_singleton]; exact hown, h.on.kept hgrow hn, ?_, h.below.grown hgrow h.below.size (fun k hk => (own_lt' h.ol k hk).2), ?_⟩
  · right
    intro e
    have e' : vn.ownBlock = some g := by rw [← e]; rfl
    have hlt' := (own_lt' h.on g e').1
    rcases hat with hat | hat
    · rcases h.ap with h4 | h4
      · rw [h4] at hat; cases hat
      · exact h4 (hat.trans e'.symm)
    · omega
  · intro x hx
    rcases List.mem_append.1 hx with hx | hx
    · exact h.ok x hx
    · rw [List.mem_singleton.1 hx]; exact ht
theorem RR.putN {w W W1 : World} {vl vn : Value} {l ns : List Tk} {t : Tk} {g cap : Nat} (h : RR w W vl vn l ns)
    (hown : W1.ownsRow w.heap.size 54 3 (.slice (some ⟨g, 0, none⟩) (ns.length + 1) cap) (ns.length + 1) (toks ns ++ tokCells t)) (hgrow : W.grownBy W1 vn.ownBlock)
    (hat : vn.ownBlock = some g ∨ W.heap.size ≤ g) : RR w W1 vl (.slice (some ⟨g, 0, none⟩) (ns.length + 1) cap) l (ns ++ [t]) := by
  refine ⟨h.ol.kept hgrow h.ap, by rw [toks_snoc, List.length_append, List.length_singleton]; exact hown, ?_, h.below.grown hgrow h.below.size (fun k hk => (own_lt' h.on k hk).2), h.ok⟩
  cases hq : vl.ownBlock with
  | none => exact .inl rfl
  | some k =>
    right
    intro e
    have e' : vl.ownBlock = some g := by rw [hq, e]; rfl
    have hlt' := (own_lt' h.ol g e').1
    rcases hat with hat | hat
    · rcases h.ap with h4 | h4
      · rw [h4] at e'; cases e'
      · exact h4 (e'.trans hat.symm)
    · omega
/-- How far the scan is. -/
structure RI (b : Bs) (p : Nat) (l ns : List Tk) (f : Nat) : Prop where
  hp : p ≤ b.length
  hl : l.length ≤ p
  hn : ns.length ≤ p
  hf : (b.drop p).length ≤ f
  eq : scanL b.length b 0 [] [] = scanL f (b.drop p) p l ns
theorem RI.step {b : Bs} {p : Nat} {l ns : List Tk} {f : Nat} {d : UInt8} {r : Bs} {q : Nat} {l' ns' : List Tk} (h : RI b p l ns f) (hd : b.drop p = d :: r) (hst : stepL (d :: r) p l ns = some (q, l', ns')) : (∃ f', RI b q l' ns' f') ∧ p < q ∧ q ≤ b.length := by
  have hf := h.hf
  have he := h.eq
  have hlen : (d :: r).length = b.length - p := by rw [← hd, List.length_drop]
  rw [hd] at hf he
  have hp := h.hp
  have hl := h.hl
  have hn := h.hn
  cases f with
  | zero => simp at hf
  | succ f =>
    have s2 := step_scan (f := f) (c := d) (r := r) (p := p) (l := l) (ns := ns)
    obtain ⟨h1, h2, h3, h4, h5⟩ := s2.2 q l' ns' hst
    have e : b.drop q = (d :: r).drop (q - p) := by rw [← hd, List.drop_drop, show p + (q - p) = q from by omega]
    refine ⟨⟨f, ⟨by omega, by omega, by omega, ?_, ?_⟩⟩, h1, by omega⟩
    · rw [e, List.length_drop]; simp only [List.length_cons] at hf ⊢; omega
    · rw [he, h5, e]
theorem RI.stop {b : Bs} {p : Nat} {l ns : List Tk} {f : Nat} {d : UInt8} {r : Bs} (h : RI b p l ns f) (hd : b.drop p = d :: r) (hst : stepL (d :: r) p l ns = none) : scanL b.length b 0 [] [] = .error p := by
  have hf := h.hf
  have he := h.eq
  rw [hd] at hf he
  cases f with
  | zero => simp at hf
  | succ f => rw [he]; exact step_scan.1 hst
theorem RI.over {b : Bs} {p : Nat} {l ns : List Tk} {f : Nat} (h : RI b p l ns f) (hp : ¬ p < b.length) : scanL b.length b 0 [] [] = .ok (line l b.length, ns) := by
  have he := h.eq
  have := h.hp
  obtain rfl : p = b.length := by omega
  rw [List.drop_length] at he
  rw [he]
  cases f <;> rfl
theorem rlast_cells {w : World} {base : Nat} {A : Option Addr} {n c : Nat} {l : List Tk} {t : Tk} (h : w.ownsRow base 54 3 (.slice A n c) n (toks (l ++ [t]))) (hn : n = l.length + 1) :
    ∃ g, A = some ⟨g, 0, none⟩ ∧ n ≤ c ∧ w.cell? ⟨g, l.length * 3, none⟩ = some (.int .i64 (t.kind : Int)) ∧ w.cell? ⟨g, l.length * 3 + 1, none⟩ = some (.string (bs t.text)) ∧ w.cell? ⟨g, l.length * 3 + 2, none⟩ = some (.int .i64 (t.pos : Int)) := by
  obtain ⟨g, cap, hv, _, _⟩ := h.form (by omega)
  injection hv with hA _ hc
  subst hA
  subst hc
  have hle : n ≤ c := by
    rcases h.2 with ⟨_, h0⟩ | ⟨g', cap', cur, hv', _, _, h1, _⟩
    · omega
    · injection hv' with _ _ hc'; omega
  have hx : ∀ i v, (tokCells t)[i]? = some v → w.cell? ⟨g, l.length * 3 + i, none⟩ = some v := by
    intro i v hv
    have := h.cells (g := g) rfl (l.length * 3 + i) v (by
      rw [toks_snoc, List.getElem?_append_right (by rw [toks_length]; omega), toks_length]
      rw [show l.length * 3 + i - l.length * 3 = i from by omega]
      exact hv)
    rwa [addr_add] at this
  exact ⟨g, rfl, hle, hx 0 _ rfl, hx 1 _ rfl, hx 2 _ rfl⟩
theorem tkOk_kind {t : Tk} (h : TkOk t) : t.kind = 1 ∨ t.kind = 2 ∨ t.kind = 3 ∨ t.kind = 4 ∨ t.kind = 5 ∨ t.kind = 6 := by
  rcases h with h | h | h | h | h | ⟨h, _⟩ <;> omega
theorem rends_any (base : Nat) (w : World) (A : Option Addr) (c : Nat) (l : List Tk) (h : w.ownsRow base 54 3 (.slice A l.length c) l.length (toks l)) (ok : ∀ t ∈ l, TkOk t) (hl : l.length ≤ 200000) :
    Calls Tryd.prog 37 #[.slice A l.length c] w fun e w' => e = .returned (.bool (ends l)) ∧ Below w.heap.size w w' := by
  rcases List.eq_nil_or_concat l with rfl | ⟨l, t, rfl⟩
  · exact rends_nil w A c
  · rw [List.concat_eq_append] at h hl ok ⊢
    have hn : (l ++ [t]).length = l.length + 1 := by simp
    obtain ⟨g, rfl, hle, k0, k1, k2⟩ := rlast_cells h hn
    rw [ends_snoc]
    exact rends_some w g l.length (l ++ [t]).length c t.kind t.pos t.text (tkOk_kind (ok t (by simp))) k0 k1 k2 (hide hn) hle (by omega)
theorem rown_ta {base : Nat} {w : World} {A : Option Addr} {c : Nat} {l : List Tk} (h : w.ownsRow base 54 3 (.slice A l.length c) l.length (toks l)) : TA w A l ∧ l.length ≤ c := by
  by_cases h0 : 0 < l.length
  · obtain ⟨g, cap, hv, _, _⟩ := h.form (by omega)
    injection hv with hA _ hc
    subst hA hc
    have hc : l.length ≤ c := by
      rcases h.2 with ⟨hv, _⟩ | ⟨g', cap', cur, hv', _, _, h1, _⟩
      · cases hv
      · injection hv' with _ _ hc'; omega
    refine ⟨.inr ⟨g, rfl, fun i hi => ?_⟩, hc⟩
    have hsplit : l = l.take i ++ l[i] :: l.drop (i + 1) := by
      rw [← List.drop_eq_getElem_cons hi, List.take_append_drop]
    have hlen : (toks (l.take i)).length = i * 3 := by rw [toks_length, List.length_take, Nat.min_eq_left (by omega)]
    have hx : ∀ j v, j < 3 → (tokCells l[i])[j]? = some v → w.cell? ⟨g, i * 3 + j, none⟩ = some v := by
      intro j v hj hv
      have := h.cells (g := g) rfl (i * 3 + j) v (by
        have ht : toks l = toks (l.take i) ++ (tokCells l[i] ++ toks (l.drop (i + 1))) := by
          conv => lhs; rw [hsplit]
          unfold toks
          rw [List.flatMap_append, List.flatMap_cons]
        rw [ht, List.getElem?_append_right (by rw [hlen]; omega), hlen, show i * 3 + j - i * 3 = j from by omega, List.getElem?_append_left (by show j < 3; exact hj)]
        exact hv)
      rwa [addr_add] at this
    exact ⟨hx 0 _ (by omega) rfl, hx 1 _ (by omega) rfl, hx 2 _ (by omega) rfl⟩
  · have : l = [] := List.eq_nil_of_length_eq_zero (by omega)
    exact ⟨.inl this, by omega⟩
/-- How the reference's Scan ends. -/
def RScanRet (b : Bs) (w : World) (e : Ending) (w' : World) : Prop :=
  match scanS b with
  | .bad p k => e = .returned (.tuple #[.slice none 0 0, .slice none 0 0, .int .i64 (p : Int), .int .i64 (k : Int)]) ∧ Below w.heap.size w w'
  | .ok l ns => ∃ A c A' c', e = .returned (.tuple #[.slice A l.length c, .slice A' ns.length c', .int .i64 0, .int .i64 0]) ∧ TA w' A l ∧ l.length ≤ c ∧ TA w' A' ns ∧ ns.length ≤ c' ∧ Below w.heap.size w w'
theorem RScanRet.bad {b : Bs} {w w' : World} {p k : Nat} (h : scanS b = .bad p k) (hb : Below w.heap.size w w') : RScanRet b w (.returned (.tuple #[.slice none 0 0, .slice none 0 0, .int .i64 (p : Int), .int .i64 (k : Int)])) w' := by
  unfold RScanRet; rw [h]; exact ⟨rfl, hb⟩
theorem RScanRet.good {b : Bs} {w w' : World} {l ns : List Tk} {A A' : Option Addr} {c c' : Nat} (h : scanS b = .ok l ns) (hr : RR w w' (.slice A l.length c) (.slice A' ns.length c') l ns) : RScanRet b w (.returned (.tuple #[.slice A l.length c, .slice A' ns.length c', .int .i64 0, .int .i64 0])) w' := by
  unfold RScanRet; rw [h]
  exact ⟨A, c, A', c', rfl, (rown_ta hr.ol).1, (rown_ta hr.ol).2, (rown_ta hr.on).1, (rown_ta hr.on).2, hr.below⟩
theorem mark_len {b : Bs} {d : UInt8} {r : Bs} (hb : b = d :: r) (hd : d = 239) (hw : wrongL b.length b 0 = none) : 3 ≤ b.length := by
  subst hb
  rw [List.length_cons, wrong_step] at hw
  split at hw
  · cases hw
  · rename_i hs
    simp only [Bool.or_eq_true, not_or, Bool.not_eq_true] at hs
    have hn := badSign_ne hs.1
    have h0 : byteAt (d :: r) 0 = 239 := by rw [byteAt_zero (d :: r) d r rfl, hd]; rfl
    have := dec3 (L := d :: r) (by omega) (by omega)
    by_cases hc : cont (d :: r) 2 = true
    · have := cont_lt hc; simp only [List.length_cons] at this ⊢; omega
    · rw [if_neg (fun h => hc h.2.1)] at this
      exact absurd this hn

set_option maxRecDepth 100000 in
set_option maxHeartbeats 51200000 in
theorem rscan_run (w : World) (a o cap : Nat) (b : Bs) (hba : BA w a o cap b) (hlen : b.length ≤ 65536) (hne : 0 < b.length) (hw : wrongL b.length b 0 = none) :
    Calls Tryd.prog 19 #[.slice (some ⟨a, o, none⟩) b.length cap] w (RScanRet b w) := by
  have hs : Hid (scanS b = match scanL b.length b 0 [] [] with | .error p => .bad p 3 | .ok (l, ns) => .ok l ns) := hide (by unfold scanS; rw [if_neg (by omega), hw]; rfl)
  have hwr := rwrong_some w a o cap b hba hlen
  rw [wrongInt_none hw] at hwr
  have HWR := hide hwr; clear hwr
  have hcap : (b.length : Int) ≤ (cap : Int) := by have := hba.1; omega
  have HBA := hide hba; clear hba
  have HW := hide hw; clear hw
  have l1 : (b.length : Int) ≤ 65536 := by omega
  obtain ⟨i0, hi0, hz0, hz1, hz2⟩ := info_parts rtokInfo
  go_enter Tryd.func19, Tryd.ntmps19
  go_wp2_with fail
  refine HWR.out.mono ?_
  rintro e w' ⟨rfl, rfl⟩
  go_wp2_with fail
  go_loopw [7, 8, 9] (fun s7 s8 s9 W' => ∃ W, W = W' ∧ ∃ A c A' c' p l ns f, s7 = .slice A (List.length l) c ∧ s8 = .slice A' (List.length ns) c' ∧ s9 = .int .i64 ((p : Nat) : Int) ∧ RR w W (.slice A (List.length l) c) (.slice A' (List.length ns) c') l ns ∧ RI b p l ns f) (fun _ _ s9 _ => b.length - (intOf s9).toNat)
  case atStart => exact ⟨_, rfl, none, 0, none, 0, 0, [], [], b.length, rfl, rfl, rfl, ⟨⟨rfl, .inl ⟨rfl, rfl⟩⟩, ⟨rfl, .inl ⟨rfl, rfl⟩⟩, .inl rfl, Below.refl _ _, fun t h => by cases h⟩, ⟨Nat.zero_le _, Nat.le_refl _, Nat.le_refl _, by simp, by simp⟩⟩
  case round =>
    obtain ⟨W, rfl, A, c, A', c', p, l, ns, f, rfl, rfl, rfl, hrr, hri⟩ := hrel
    have HR := hide hrr; clear hrr
    have HI := hide hri
    have hpl := hri.hp
    have hll := hri.hl
    have hnn := hri.hn
    clear hri
    have p0 : (0 : Int) ≤ (p : Int) := by omega
    have p9 : (p : Int) ≤ 65536 := by omega
    have HA := hide (HBA.out.below HR.out.below)
    have hends := rends_any w.heap.size W A c l HR.out.ol HR.out.ok (by omega)
    by_cases hlt : p < b.length
    · have hlt2 : (p : Int) < (b.length : Int) := by omega
      have cp := HA.out.2 p hlt
      have hdr := List.drop_eq_getElem_cons hlt
      obtain ⟨d, hd⟩ : ∃ d, b[p]'hlt = d := ⟨_, rfl⟩
      obtain ⟨r, hr⟩ : ∃ r, b.drop (p + 1) = r := ⟨_, rfl⟩
      rw [hd, hr] at hdr
      rw [hd] at cp
      have HD := hide hd; clear hd
      have HRR := hide hr; clear hr
      have HDR := hide hdr; clear hdr
      by_cases hz : p = 0 ∧ d = 239
      · -- the first byte is a mark's
        as_aux_lemma =>
        obtain ⟨hz0, hz1'⟩ := hz
        have h3 := mark_len (b := b) (d := d) (r := r) (by have := HDR.out; rw [hz0, List.drop_zero] at this; exact this) hz1' HW.out
        have q3 : (3 : Int) ≤ (b.length : Int) := by omega
        have cp' : W.cell? ⟨a, o, none⟩ = some (.int .u8 239) := by rw [hz1', hz0, Nat.add_zero] at cp; exact cp
        clear cp
        subst hz0
        have ca := HA.out.2 1 (by omega)
        have cb := HA.out.2 2 (by omega)
        obtain ⟨x, hx⟩ : ∃ x, b[1]'(by omega) = x := ⟨_, rfl⟩
        obtain ⟨y, hy⟩ : ∃ y, b[2]'(by omega) = y := ⟨_, rfl⟩
        have htk : (d :: r).take 3 = [239, x, y] := by
          have e := HDR.out
          rw [List.drop_zero] at e
          rw [← e]
          match hbb : b, h3 with
          | b0 :: b1 :: b2 :: bt, _ =>
            subst hbb
            simp at hx hy e
            subst hx hy
            rw [e.1, hz1']; rfl
        rw [hx] at ca
        rw [hy] at cb
        clear hx hy
        have nostep : ¬ (x = 187 ∧ y = 191) → stepL (d :: r) 0 l ns = none := by
          intro hne
          have hm : (((0 : Nat) == 0) && (d :: r).take 3 == [239, 187, 191]) = false := by rw [htk]; simp; intro h1 h2; exact hne ⟨h1, h2⟩
          have h239 : noteLen (d :: r) = none := by rw [noteLen_none, hz1']; exact fun h => absurd h.1 (by decide)
          have hsg : signLen (d :: r) = none := by
            cases hq : signLen (d :: r) with
            | none => rfl
            | some n =>
              have hb9 := signLen_bytes hq
              have hn9 := (signLen_le _ _ hq).1
              have := hb9 d (by obtain ⟨m, rfl⟩ : ∃ m, n = m + 1 := ⟨n - 1, by omega⟩; simp)
              exact absurd hz1' this.2.2.2.2.2.2
          unfold stepL
          rw [not_nl hm (by rw [hz1']; decide) (by rw [hz1']; decide) (by rw [hz1']; decide) (by rw [hz1']; decide), h239]
          simp only
          rw [if_neg (by rw [hz1']; decide), if_neg (by rw [hz1']; decide), if_neg (by rw [hz1']; decide), hsg]
        by_cases hmk : x = 187 ∧ y = 191
        · have hst : stepL (d :: r) 0 l ns = some (3, l, ns) := by
            have hpm : piece ((0 : Nat) == 0) (d :: r) = .blank 3 := by
              show (if _ then _ else _) = _
              rw [if_pos]
              rw [htk, hmk.1, hmk.2]; rfl
            unfold stepL
            rw [hpm]
          have HSTEP := hide (HI.out.step HDR.out hst)
          obtain ⟨rfl, rfl⟩ := hmk
          have ca' : W.cell? ⟨a, o + 1, none⟩ = some (.int .u8 187) := ca
          have cb' : W.cell? ⟨a, o + 2, none⟩ = some (.int .u8 191) := cb
          clear ca cb nostep hst htk hends
          go_wp2_with fail
          go_roundw
          case rel =>
            obtain ⟨f', hri⟩ := HSTEP.out.1
            exact ⟨_, rfl, _, _, _, _, 3, _, _, f', rfl, rfl, rfl, HR.out, hri⟩
          case measure => simp [intOf]; omega
        · have HSTOP := hide (HI.out.stop HDR.out (nostep hmk))
          have hno := HA.out
          have hnote := rnote_any W a o cap b HA.out hlen 0 hne
          have hv0 : noteInt b 0 = 0 := by
            unfold noteInt
            rw [HDR.out, show noteLen (d :: r) = none from by rw [noteLen_none, hz1']; exact fun h => absurd h.1 (by decide)]
          rw [hv0] at hnote
          have hsig := rsign_any W a o cap b HA.out hlen 0 hne
          have hs0 : signInt b 0 = 0 := by
            unfold signInt
            rw [HDR.out]
            cases hq : signLen (d :: r) with
            | none => rfl
            | some n =>
              have hb9 := signLen_bytes hq
              have hn9 := (signLen_le _ _ hq).1
              have := hb9 d (by obtain ⟨m, rfl⟩ : ∃ m, n = m + 1 := ⟨n - 1, by omega⟩; simp)
              exact absurd hz1' this.2.2.2.2.2.2
          rw [hs0] at hsig
          have HNOTE := hide hnote
          have HSIG := hide hsig
          have hlet := rletter_byte 239 W
          have hfig := rfigure_byte 239 W
          have HLET : Hid (Calls Tryd.prog 39 #[.int .u8 239] W fun e w' => e = .returned (.bool false) ∧ W = w') := hide hlet
          have HFIG : Hid (Calls Tryd.prog 40 #[.int .u8 239] W fun e w' => e = .returned (.bool false) ∧ W = w') := hide hfig
          clear hlet hfig hnote hsig hv0 hs0 hno nostep htk hends
          by_cases hx : x = 187
          all_goals
            first
            | (have ey : (((y.toNat : Int)) == 191) = false := byte_eqF 191 191 (fun e => hmk ⟨hx, e⟩)
               have ca' : W.cell? ⟨a, o + 1, none⟩ = some (.int .u8 187) := by rw [hx] at ca; exact ca
               clear ca)
            | have ex : (((x.toNat : Int)) == 187) = false := byte_eqF 187 187 hx
            clear hmk hx
            go_wp2_with fail
            refine HNOTE.out.mono ?_
            rintro e w' ⟨rfl, rfl⟩
            go_wp2_with fail
            refine HLET.out.mono ?_
            rintro e w' ⟨rfl, rfl⟩
            go_wp2_with fail
            refine HFIG.out.mono ?_
            rintro e w' ⟨rfl, rfl⟩
            go_wp2_with fail
            refine HSIG.out.mono ?_
            rintro e w' ⟨rfl, hbs⟩
            have HFIN2 := hide (RScanRet.bad (b := b) (w := w) (w' := w') (p := 0) (k := 3) (by rw [hs.out, HSTOP.out]) (HR.out.below.trans (hbs.mono HR.out.below.size)))
            go_wp2_with fail
            refine bodyPost_ret (results_tmp4 rfl _ _ _) rfl ?_
            exact HFIN2.out
      · -- no mark
        have hmm : ((p == 0) && (d :: r).take 3 == [239, 187, 191]) = false := by
          rw [Bool.and_eq_false_iff]
          by_cases hp0 : p = 0
          · right
            rw [beq_eq_false_iff_ne]
            intro e
            refine hz ⟨hp0, ?_⟩
            simp only [List.take_succ_cons] at e
            injection e with e _
          · left; simpa using hp0
        have HMM := hide hmm; clear hmm
        have hcases : (((p : Int) == 0) = false) ∨ ((((p : Int) == 0) = true) ∧ (((d.toNat : Int)) == 239) = false) := by
          by_cases hp0 : p = 0
          · right
            refine ⟨by rw [hp0]; rfl, byte_eqF 239 239 (fun e => hz ⟨hp0, e⟩)⟩
          · left; rw [beq_eq_false_iff_ne]; omega
        clear hz
        go_upto_region 14 with (fail)
        go_cut [42] from 23 to 189 (fun x wx => x = .bool false ∧ wx = W)
        case first =>
          rcases hcases with e0 | ⟨e0, e1⟩
          all_goals
            go_wp2_with fail
            go_meet
            case rel => exact ⟨rfl, rfl⟩
        case rest =>
          obtain ⟨rfl, hwx⟩ := hcut
          rw [hwx]
          clear hwx hcases
          by_cases h10 : d = 10
          · as_aux_lemma =>
            have e10 : (((d.toNat : Int)) == 10) = true := by rw [h10]; rfl
            have hpc : piece (p == 0) (d :: r) = .nl := by
              show (if _ then _ else _) = _
              rw [if_neg (by rw [HMM.out]; decide), if_pos (by rw [h10]; rfl)]
            have hst : stepL (d :: r) p l ns = some (p + 1, line l p, ns) := by unfold stepL; rw [hpc]
            clear hpc h10
            cases hE : ends l with
            | true =>
              rw [hE] at hends
              have HE := hide hends
              have hln : line l p = l ++ [⟨6, [10], p⟩] := by unfold line; rw [if_pos hE]
              rw [hln] at hst
              have HSTEP := hide (HI.out.step HDR.out hst)
              clear hends hE hln hst
              go_wp2_with fail
              refine HE.out.mono ?_
              rintro e w1 ⟨rfl, hb1⟩
              have HR1 := hide (HR.out.to hb1)
              have hbs : w.heap.size ≤ w1.heap.size := HR1.out.below.size
              clear hb1
              go_wp2_with ((at_builtin; refine wpList_append_lies _ rfl _ _ _ rfl w.heap.size 54 i0 _ 3 32 Tryd.underlying31 hi0 hz0 hz1 hz2 rfl (by omega) (.slice A l.length c) l.length (toks l) rfl (HR1.out.ol.alloc _) ⟨w1.heap.size, 0, none⟩ 1 1 [.int .i64 6, .string ⟨#[10]⟩, .int .i64 (p : Int)] rfl rfl (World.news_of_block (cs := #[.int .i64 6, .string ⟨#[10]⟩, .int .i64 (p : Int)]) (t := 54) (fr := (0, 0)) (heap_alloc_new w1 _)) (by simp [Value.oneCell']) (by omega) (by simp only [maxLen]; omega) (by omega) (by simp; omega) (w1.heap.size + 1) (by simp) ?_; intro gg cc w9 hown1 hgrow hat hlt9; have hg1 := grow_of0 hgrow))
              have HPUT := hide (HR1.out.putL (t := ⟨6, [10], p⟩) (.inr (.inr (.inr (.inr (.inr ⟨rfl, by simp [allSigns]⟩))))) hown1 hg1 (hat.imp id (fun e => by omega)))
              clear hown1 hg1 hgrow hat hlt9
              go_roundw
              case rel =>
                obtain ⟨f', hri⟩ := HSTEP.out.1
                exact ⟨_, rfl, _, _, _, _, p + 1, _, _, f', by rw [List.length_append, List.length_singleton], rfl, rfl, by rw [List.length_append, List.length_singleton]; exact HPUT.out, hri⟩
              case measure => simp [intOf]; omega
            | false =>
              rw [hE] at hends
              have HE := hide hends
              have hln : line l p = l := by unfold line; rw [if_neg (by rw [hE]; decide)]
              rw [hln] at hst
              have HSTEP := hide (HI.out.step HDR.out hst)
              clear hends hE hln hst
              go_wp2_with fail
              refine HE.out.mono ?_
              rintro e w1 ⟨rfl, hb1⟩
              have HR1 := hide (HR.out.to hb1)
              clear hb1
              go_wp2_with fail
              go_roundw
              case rel =>
                obtain ⟨f', hri⟩ := HSTEP.out.1
                exact ⟨_, rfl, _, _, _, _, p + 1, _, _, f', rfl, rfl, rfl, HR1.out, hri⟩
              case measure => simp [intOf]; omega
          have e10 : (((d.toNat : Int)) == 10) = false := byte_eqF 10 10 h10
          by_cases hbl : d = 32 ∨ d = 9 ∨ d = 13
          · have hpc : piece (p == 0) (d :: r) = .blank 1 := by
              show (if _ then _ else _) = _
              rw [if_neg (by rw [HMM.out]; decide), if_neg (by simpa using h10), if_pos (by rcases hbl with h | h | h <;> rw [h] <;> rfl)]
            have hst : stepL (d :: r) p l ns = some (p + 1, l, ns) := by unfold stepL; rw [hpc]
            have HSTEP := hide (HI.out.step HDR.out hst)
            clear hpc hst hends h10
            have hb3 : (((d.toNat : Int)) == 32) = true ∨ ((((d.toNat : Int)) == 32) = false ∧ (((d.toNat : Int)) == 9) = true) ∨ ((((d.toNat : Int)) == 32) = false ∧ (((d.toNat : Int)) == 9) = false ∧ (((d.toNat : Int)) == 13) = true) := by
              rcases hbl with h | h | h
              · exact .inl (by rw [h]; rfl)
              · exact .inr (.inl ⟨by rw [h]; rfl, by rw [h]; rfl⟩)
              · exact .inr (.inr ⟨by rw [h]; rfl, by rw [h]; rfl, by rw [h]; rfl⟩)
            clear hbl
            as_aux_lemma =>
            rcases hb3 with e32 | ⟨e32, e9⟩ | ⟨e32, e9, e13⟩
            all_goals
              go_wp2_with fail
              go_roundw
              case rel =>
                obtain ⟨f', hri⟩ := HSTEP.out.1
                exact ⟨_, rfl, _, _, _, _, p + 1, _, _, f', rfl, rfl, rfl, HR.out, hri⟩
              case measure => simp [intOf]; omega
          simp only [not_or] at hbl
          obtain ⟨h32, h9, h13⟩ := hbl
          have e32 : (((d.toNat : Int)) == 32) = false := byte_eqF 32 32 h32
          have e9 : (((d.toNat : Int)) == 9) = false := byte_eqF 9 9 h9
          have e13 : (((d.toNat : Int)) == 13) = false := byte_eqF 13 13 h13
          have hpc := not_nl (first := p == 0) HMM.out h10 h32 h9 h13
          clear h10 h32 h9 h13
          have hnote := rnote_any W a o cap b HA.out hlen p hlt
          cases hno : noteLen (d :: r) with
          | some x =>
            as_aux_lemma =>
            cases x with
            | none =>
              have hst : stepL (d :: r) p l ns = none := by unfold stepL; rw [hpc, hno]
              have hv : noteInt b p = -1 := by unfold noteInt; rw [HDR.out, hno]
              rw [hv] at hnote
              have HNOTE := hide hnote
              have HSTOP := hide (HI.out.stop HDR.out hst)
              clear hpc hno hst hv hnote hends
              have HFIN := hide (RScanRet.bad (b := b) (w := w) (w' := W) (p := p) (k := 3) (by rw [hs.out, HSTOP.out]) HR.out.below)
              go_wp2_with fail
              refine HNOTE.out.mono ?_
              rintro e w' ⟨rfl, rfl⟩
              go_wp2_with fail
              refine HNOTE.out.mono ?_
              rintro e w' ⟨rfl, rfl⟩
              go_wp2_with fail
              refine bodyPost_ret (results_tmp4 rfl _ _ _) rfl ?_
              exact HFIN.out
            | some n =>
              have hnl := noteLen_le _ _ hno
              have hdl : (d :: r).length = b.length - p := by rw [← HDR.out, List.length_drop]
              rw [hdl] at hnl
              obtain ⟨q, hq⟩ : ∃ q, p + n = q := ⟨_, rfl⟩
              have hqn : n = q - p := by omega
              have hst : stepL (d :: r) p l ns = some (q, (if 10 ∈ (b.drop p).take (q - p) then line l p else l), ns ++ [⟨0, (b.drop p).take (q - p), p⟩]) := by
                unfold stepL; rw [hpc, hno, HDR.out, ← hqn, ← hq]
              have hv : noteInt b p = (q : Int) := by unfold noteInt; rw [HDR.out, hno, ← hq]
              rw [hv] at hnote
              have HNOTE := hide hnote
              have q1 : p < q := by omega
              have q2 : q ≤ b.length := by omega
              have q3 : (p : Int) < (q : Int) := by omega
              have q4 : (q : Int) ≤ (b.length : Int) := by omega
              have q5 : (((q : Int)) != 0) = true := by rw [bne_iff_ne]; omega
              have q6 : ¬ (q : Int) < 0 := by omega
              have HST := hide hst
              clear hpc hno hst hv hnote hnl hdl hq hqn
              have HENDS := hide hends; clear hends
              go_wp2_with fail
              refine HNOTE.out.mono ?_
              rintro e w' ⟨rfl, rfl⟩
              go_wp2_with fail
              refine HNOTE.out.mono ?_
              rintro e w' ⟨rfl, rfl⟩
              go_wp2_with fail
              go_loop [13, 14] (fun x i => ∃ k : Nat, p ≤ k ∧ k ≤ q ∧ i = .int .i64 (k : Int) ∧ x = .bool (decide (10 ∈ (b.drop p).take (k - p)))) (fun _ i => q - (intOf i).toNat)
              case atStart => exact ⟨p, Nat.le_refl _, by omega, rfl, by simp⟩
              case round =>
                obtain ⟨k, hk1, hk2, rfl, rfl⟩ := hrel
                have k0 : (0 : Int) ≤ (k : Int) := by omega
                have k9 : (k : Int) ≤ 65536 := by omega
                obtain ⟨B, hB⟩ : ∃ B, decide ((10 : UInt8) ∈ (b.drop p).take (k - p)) = B := ⟨_, rfl⟩
                rw [hB]
                by_cases hkq : k < q
                · have k1 : (k : Int) < (q : Int) := by omega
                  have k2 : k < b.length := by omega
                  have k3 : (k : Int) < (b.length : Int) := by omega
                  have ck := HA.out.2 k k2
                  have htake : (b.drop p).take (k + 1 - p) = (b.drop p).take (k - p) ++ [b[k]'k2] := by
                    rw [show k + 1 - p = (k - p) + 1 from by omega, List.take_succ_eq_append_getElem (by rw [List.length_drop]; omega)]
                    congr 2
                    rw [List.getElem_drop]
                    congr 1; omega
                  obtain ⟨y, hy⟩ : ∃ y, b[k]'k2 = y := ⟨_, rfl⟩
                  rw [hy] at ck htake
                  clear hy
                  cases B with
                  | true =>
                    have HN : Hid (decide ((10 : UInt8) ∈ (b.drop p).take (k + 1 - p)) = true) := hide (by
                      rw [htake, decide_eq_true_eq]; exact List.mem_append_left _ (of_decide_eq_true hB))
                    clear hB htake
                    go_wp2_with fail
                    go_round
                    case rel => exact ⟨k + 1, by omega, by omega, by go_num, by rw [HN.out]⟩
                    case measure => simp [intOf]; omega
                  | false =>
                    by_cases hy10 : y = 10
                    · have HN : Hid (decide ((10 : UInt8) ∈ (b.drop p).take (k + 1 - p)) = true) := hide (by
                        rw [htake, decide_eq_true_eq, hy10]; simp)
                      have ck' : W.cell? ⟨a, o + k, none⟩ = some (.int .u8 10) := by rw [hy10] at ck; exact ck
                      clear hB htake ck hy10
                      go_wp2_with fail
                      go_round
                      case rel => exact ⟨k + 1, by omega, by omega, by go_num, by rw [HN.out]⟩
                      case measure => simp [intOf]; omega
                    · have HN : Hid (decide ((10 : UInt8) ∈ (b.drop p).take (k + 1 - p)) = false) := hide (by
                        rw [htake, decide_eq_false_iff_not]
                        intro hm
                        rcases List.mem_append.1 hm with hm | hm
                        · exact (of_decide_eq_false hB) hm
                        · exact hy10 (List.mem_singleton.1 hm).symm)
                      have ey : (((y.toNat : Int)) == 10) = false := byte_eqF 10 10 hy10
                      clear hB htake hy10
                      go_wp2_with fail
                      go_round
                      case rel => exact ⟨k + 1, by omega, by omega, by go_num, by rw [HN.out]⟩
                      case measure => simp [intOf]; omega
                · have hkk : k = q := by omega
                  have k1 : ¬ (k : Int) < (q : Int) := by omega
                  rw [hkk] at hB
                  clear hkk
                  have hst := HST.out
                  cases B with
                  | true =>
                    rw [if_pos (of_decide_eq_true hB)] at hst
                    have hends := HENDS.out
                    cases hE : ends l with
                    | true =>
                      rw [hE] at hends
                      have HE := hide hends
                      have hln : line l p = l ++ [⟨6, [10], p⟩] := by unfold line; rw [if_pos hE]
                      rw [hln] at hst
                      have HSTEP := hide (HI.out.step HDR.out hst)
                      clear hends hE hln hst hB
                      go_wp2_with fail
                      refine HE.out.mono ?_
                      rintro e w1 ⟨rfl, hb1⟩
                      have HR1 := hide (HR.out.to hb1)
                      have hbs : w.heap.size ≤ w1.heap.size := HR1.out.below.size
                      clear hb1
                      go_wp2_with ((first | (at_builtin; refine wpList_append_lies _ rfl _ _ _ rfl w.heap.size 54 i0 _ 3 32 Tryd.underlying31 hi0 hz0 hz1 hz2 rfl (by omega) (.slice A l.length c) l.length (toks l) rfl (HR1.out.ol.alloc _) ⟨w1.heap.size, 0, none⟩ 1 1 [.int .i64 6, .string ⟨#[10]⟩, .int .i64 (p : Int)] rfl rfl (World.news_of_block (cs := #[.int .i64 6, .string ⟨#[10]⟩, .int .i64 (p : Int)]) (t := 54) (fr := (0, 0)) (heap_alloc_new w1 _)) (by simp [Value.oneCell']) (by omega) (by simp only [maxLen]; omega) (by omega) (by simp; omega) (w1.heap.size + 1) (by simp) ?_; intro gg cc w9 hown1 hgrow hat hlt9; have hg1 := grow_of0 hgrow; have hput := HR1.out.putL (t := ⟨6, [10], p⟩) (.inr (.inr (.inr (.inr (.inr ⟨rfl, by simp [allSigns]⟩))))) hown1 hg1 (hat.imp id (fun e => by omega)); have hcv := (HBA.out.below hput.below).cv p (q - p) (by omega); have hbs9 : w.heap.size ≤ w9.heap.size := hput.below.size) | (at_builtin; refine wpList_append_lies _ rfl _ _ _ rfl w.heap.size 54 i0 _ 3 32 Tryd.underlying31 hi0 hz0 hz1 hz2 rfl (by omega) (.slice A' ns.length c') ns.length (toks ns) rfl (hput.on.alloc _) ⟨w9.heap.size, 0, none⟩ 1 1 [.int .i64 0, .string (bs ((b.drop p).take (q - p))), .int .i64 (p : Int)] rfl rfl (World.news_of_block (cs := #[.int .i64 0, .string (bs ((b.drop p).take (q - p))), .int .i64 (p : Int)]) (t := 54) (fr := (0, 0)) (heap_alloc_new w9 _)) (by simp [Value.oneCell']) (by omega) (by simp only [maxLen]; omega) (by omega) (by simp; omega) (w9.heap.size + 1) (by simp) ?_; intro gg2 cc2 w10 hown2 hgrow2 hat2 hlt10; have hg2 := grow_of0 hgrow2)))
                      have hput2 := hput.putN (t := ⟨0, (b.drop p).take (q - p), p⟩) hown2 hg2 (hat2.imp id (fun e => by omega))
                      have HPUT := hide hput2
                      clear hown1 hg1 hgrow hat hlt9 hput hown2 hg2 hgrow2 hat2 hlt10 hput2 hcv
                      go_roundw
                      case rel =>
                        obtain ⟨f', hri⟩ := HSTEP.out.1
                        exact ⟨_, rfl, _, _, _, _, q, _, _, f', by rw [List.length_append, List.length_singleton], by rw [List.length_append, List.length_singleton], rfl, by have := HPUT.out; simp only [List.length_append, List.length_singleton] at this ⊢; exact this, hri⟩
                      case measure => simp [intOf]; omega
                    | false =>
                      rw [hE] at hends
                      have HE := hide hends
                      have hln : line l p = l := by unfold line; rw [if_neg (by rw [hE]; decide)]
                      rw [hln] at hst
                      have HSTEP := hide (HI.out.step HDR.out hst)
                      clear hends hE hln hst hB
                      go_wp2_with fail
                      refine HE.out.mono ?_
                      rintro e w1 ⟨rfl, hb1⟩
                      have HR1 := hide (HR.out.to hb1)
                      have HA1 := hide (HBA.out.below HR1.out.below)
                      clear hb1
                      have hcv := HA1.out.cv p (q - p) (by omega)
                      have hbs : w.heap.size ≤ w1.heap.size := HR1.out.below.size
                      go_wp2_with ((at_builtin; refine wpList_append_lies _ rfl _ _ _ rfl w.heap.size 54 i0 _ 3 32 Tryd.underlying31 hi0 hz0 hz1 hz2 rfl (by omega) (.slice A' ns.length c') ns.length (toks ns) rfl (HR1.out.on.alloc _) ⟨w1.heap.size, 0, none⟩ 1 1 [.int .i64 0, .string (bs ((b.drop p).take (q - p))), .int .i64 (p : Int)] rfl rfl (World.news_of_block (cs := #[.int .i64 0, .string (bs ((b.drop p).take (q - p))), .int .i64 (p : Int)]) (t := 54) (fr := (0, 0)) (heap_alloc_new w1 _)) (by simp [Value.oneCell']) (by omega) (by simp only [maxLen]; omega) (by omega) (by simp; omega) (w1.heap.size + 1) (by simp) ?_; intro gg cc w9 hown1 hgrow hat hlt9; have hg1 := grow_of0 hgrow))
                      have hput := HR1.out.putN (t := ⟨0, (b.drop p).take (q - p), p⟩) hown1 hg1 (hat.imp id (fun e => by omega))
                      have HPUT := hide hput
                      clear hown1 hg1 hgrow hat hlt9 hput hcv
                      go_roundw
                      case rel =>
                        obtain ⟨f', hri⟩ := HSTEP.out.1
                        exact ⟨_, rfl, _, _, _, _, q, _, _, f', rfl, by rw [List.length_append, List.length_singleton], rfl, by rw [List.length_append, List.length_singleton]; exact HPUT.out, hri⟩
                      case measure => simp [intOf]; omega
                  | false =>
                    rw [if_neg (of_decide_eq_false hB)] at hst
                    have HSTEP := hide (HI.out.step HDR.out hst)
                    clear hst hB
                    have hcv := HA.out.cv p (q - p) (by omega)
                    have hbs : w.heap.size ≤ W.heap.size := HR.out.below.size
                    go_wp2_with ((at_builtin; refine wpList_append_lies _ rfl _ _ _ rfl w.heap.size 54 i0 _ 3 32 Tryd.underlying31 hi0 hz0 hz1 hz2 rfl (by omega) (.slice A' ns.length c') ns.length (toks ns) rfl (HR.out.on.alloc _) ⟨W.heap.size, 0, none⟩ 1 1 [.int .i64 0, .string (bs ((b.drop p).take (q - p))), .int .i64 (p : Int)] rfl rfl (World.news_of_block (cs := #[.int .i64 0, .string (bs ((b.drop p).take (q - p))), .int .i64 (p : Int)]) (t := 54) (fr := (0, 0)) (heap_alloc_new W _)) (by simp [Value.oneCell']) (by omega) (by simp only [maxLen]; omega) (by omega) (by simp; omega) (W.heap.size + 1) (by simp) ?_; intro gg cc w9 hown1 hgrow hat hlt9; have hg1 := grow_of0 hgrow))
                    have hput := HR.out.putN (t := ⟨0, (b.drop p).take (q - p), p⟩) hown1 hg1 (hat.imp id (fun e => by omega))
                    have HPUT := hide hput
                    clear hown1 hg1 hgrow hat hlt9 hput hcv
                    go_roundw
                    case rel =>
                      obtain ⟨f', hri⟩ := HSTEP.out.1
                      exact ⟨_, rfl, _, _, _, _, q, _, _, f', rfl, by rw [List.length_append, List.length_singleton], rfl, by rw [List.length_append, List.length_singleton]; exact HPUT.out, hri⟩
                    case measure => simp [intOf]; omega
          | none =>
            rw [hno] at hpc
            simp only at hpc
            have hv : noteInt b p = 0 := noteInt_none (by rw [HDR.out]; exact hno)
            rw [hv] at hnote
            have HNOTE := hide hnote
            clear hno hv hnote
            have hlet := rletter_byte d
            have hfig := rfigure_byte d
            cases hd1 : letter d with
            | true =>
              rw [hd1] at hlet
              rw [if_pos hd1] at hpc
              have HLET := hide hlet
              have HPC := hide hpc
              clear hlet hfig hpc hd1
              as_aux_lemma =>
              have HENDS := hide hends; clear hends
              go_wp2_with fail
              refine HNOTE.out.mono ?_
              rintro e w' ⟨rfl, rfl⟩
              go_wp2_with fail
              refine (HLET.out W).mono ?_
              rintro e w' ⟨rfl, rfl⟩
              go_wp2_with fail
              go_loop [11] (fun i => ∃ k : Nat, p + 1 ≤ k ∧ k ≤ b.length ∧ i = .int .i64 (k : Int) ∧ ∀ x ∈ r.take (k - (p + 1)), alnum x = true) (fun i => b.length - (intOf i).toNat)
              case atStart => exact ⟨p + 1, Nat.le_refl _, by omega, by go_num, by simp⟩
              case round =>
                obtain ⟨q, hq1, hq2, rfl, hall⟩ := hrel
                have hrl : r.length = b.length - (p + 1) := by rw [← HRR.out, List.length_drop]
                have hspan := span_all r (q - (p + 1)) (by omega) hall
                have HALL := hide hall; clear hall
                have HSPAN := hide hspan; clear hspan
                have HRL := hide hrl; clear hrl
                have q0 : (0 : Int) ≤ (q : Int) := by omega
                have q9 : (q : Int) ≤ 65536 := by omega
                have q3 : (p : Int) < (q : Int) := by omega
                have q4 : (q : Int) ≤ (b.length : Int) := by omega
                by_cases hqb : q < b.length
                · have q5 : (q : Int) < (b.length : Int) := by omega
                  have q6 : decide ((q : Int) < (b.length : Int)) = true := decide_eq_true q5
                  have ck := HA.out.2 q hqb
                  have hdrq : r.drop (q - (p + 1)) = b[q]'hqb :: b.drop (q + 1) := by
                    rw [← HRR.out, List.drop_drop, show p + 1 + (q - (p + 1)) = q from by omega, List.drop_eq_getElem_cons hqb]
                  have htake : r.take (q + 1 - (p + 1)) = r.take (q - (p + 1)) ++ [b[q]'hqb] := by
                    rw [show q + 1 - (p + 1) = (q - (p + 1)) + 1 from by omega]
                    have hlt9 : q - (p + 1) < r.length := by have := HRL.out; omega
                    rw [List.take_succ_eq_append_getElem hlt9]
                    congr 2
                    have := List.drop_eq_getElem_cons hlt9
                    rw [hdrq] at this
                    injection this with h _
                    exact h.symm
                  obtain ⟨y, hy⟩ : ∃ y, b[q]'hqb = y := ⟨_, rfl⟩
                  rw [hy] at ck htake hdrq
                  clear hy
                  have hl := rletter_byte y
                  have hf := rfigure_byte y
                  cases hy1 : letter y with
                  | true =>
                    have HN : Hid (∀ x ∈ r.take (q + 1 - (p + 1)), alnum x = true) := hide (by
                      rw [htake]; intro x hx
                      rcases List.mem_append.1 hx with hx | hx
                      · exact HALL.out x hx
                      · rw [List.mem_singleton.1 hx]; unfold alnum; rw [hy1]; rfl)
                    rw [hy1] at hl
                    have HL := hide hl
                    clear hl hf hy1 htake hdrq
                    go_wp2_with fail
                    refine (HL.out W).mono ?_
                    rintro e w' ⟨rfl, rfl⟩
                    go_wp2_with fail
                    go_round
                    case rel => exact ⟨q + 1, by omega, by omega, by go_num, HN.out⟩
                    case measure => simp [intOf]; omega
                  | false =>
                    cases hy2 : figure y with
                    | true =>
                      have HN : Hid (∀ x ∈ r.take (q + 1 - (p + 1)), alnum x = true) := hide (by
                        rw [htake]; intro x hx
                        rcases List.mem_append.1 hx with hx | hx
                        · exact HALL.out x hx
                        · rw [List.mem_singleton.1 hx]; unfold alnum; rw [hy2, Bool.or_true])
                      rw [hy1] at hl
                      rw [hy2] at hf
                      have HL := hide hl
                      have HF := hide hf
                      clear hl hf hy1 hy2 htake hdrq
                      go_wp2_with fail
                      refine (HL.out W).mono ?_
                      rintro e w' ⟨rfl, rfl⟩
                      go_wp2_with fail
                      refine (HF.out W).mono ?_
                      rintro e w' ⟨rfl, rfl⟩
                      go_wp2_with fail
                      go_round
                      case rel => exact ⟨q + 1, by omega, by omega, by go_num, HN.out⟩
                      case measure => simp [intOf]; omega
                    | false =>
                      have hsp : span r = q - (p + 1) := HSPAN.out.2.2 y _ hdrq (by unfold alnum; rw [hy1, hy2]; rfl)
                      have hst : stepL (d :: r) p l ns = some (q, l ++ [⟨1 + word ((b.drop p).take (q - p)), (b.drop p).take (q - p), p⟩], ns) := by
                        have ht : (b.drop p).take (q - p) = d :: r.takeWhile alnum := by
                          rw [HDR.out, show q - p = span r + 1 from by have := hsp; omega, List.take_succ_cons, take_span]
                        unfold stepL
                        rw [HPC.out]
                        simp only
                        rw [ht, show p + (span r + 1) = q from by have := hsp; omega, List.take_succ_cons, take_span]
                      rw [hy1] at hl
                      rw [hy2] at hf
                      have HL := hide hl
                      have HF := hide hf
                      clear hl hf hy1 hy2 htake hdrq hsp
                      go_wp2_with fail
                      refine (HL.out W).mono ?_
                      rintro e w' ⟨rfl, rfl⟩
                      go_wp2_with fail
                      refine (HF.out W).mono ?_
                      rintro e w' ⟨rfl, rfl⟩
                      have hw1 := rword_any W ((b.drop p).take (q - p))
                      have hcvw := HA.out.cv p (q - p) (by omega)
                      obtain ⟨V, hV⟩ : ∃ V, word ((b.drop p).take (q - p)) = V := ⟨_, rfl⟩
                      have hv3 := word_le ((b.drop p).take (q - p))
                      rw [hV] at hw1 hst hv3
                      have hv4 : (V : Int) ≤ 2 := by omega
                      have HV3 := hide hv3
                      have HWD := hide hw1
                      have HSTEP := hide (HI.out.step HDR.out hst)
                      clear hw1 hV hst hv3
                      go_wp2_with fail
                      refine (HLET.out W).mono ?_
                      rintro e w' ⟨rfl, rfl⟩
                      go_wp2_with fail
                      refine HWD.out.mono ?_
                      rintro e w1 ⟨rfl, hb1⟩
                      have HR1 := hide (HR.out.to hb1)
                      have HA1 := hide (HBA.out.below HR1.out.below)
                      clear hb1 hcvw
                      have kc : (0 : Int) < 1 + (V : Int) := by omega
                      have hcv := HA1.out.cv p (q - p) (by omega)
                      have hbs : w.heap.size ≤ w1.heap.size := HR1.out.below.size
                      go_wp2_with ((at_builtin; refine wpList_append_lies _ rfl _ _ _ rfl w.heap.size 54 i0 _ 3 32 Tryd.underlying31 hi0 hz0 hz1 hz2 rfl (by omega) (.slice A l.length c) l.length (toks l) rfl (HR1.out.ol.alloc _) ⟨w1.heap.size, 0, none⟩ 1 1 [.int .i64 (1 + (V : Int)), .string (bs ((b.drop p).take (q - p))), .int .i64 (p : Int)] rfl rfl (World.news_of_block (cs := #[.int .i64 (1 + (V : Int)), .string (bs ((b.drop p).take (q - p))), .int .i64 (p : Int)]) (t := 54) (fr := (0, 0)) (heap_alloc_new w1 _)) (by simp [Value.oneCell']) (by omega) (by simp only [maxLen]; omega) (by omega) (by simp; omega) (w1.heap.size + 1) (by simp) ?_; intro gg cc w9 hown1 hgrow hat hlt9; have hg1 := grow_of0 hgrow))
                      have hput := HR1.out.putL (t := ⟨1 + V, (b.drop p).take (q - p), p⟩) (kind_ok V _ _ HV3.out) hown1 hg1 (hat.imp id (fun e => by omega))
                      have HPUT := hide (by have := hput; exact this)
                      clear hown1 hg1 hgrow hat hlt9 hput hcv
                      go_roundw
                      case rel =>
                        obtain ⟨f', hri⟩ := HSTEP.out.1
                        exact ⟨_, rfl, _, _, _, _, q, _, _, f', by rw [List.length_append, List.length_singleton], rfl, rfl, by rw [List.length_append, List.length_singleton]; exact HPUT.out, hri⟩
                      case measure => simp [intOf]; omega
                · have q5 : ¬ (q : Int) < (b.length : Int) := by omega
                  have q6 : decide ((q : Int) < (b.length : Int)) = false := decide_eq_false q5
                  have hsp : span r = q - (p + 1) := HSPAN.out.2.1 (by have := HRL.out; omega)
                  have hst : stepL (d :: r) p l ns = some (q, l ++ [⟨1 + word ((b.drop p).take (q - p)), (b.drop p).take (q - p), p⟩], ns) := by
                    have ht : (b.drop p).take (q - p) = d :: r.takeWhile alnum := by
                      rw [HDR.out, show q - p = span r + 1 from by have := hsp; omega, List.take_succ_cons, take_span]
                    unfold stepL
                    rw [HPC.out]
                    simp only
                    rw [ht, show p + (span r + 1) = q from by have := hsp; omega, List.take_succ_cons, take_span]
                  clear hsp
                  have hw1 := rword_any W ((b.drop p).take (q - p))
                  have hcvw := HA.out.cv p (q - p) (by omega)
                  obtain ⟨V, hV⟩ : ∃ V, word ((b.drop p).take (q - p)) = V := ⟨_, rfl⟩
                  have hv3 := word_le ((b.drop p).take (q - p))
                  rw [hV] at hw1 hst hv3
                  have hv4 : (V : Int) ≤ 2 := by omega
                  have HV3 := hide hv3
                  have HWD := hide hw1
                  have HSTEP := hide (HI.out.step HDR.out hst)
                  clear hw1 hV hst hv3
                  go_wp2_with fail
                  refine (HLET.out W).mono ?_
                  rintro e w' ⟨rfl, rfl⟩
                  go_wp2_with fail
                  refine HWD.out.mono ?_
                  rintro e w1 ⟨rfl, hb1⟩
                  have HR1 := hide (HR.out.to hb1)
                  have HA1 := hide (HBA.out.below HR1.out.below)
                  clear hb1 hcvw
                  have kc : (0 : Int) < 1 + (V : Int) := by omega
                  have hcv := HA1.out.cv p (q - p) (by omega)
                  have hbs : w.heap.size ≤ w1.heap.size := HR1.out.below.size
                  go_wp2_with ((at_builtin; refine wpList_append_lies _ rfl _ _ _ rfl w.heap.size 54 i0 _ 3 32 Tryd.underlying31 hi0 hz0 hz1 hz2 rfl (by omega) (.slice A l.length c) l.length (toks l) rfl (HR1.out.ol.alloc _) ⟨w1.heap.size, 0, none⟩ 1 1 [.int .i64 (1 + (V : Int)), .string (bs ((b.drop p).take (q - p))), .int .i64 (p : Int)] rfl rfl (World.news_of_block (cs := #[.int .i64 (1 + (V : Int)), .string (bs ((b.drop p).take (q - p))), .int .i64 (p : Int)]) (t := 54) (fr := (0, 0)) (heap_alloc_new w1 _)) (by simp [Value.oneCell']) (by omega) (by simp only [maxLen]; omega) (by omega) (by simp; omega) (w1.heap.size + 1) (by simp) ?_; intro gg cc w9 hown1 hgrow hat hlt9; have hg1 := grow_of0 hgrow))
                  have hput := HR1.out.putL (t := ⟨1 + V, (b.drop p).take (q - p), p⟩) (kind_ok V _ _ HV3.out) hown1 hg1 (hat.imp id (fun e => by omega))
                  have HPUT := hide (by have := hput; exact this)
                  clear hown1 hg1 hgrow hat hlt9 hput hcv
                  go_roundw
                  case rel =>
                    obtain ⟨f', hri⟩ := HSTEP.out.1
                    exact ⟨_, rfl, _, _, _, _, q, _, _, f', by rw [List.length_append, List.length_singleton], rfl, rfl, by rw [List.length_append, List.length_singleton]; exact HPUT.out, hri⟩
                  case measure => simp [intOf]; omega
            | false =>
              rw [hd1] at hlet
              rw [if_neg (by rw [hd1]; decide)] at hpc
              have HLET := hide hlet
              clear hlet
              cases hd2 : figure d with
              | true =>
                rw [hd2] at hfig
                rw [if_pos hd2] at hpc
                have HFIG := hide hfig
                have HPC := hide hpc
                clear hfig hpc hd1 hd2
                as_aux_lemma =>
                have HENDS := hide hends; clear hends
                go_wp2_with fail
                refine HNOTE.out.mono ?_
                rintro e w' ⟨rfl, rfl⟩
                go_wp2_with fail
                refine (HLET.out W).mono ?_
                rintro e w' ⟨rfl, rfl⟩
                go_wp2_with fail
                refine (HFIG.out W).mono ?_
                rintro e w' ⟨rfl, rfl⟩
                go_wp2_with fail
                go_loop [11] (fun i => ∃ k : Nat, p + 1 ≤ k ∧ k ≤ b.length ∧ i = .int .i64 (k : Int) ∧ ∀ x ∈ r.take (k - (p + 1)), alnum x = true) (fun i => b.length - (intOf i).toNat)
                case atStart => exact ⟨p + 1, Nat.le_refl _, by omega, by go_num, by simp⟩
                case round =>
                  obtain ⟨q, hq1, hq2, rfl, hall⟩ := hrel
                  have hrl : r.length = b.length - (p + 1) := by rw [← HRR.out, List.length_drop]
                  have hspan := span_all r (q - (p + 1)) (by omega) hall
                  have HALL := hide hall; clear hall
                  have HSPAN := hide hspan; clear hspan
                  have HRL := hide hrl; clear hrl
                  have q0 : (0 : Int) ≤ (q : Int) := by omega
                  have q9 : (q : Int) ≤ 65536 := by omega
                  have q3 : (p : Int) < (q : Int) := by omega
                  have q4 : (q : Int) ≤ (b.length : Int) := by omega
                  by_cases hqb : q < b.length
                  · have q5 : (q : Int) < (b.length : Int) := by omega
                    have q6 : decide ((q : Int) < (b.length : Int)) = true := decide_eq_true q5
                    have ck := HA.out.2 q hqb
                    have hdrq : r.drop (q - (p + 1)) = b[q]'hqb :: b.drop (q + 1) := by
                      rw [← HRR.out, List.drop_drop, show p + 1 + (q - (p + 1)) = q from by omega, List.drop_eq_getElem_cons hqb]
                    have htake : r.take (q + 1 - (p + 1)) = r.take (q - (p + 1)) ++ [b[q]'hqb] := by
                      rw [show q + 1 - (p + 1) = (q - (p + 1)) + 1 from by omega]
                      have hlt9 : q - (p + 1) < r.length := by have := HRL.out; omega
                      rw [List.take_succ_eq_append_getElem hlt9]
                      congr 2
                      have := List.drop_eq_getElem_cons hlt9
                      rw [hdrq] at this
                      injection this with h _
                      exact h.symm
                    obtain ⟨y, hy⟩ : ∃ y, b[q]'hqb = y := ⟨_, rfl⟩
                    rw [hy] at ck htake hdrq
                    clear hy
                    have hl := rletter_byte y
                    have hf := rfigure_byte y
                    cases hy1 : letter y with
                    | true =>
                      have HN : Hid (∀ x ∈ r.take (q + 1 - (p + 1)), alnum x = true) := hide (by
                        rw [htake]; intro x hx
                        rcases List.mem_append.1 hx with hx | hx
                        · exact HALL.out x hx
                        · rw [List.mem_singleton.1 hx]; unfold alnum; rw [hy1]; rfl)
                      rw [hy1] at hl
                      have HL := hide hl
                      clear hl hf hy1 htake hdrq
                      go_wp2_with fail
                      refine (HL.out W).mono ?_
                      rintro e w' ⟨rfl, rfl⟩
                      go_wp2_with fail
                      go_round
                      case rel => exact ⟨q + 1, by omega, by omega, by go_num, HN.out⟩
                      case measure => simp [intOf]; omega
                    | false =>
                      cases hy2 : figure y with
                      | true =>
                        have HN : Hid (∀ x ∈ r.take (q + 1 - (p + 1)), alnum x = true) := hide (by
                          rw [htake]; intro x hx
                          rcases List.mem_append.1 hx with hx | hx
                          · exact HALL.out x hx
                          · rw [List.mem_singleton.1 hx]; unfold alnum; rw [hy2, Bool.or_true])
                        rw [hy1] at hl
                        rw [hy2] at hf
                        have HL := hide hl
                        have HF := hide hf
                        clear hl hf hy1 hy2 htake hdrq
                        go_wp2_with fail
                        refine (HL.out W).mono ?_
                        rintro e w' ⟨rfl, rfl⟩
                        go_wp2_with fail
                        refine (HF.out W).mono ?_
                        rintro e w' ⟨rfl, rfl⟩
                        go_wp2_with fail
                        go_round
                        case rel => exact ⟨q + 1, by omega, by omega, by go_num, HN.out⟩
                        case measure => simp [intOf]; omega
                      | false =>
                        have hsp : span r = q - (p + 1) := HSPAN.out.2.2 y _ hdrq (by unfold alnum; rw [hy1, hy2]; rfl)
                        have hst : stepL (d :: r) p l ns = some (q, l ++ [⟨4, (b.drop p).take (q - p), p⟩], ns) := by
                          unfold stepL
                          rw [HPC.out]
                          simp only
                          rw [HDR.out, show p + (span r + 1) = q from by have := hsp; omega, show q - p = span r + 1 from by have := hsp; omega]
                        rw [hy1] at hl
                        rw [hy2] at hf
                        have HL := hide hl
                        have HF := hide hf
                        clear hl hf hy1 hy2 htake hdrq hsp
                        go_wp2_with fail
                        refine (HL.out W).mono ?_
                        rintro e w' ⟨rfl, rfl⟩
                        go_wp2_with fail
                        refine (HF.out W).mono ?_
                        rintro e w' ⟨rfl, rfl⟩
                        have HSTEP := hide (HI.out.step HDR.out hst)
                        clear hst
                        go_wp2_with fail
                        refine (HLET.out W).mono ?_
                        rintro e w' ⟨rfl, rfl⟩
                        have hcv := HA.out.cv p (q - p) (by omega)
                        have hbs : w.heap.size ≤ W.heap.size := HR.out.below.size
                        go_wp2_with ((at_builtin; refine wpList_append_lies _ rfl _ _ _ rfl w.heap.size 54 i0 _ 3 32 Tryd.underlying31 hi0 hz0 hz1 hz2 rfl (by omega) (.slice A l.length c) l.length (toks l) rfl (HR.out.ol.alloc _) ⟨W.heap.size, 0, none⟩ 1 1 [.int .i64 4, .string (bs ((b.drop p).take (q - p))), .int .i64 (p : Int)] rfl rfl (World.news_of_block (cs := #[.int .i64 4, .string (bs ((b.drop p).take (q - p))), .int .i64 (p : Int)]) (t := 54) (fr := (0, 0)) (heap_alloc_new W _)) (by simp [Value.oneCell']) (by omega) (by simp only [maxLen]; omega) (by omega) (by simp; omega) (W.heap.size + 1) (by simp) ?_; intro gg cc w9 hown1 hgrow hat hlt9; have hg1 := grow_of0 hgrow))
                        have hput := HR.out.putL (t := ⟨4, (b.drop p).take (q - p), p⟩) (num_ok _ _) hown1 hg1 (hat.imp id (fun e => by omega))
                        have HPUT := hide (by have := hput; exact this)
                        clear hown1 hg1 hgrow hat hlt9 hput hcv
                        go_roundw
                        case rel =>
                          obtain ⟨f', hri⟩ := HSTEP.out.1
                          exact ⟨_, rfl, _, _, _, _, q, _, _, f', by rw [List.length_append, List.length_singleton], rfl, rfl, by rw [List.length_append, List.length_singleton]; exact HPUT.out, hri⟩
                        case measure => simp [intOf]; omega
                  · have q5 : ¬ (q : Int) < (b.length : Int) := by omega
                    have q6 : decide ((q : Int) < (b.length : Int)) = false := decide_eq_false q5
                    have hsp : span r = q - (p + 1) := HSPAN.out.2.1 (by have := HRL.out; omega)
                    have hst : stepL (d :: r) p l ns = some (q, l ++ [⟨4, (b.drop p).take (q - p), p⟩], ns) := by
                      unfold stepL
                      rw [HPC.out]
                      simp only
                      rw [HDR.out, show p + (span r + 1) = q from by have := hsp; omega, show q - p = span r + 1 from by have := hsp; omega]
                    clear hsp
                    have HSTEP := hide (HI.out.step HDR.out hst)
                    clear hst
                    go_wp2_with fail
                    refine (HLET.out W).mono ?_
                    rintro e w' ⟨rfl, rfl⟩
                    have hcv := HA.out.cv p (q - p) (by omega)
                    have hbs : w.heap.size ≤ W.heap.size := HR.out.below.size
                    go_wp2_with ((at_builtin; refine wpList_append_lies _ rfl _ _ _ rfl w.heap.size 54 i0 _ 3 32 Tryd.underlying31 hi0 hz0 hz1 hz2 rfl (by omega) (.slice A l.length c) l.length (toks l) rfl (HR.out.ol.alloc _) ⟨W.heap.size, 0, none⟩ 1 1 [.int .i64 4, .string (bs ((b.drop p).take (q - p))), .int .i64 (p : Int)] rfl rfl (World.news_of_block (cs := #[.int .i64 4, .string (bs ((b.drop p).take (q - p))), .int .i64 (p : Int)]) (t := 54) (fr := (0, 0)) (heap_alloc_new W _)) (by simp [Value.oneCell']) (by omega) (by simp only [maxLen]; omega) (by omega) (by simp; omega) (W.heap.size + 1) (by simp) ?_; intro gg cc w9 hown1 hgrow hat hlt9; have hg1 := grow_of0 hgrow))
                    have hput := HR.out.putL (t := ⟨4, (b.drop p).take (q - p), p⟩) (num_ok _ _) hown1 hg1 (hat.imp id (fun e => by omega))
                    have HPUT := hide (by have := hput; exact this)
                    clear hown1 hg1 hgrow hat hlt9 hput hcv
                    go_roundw
                    case rel =>
                      obtain ⟨f', hri⟩ := HSTEP.out.1
                      exact ⟨_, rfl, _, _, _, _, q, _, _, f', by rw [List.length_append, List.length_singleton], rfl, rfl, by rw [List.length_append, List.length_singleton]; exact HPUT.out, hri⟩
                    case measure => simp [intOf]; omega
              | false =>
                rw [hd2] at hfig
                rw [if_neg (by rw [hd2]; decide)] at hpc
                have HFIG := hide hfig
                clear hfig
                by_cases hqt : d = 34 ∨ d = 96
                · rw [if_pos (by rcases hqt with h | h <;> rw [h] <;> rfl)] at hpc
                  have hqq := rquoted_any W a o cap b HA.out hlen p hlt d HD.out hqt
                  have hgd : b.getD p 0 = d := by rw [List.getD_eq_getElem?_getD, List.getElem?_eq_getElem hlt, HD.out]; rfl
                  have hb3 : (((d.toNat : Int)) == 34) = true ∨ ((((d.toNat : Int)) == 34) = false ∧ (((d.toNat : Int)) == 96) = true) := by
                    rcases hqt with h | h
                    · exact .inl (by rw [h]; rfl)
                    · exact .inr ⟨by rw [h]; rfl, by rw [h]; rfl⟩
                  cases hql : quotedLen d false r with
                  | none =>
                    have hv : quotedInt b p = -1 := by unfold quotedInt; rw [hgd, HRR.out, hql]
                    rw [hv] at hqq
                    have hst : stepL (d :: r) p l ns = none := by unfold stepL; rw [hpc, hql]
                    have HSTOP := hide (HI.out.stop HDR.out hst)
                    have HQ := hide hqq
                    clear hqq hv hst hql hpc hgd hqt hd1 hd2 hends
                    as_aux_lemma =>
                    rcases hb3 with e34 | ⟨e34, e96⟩
                    all_goals
                      go_wp2_with fail
                      refine HNOTE.out.mono ?_
                      rintro e w' ⟨rfl, rfl⟩
                      go_wp2_with fail
                      refine (HLET.out W).mono ?_
                      rintro e w' ⟨rfl, rfl⟩
                      go_wp2_with fail
                      refine (HFIG.out W).mono ?_
                      rintro e w' ⟨rfl, rfl⟩
                      go_wp2_with fail
                      refine HQ.out.mono ?_
                      rintro e w1 ⟨rfl, hb1⟩
                      have HFIN := hide (RScanRet.bad (b := b) (w := w) (w' := w1) (p := p) (k := 3) (by rw [hs.out, HSTOP.out]) (HR.out.to hb1).below)
                      clear hb1
                      go_wp2_with fail
                      refine bodyPost_ret (results_tmp4 rfl _ _ _) rfl ?_
                      exact HFIN.out
                  | some n =>
                    have hnl := quotedLen_le _ _ _ _ hql
                    have hrl : r.length = b.length - (p + 1) := by rw [← HRR.out, List.length_drop]
                    rw [hrl] at hnl
                    obtain ⟨q, hq⟩ : ∃ q, p + 1 + n = q := ⟨_, rfl⟩
                    have hv : quotedInt b p = (q : Int) := by unfold quotedInt; rw [hgd, HRR.out, hql, ← hq]
                    rw [hv] at hqq
                    have hst : stepL (d :: r) p l ns = some (q, l ++ [⟨5, (b.drop p).take (q - p), p⟩], ns) := by
                      unfold stepL; rw [hpc, hql]
                      simp only
                      rw [HDR.out, show p + (n + 1) = q from by omega, show q - p = n + 1 from by omega]
                    have HSTEP := hide (HI.out.step HDR.out hst)
                    have HQ := hide hqq
                    have q1 : p < q := by omega
                    have q2 : q ≤ b.length := by omega
                    have q3 : (p : Int) < (q : Int) := by omega
                    have q4 : (q : Int) ≤ (b.length : Int) := by omega
                    have q6 : ¬ (q : Int) < 0 := by omega
                    clear hqq hv hst hql hpc hgd hqt hd1 hd2 hends hnl hrl hq
                    as_aux_lemma =>
                    rcases hb3 with e34 | ⟨e34, e96⟩
                    all_goals
                      go_wp2_with fail
                      refine HNOTE.out.mono ?_
                      rintro e w' ⟨rfl, rfl⟩
                      go_wp2_with fail
                      refine (HLET.out W).mono ?_
                      rintro e w' ⟨rfl, rfl⟩
                      go_wp2_with fail
                      refine (HFIG.out W).mono ?_
                      rintro e w' ⟨rfl, rfl⟩
                      go_wp2_with fail
                      refine HQ.out.mono ?_
                      rintro e w1 ⟨rfl, hb1⟩
                      have HR1 := hide (HR.out.to hb1)
                      have HA1 := hide (HBA.out.below HR1.out.below)
                      clear hb1
                      have hcv := HA1.out.cv p (q - p) (by omega)
                      have hbs : w.heap.size ≤ w1.heap.size := HR1.out.below.size
                      go_wp2_with ((at_builtin; refine wpList_append_lies _ rfl _ _ _ rfl w.heap.size 54 i0 _ 3 32 Tryd.underlying31 hi0 hz0 hz1 hz2 rfl (by omega) (.slice A l.length c) l.length (toks l) rfl (HR1.out.ol.alloc _) ⟨w1.heap.size, 0, none⟩ 1 1 [.int .i64 5, .string (bs ((b.drop p).take (q - p))), .int .i64 (p : Int)] rfl rfl (World.news_of_block (cs := #[.int .i64 5, .string (bs ((b.drop p).take (q - p))), .int .i64 (p : Int)]) (t := 54) (fr := (0, 0)) (heap_alloc_new w1 _)) (by simp [Value.oneCell']) (by omega) (by simp only [maxLen]; omega) (by omega) (by simp; omega) (w1.heap.size + 1) (by simp) ?_; intro gg cc w9 hown1 hgrow hat hlt9; have hg1 := grow_of0 hgrow))
                      have hput := HR1.out.putL (t := ⟨5, (b.drop p).take (q - p), p⟩) (text_ok _ _) hown1 hg1 (hat.imp id (fun e => by omega))
                      have HPUT := hide (by have := hput; exact this)
                      clear hown1 hg1 hgrow hat hlt9 hput hcv
                      go_roundw
                      case rel =>
                        obtain ⟨f', hri⟩ := HSTEP.out.1
                        exact ⟨_, rfl, _, _, _, _, q, _, _, f', by rw [List.length_append, List.length_singleton], rfl, rfl, by rw [List.length_append, List.length_singleton]; exact HPUT.out, hri⟩
                      case measure => simp [intOf]; omega
                · simp only [not_or] at hqt
                  have e34 : (((d.toNat : Int)) == 34) = false := byte_eqF 34 34 hqt.1
                  have e96 : (((d.toNat : Int)) == 96) = false := byte_eqF 96 96 hqt.2
                  rw [if_neg (by simp [hqt.1, hqt.2])] at hpc
                  have hsg := rsign_any W a o cap b HA.out hlen p hlt
                  cases hsl : signLen (d :: r) with
                  | none =>
                    have hv : signInt b p = 0 := by unfold signInt; rw [HDR.out, hsl]
                    rw [hv] at hsg
                    have hst : stepL (d :: r) p l ns = none := by unfold stepL; rw [hpc, hsl]
                    have HSTOP := hide (HI.out.stop HDR.out hst)
                    have HSG := hide hsg
                    clear hsg hv hst hsl hpc hqt hd1 hd2 hends
                    as_aux_lemma =>
                    go_wp2_with fail
                    refine HNOTE.out.mono ?_
                    rintro e w' ⟨rfl, rfl⟩
                    go_wp2_with fail
                    refine (HLET.out W).mono ?_
                    rintro e w' ⟨rfl, rfl⟩
                    go_wp2_with fail
                    refine (HFIG.out W).mono ?_
                    rintro e w' ⟨rfl, rfl⟩
                    go_wp2_with fail
                    refine HSG.out.mono ?_
                    rintro e w1 ⟨rfl, hb1⟩
                    have HFIN := hide (RScanRet.bad (b := b) (w := w) (w' := w1) (p := p) (k := 3) (by rw [hs.out, HSTOP.out]) (HR.out.to hb1).below)
                    clear hb1
                    go_wp2_with fail
                    refine bodyPost_ret (results_tmp4 rfl _ _ _) rfl ?_
                    exact HFIN.out
                  | some n =>
                    have hnl := signLen_le _ _ hsl
                    have hdl : (d :: r).length = b.length - p := by rw [← HDR.out, List.length_drop]
                    rw [hdl] at hnl
                    have hok := sign_ok hsl p
                    obtain ⟨q, hq⟩ : ∃ q, p + n = q := ⟨_, rfl⟩
                    have hv : signInt b p = (n : Int) := by unfold signInt; rw [HDR.out, hsl]
                    rw [hv] at hsg
                    have hst : stepL (d :: r) p l ns = some (q, l ++ [⟨6, (b.drop p).take (q - p), p⟩], ns) := by
                      unfold stepL; rw [hpc, hsl]
                      simp only
                      rw [HDR.out, hq, show q - p = n from by omega]
                    have HOK : Hid (TkOk ⟨6, (b.drop p).take (q - p), p⟩) := hide (by rw [HDR.out, show q - p = n from by omega]; exact hok)
                    have HSTEP := hide (HI.out.step HDR.out hst)
                    have HSG := hide hsg
                    have q1 : p < q := by omega
                    have q2 : q ≤ b.length := by omega
                    have q3 : (p : Int) < (q : Int) := by omega
                    have q4 : (q : Int) ≤ (b.length : Int) := by omega
                    have q5 : (p : Int) + (n : Int) = (q : Int) := by omega
                    have q6 : (((q : Int)) == (p : Int)) = false := by rw [beq_eq_false_iff_ne]; omega
                    clear hsg hv hst hsl hpc hqt hd1 hd2 hends hnl hdl hq hok
                    as_aux_lemma =>
                    go_wp2_with fail
                    refine HNOTE.out.mono ?_
                    rintro e w' ⟨rfl, rfl⟩
                    go_wp2_with fail
                    refine (HLET.out W).mono ?_
                    rintro e w' ⟨rfl, rfl⟩
                    go_wp2_with fail
                    refine (HFIG.out W).mono ?_
                    rintro e w' ⟨rfl, rfl⟩
                    go_wp2_with fail
                    refine HSG.out.mono ?_
                    rintro e w1 ⟨rfl, hb1⟩
                    have HR1 := hide (HR.out.to hb1)
                    have HA1 := hide (HBA.out.below HR1.out.below)
                    clear hb1
                    have hcv := HA1.out.cv p (q - p) (by omega)
                    have hbs : w.heap.size ≤ w1.heap.size := HR1.out.below.size
                    go_wp2_with ((at_builtin; refine wpList_append_lies _ rfl _ _ _ rfl w.heap.size 54 i0 _ 3 32 Tryd.underlying31 hi0 hz0 hz1 hz2 rfl (by omega) (.slice A l.length c) l.length (toks l) rfl (HR1.out.ol.alloc _) ⟨w1.heap.size, 0, none⟩ 1 1 [.int .i64 6, .string (bs ((b.drop p).take (q - p))), .int .i64 (p : Int)] rfl rfl (World.news_of_block (cs := #[.int .i64 6, .string (bs ((b.drop p).take (q - p))), .int .i64 (p : Int)]) (t := 54) (fr := (0, 0)) (heap_alloc_new w1 _)) (by simp [Value.oneCell']) (by omega) (by simp only [maxLen]; omega) (by omega) (by simp; omega) (w1.heap.size + 1) (by simp) ?_; intro gg cc w9 hown1 hgrow hat hlt9; have hg1 := grow_of0 hgrow))
                    have hput := HR1.out.putL (t := ⟨6, (b.drop p).take (q - p), p⟩) HOK.out hown1 hg1 (hat.imp id (fun e => by omega))
                    have HPUT := hide (by have := hput; exact this)
                    clear hown1 hg1 hgrow hat hlt9 hput hcv
                    go_roundw
                    case rel =>
                      obtain ⟨f', hri⟩ := HSTEP.out.1
                      exact ⟨_, rfl, _, _, _, _, q, _, _, f', by rw [List.length_append, List.length_singleton], rfl, rfl, by rw [List.length_append, List.length_singleton]; exact HPUT.out, hri⟩
                    case measure => simp [intOf]; omega
    · -- the end
      have hpe : p = b.length := by omega
      have hlt2 : ¬ (p : Int) < (b.length : Int) := by omega
      have hov := HI.out.over hlt
      have HOV := hide hov; clear hov hpe
      cases hE : ends l with
      | true =>
        rw [hE] at hends
        have HE := hide hends
        have hln : line l b.length = l ++ [⟨6, [10], b.length⟩] := by unfold line; rw [if_pos hE]
        have HLN := hide hln
        clear hends hE hln
        go_wp2_with fail
        refine HE.out.mono ?_
        rintro e w1 ⟨rfl, hb1⟩
        have HR1 := hide (HR.out.to hb1)
        have hbs : w.heap.size ≤ w1.heap.size := HR1.out.below.size
        clear hb1
        go_wp2_with ((at_builtin; refine wpList_append_lies _ rfl _ _ _ rfl w.heap.size 54 i0 _ 3 32 Tryd.underlying31 hi0 hz0 hz1 hz2 rfl (by omega) (.slice A l.length c) l.length (toks l) rfl (HR1.out.ol.alloc _) ⟨w1.heap.size, 0, none⟩ 1 1 [.int .i64 6, .string ⟨#[10]⟩, .int .i64 (b.length : Int)] rfl rfl (World.news_of_block (cs := #[.int .i64 6, .string ⟨#[10]⟩, .int .i64 (b.length : Int)]) (t := 54) (fr := (0, 0)) (heap_alloc_new w1 _)) (by simp [Value.oneCell']) (by omega) (by simp only [maxLen]; omega) (by omega) (by simp; omega) (w1.heap.size + 1) (by simp) ?_; intro gg cc w9 hown1 hgrow hat hlt9; have hg1 := grow_of0 hgrow))
        have hput := HR1.out.putL (t := ⟨6, [10], b.length⟩) (.inr (.inr (.inr (.inr (.inr ⟨rfl, by simp [allSigns]⟩))))) hown1 hg1 (hat.imp id (fun e => by omega))
        refine bodyPost_ret (results_tmp4 rfl _ _ _) rfl ?_
        have hl1 : (l ++ [(⟨6, [10], b.length⟩ : Tk)]).length = l.length + 1 := by simp
        have hg := RScanRet.good (b := b) (w := w) (w' := w9) (l := l ++ [⟨6, [10], b.length⟩]) (ns := ns) (A := some ⟨gg, 0, none⟩) (A' := A') (c := cc) (c' := c') (by rw [hs.out, HOV.out, HLN.out]) (by rw [hl1]; exact hput)
        rw [hl1] at hg
        exact hg
      | false =>
        rw [hE] at hends
        have HE := hide hends
        have hln : line l b.length = l := by unfold line; rw [if_neg (by rw [hE]; decide)]
        have HLN := hide hln
        clear hends hE hln
        go_wp2_with fail
        refine HE.out.mono ?_
        rintro e w1 ⟨rfl, hb1⟩
        have HR1 := hide (HR.out.to hb1)
        clear hb1
        go_wp2_with fail
        refine bodyPost_ret (results_tmp4 rfl _ _ _) rfl ?_
        exact RScanRet.good (by rw [hs.out, HOV.out, HLN.out]) HR1.out
end Go.Proofs.YtehflgllfkkfoaaDoor
