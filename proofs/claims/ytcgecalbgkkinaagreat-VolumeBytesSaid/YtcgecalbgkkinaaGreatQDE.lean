/- One text of: Dsf Dsg. -/
import Derived.Test.YtcgecalbgkkinaaGreatQDD
namespace Go.Proofs.YtcgecalbgkkinaaGreat
open Go.ChangeShapes Go.WideShapes Go.ChangeAt Go.RowKit Go.Joins Go.Deep Go.Maps
set_option linter.unusedVariables false
set_option linter.unusedSimpArgs false
theorem zA41 {α : Type} (l : List α) (i : Nat) (a : α) : l.toArray.setIfInBounds i a = (l.set i a).toArray := by simp
theorem zB41 {α : Type} (x a : α) (l : List α) : (x :: l).set 0 a = a :: l := rfl
theorem zC41 {α : Type} (x a : α) (l : List α) (n : Nat) : (x :: l).set (n + 1) a = x :: l.set n a := rfl

theorem alloc_size (w : World) (o : Obj) : (w.alloc o).heap.size = w.heap.size + 1 := by simp
theorem drew_size (w : World) : w.drew.heap.size = w.heap.size := rfl
theorem App0.toOwnA {w w' : World} {e : TypeId} {size : Nat} {a : Addr} {A : Option Addr} {m cap : Nat} {news : List Value} (h : App0 w w' e size a A m cap news) : ∃ G : List Nat, (∀ z ∈ G, w.heap.size ≤ z ∧ z < w'.heap.size) ∧ OwnA w w' G e size A m cap news := by
  rcases Nat.eq_zero_or_pos m with h0 | h0
  · exact ⟨[], (fun z hz => by cases hz), h.len, fun hm => by omega⟩
  · obtain ⟨h1, g, rfl, hg⟩ := h.own h0
    refine ⟨[g], fun z hz => ?_, h.len, fun _ => ⟨g, rfl, List.mem_cons_self .., hg, h1⟩⟩
    rw [List.mem_singleton.1 hz]
    exact ⟨hg, own_lt h1 rfl⟩
theorem OwnA.mono {W W' w : World} {no : List Nat} {t : TypeId} {n : Nat} {A : Option Addr} {m c : Nat} {news : List Value} (h : OwnA W w no t n A m c news) (hs : W'.heap.size ≤ W.heap.size) : OwnA W' w no t n A m c news :=
  ⟨h.1, fun hm => by
    obtain ⟨g, e, h1, h2, h3⟩ := h.2 hm
    exact ⟨g, e, h1, Nat.le_trans hs h2, h3⟩⟩
theorem DO.mono {W W' w : World} {no av : List Nat} {x : DV} {S : Vst} (h : DO W w no av x S) (hs : W'.heap.size ≤ W.heap.size) : DO W' w no av x S :=
  ⟨h.eV, h.eC, h.sV, h.sC, h.lt, h.sub, h.op.mono hs, h.ov.mono hs, h.oc.mono hs⟩
/-- a clone is one's own -/
theorem DO.ofClone {w w' : World} {no : List Nat} {x : DV} {S : Vst} {A1 A2 A3 : Option Addr} {c1 c2 c3 : Nat} {a1 a2 a3 : Addr} (h : DM w no x S) (hno : ∀ z ∈ no, z < w.heap.size) (h1 : App0 w w' 3 1 a1 A1 16 c1 S.picks) (h2 : App0 w w' 43 8 a2 A2 x.V.length c2 (flatC VoM.cells x.V))
    (h3 : App0 w w' 47 5 a3 A3 x.C.length c3 (flatC CkM.cells x.C)) (hb : Below w.heap.size w w') : ∃ G, (∀ z ∈ G, w.heap.size ≤ z) ∧ DO w w' G (G ++ no) ⟨A1, c1, x.V, A2, c2, x.C, A3, c3⟩ S := by
  obtain ⟨G1, g1, o1⟩ := h1.toOwnA
  obtain ⟨G2, g2, o2⟩ := h2.toOwnA
  obtain ⟨G3, g3, o3⟩ := h3.toOwnA
  have hG : ∀ z ∈ G1 ++ G2 ++ G3, w.heap.size ≤ z ∧ z < w'.heap.size := fun z hz => by
    rcases List.mem_append.1 hz with hz | hz
    · rcases List.mem_append.1 hz with hz | hz
      · exact g1 z hz
      · exact g2 z hz
    · exact g3 z hz
  have hp : ∀ z ∈ G1 ++ G2 ++ G3 ++ no, z ∈ no ∨ w.heap.size ≤ z := fun z hz => (List.mem_append.1 hz).elim (fun hz => Or.inr (hG z hz).1) Or.inl
  refine ⟨G1 ++ G2 ++ G3, fun z hz => (hG z hz).1, h.eV, h.eC, fun y hy => ((h.sV y hy).plus hp).below hb, fun y hy => ⟨((h.sC y hy).1.plus hp).below hb, ((h.sC y hy).2.plus hp).below hb⟩, fun z hz => ?_, fun z hz => List.mem_append.2 (Or.inl hz),
    o1.plus (fun z hz => by simp [hz]), o2.plus (fun z hz => by simp [hz]), o3.plus (fun z hz => by simp [hz])⟩
  rcases List.mem_append.1 hz with hz | hz
  · exact (hG z hz).2
  · exact Nat.lt_of_lt_of_le (hno z hz) hb.size
theorem Vst.apply_kind {S : Vst} {q : Cmd} (h : q.k < 1 ∨ 8 < q.k) : S.apply q = (S, 22) := by
  have ha : S.act q = (S, 22) := by
    unfold Vst.act
    rw [if_neg (by omega), if_neg (by omega), if_neg (by omega), if_neg (by omega), if_neg (by omega), if_neg (by omega), if_neg (by omega), if_neg (by omega)]
  unfold Vst.apply
  rw [ha]
  rfl
theorem DM.sub {w : World} {no av : List Nat} {x : DV} {S : Vst} (h : DM w av x S) (hs : ∀ z ∈ no, z ∈ av) : DM w no x S :=
  ⟨h.pk, h.vo, h.ck, h.eV, h.eC, fun y hy => (h.sV y hy).sub hs, fun y hy => ⟨(h.sC y hy).1.sub hs, (h.sC y hy).2.sub hs⟩⟩
theorem DM.plus {w : World} {no no' : List Nat} {x : DV} {S : Vst} (h : DM w no x S) (hs : ∀ z ∈ no', z ∈ no ∨ w.heap.size ≤ z) : DM w no' x S :=
  ⟨h.pk, h.vo, h.ck, h.eV, h.eC, fun y hy => (h.sV y hy).plus hs, fun y hy => ⟨(h.sC y hy).1.plus hs, (h.sC y hy).2.plus hs⟩⟩
/-- the outer slices lie elsewhere, too -/
structure OutA (no : List Nat) (x : DV) : Prop where
  p : ∀ a, x.Ap = some a → a.block ∉ no
  v : x.V ≠ [] → ∀ a, x.Av = some a → a.block ∉ no
  c : x.C ≠ [] → ∀ a, x.Ac = some a → a.block ∉ no
theorem Reads.chgA {w w' : World} {L : List Nat} {n m : Nat} {A : Option Addr} {xs : List Value} (h : Reads w w.heap.size n A m xs) (hc : Chg L w w') (hn : 0 < m → ∀ a, A = some a → a.block ∉ L) : Reads w' w'.heap.size n A m xs :=
  ⟨h.1, fun h0 => by
    obtain ⟨b, o, e, hb, hcell⟩ := h.2 h0
    exact ⟨b, o, e, Nat.lt_of_lt_of_le hb hc.size, fun j u hu => (hc.cell (p := ⟨b, o + j, none⟩) hb (show b ∉ L from hn h0 ⟨b, o, Option.none⟩ e)).trans (hcell j u hu)⟩⟩
theorem DM.chg {w w' : World} {no L : List Nat} {x : DV} {S : Vst} (h : DM w no x S) (ho : OutA no x) (hc : Chg L w w') (hL : ∀ z ∈ L, z ∈ no) : DM w' no x S :=
  ⟨h.pk.chgA hc (fun _ a ha hx => ho.p a ha (hL _ hx)), h.vo.chgA hc (fun h0 a ha hx => ho.v (fun e => by rw [e] at h0; simp at h0) a ha (hL _ hx)), h.ck.chgA hc (fun h0 a ha hx => ho.c (fun e => by rw [e] at h0; simp at h0) a ha (hL _ hx)),
    h.eV, h.eC, fun y hy => (h.sV y hy).chg hc (fun z hz => Or.inl (hL z hz)), fun y hy => ⟨(h.sC y hy).1.chg hc (fun z hz => Or.inl (hL z hz)), (h.sC y hy).2.chg hc (fun z hz => Or.inl (hL z hz))⟩⟩
theorem DO.outA {W w : World} {no av M : List Nat} {x : DV} {S : Vst} (h : DO W w no av x S) (hM : ∀ z ∈ M, z < W.heap.size) : OutA M x := by
  refine ⟨fun a ha hx => ?_, fun h0 a ha hx => ?_, fun h0 a ha hx => ?_⟩
  · obtain ⟨g, e, _, hg, _⟩ := h.op.2 (by omega)
    rw [e] at ha
    cases ha
    have := hM _ hx
    simp only [] at this
    omega
  · obtain ⟨g, e, _, hg, _⟩ := h.ov.2 (List.length_pos_iff.2 h0)
    rw [e] at ha
    cases ha
    have := hM _ hx
    simp only [] at this
    omega
  · obtain ⟨g, e, _, hg, _⟩ := h.oc.2 (List.length_pos_iff.2 h0)
    rw [e] at ha
    cases ha
    have := hM _ hx
    simp only [] at this
    omega
/-- what Apply gives -/
def ApOut18 (w w' : World) (no : List Nat) (R : Vst × Int) (e : Ending) : Prop :=
  ∃ x' : DV, e = .returned (.tuple #[x'.val R.1.nx, .int .i64 R.2]) ∧ DM w' no x' R.1 ∧ OutA no x' ∧ Below w.heap.size w w'
/-- the result is written: the state stands -/
theorem apRet {w0 w w' : World} {br : Nat} {no : List Nat} {x : DV} {S : Vst} (hb : Below w0.heap.size w0 w') (hbr : w0.heap.size ≤ br) (hd : DM w no x S) (hw : Below w.heap.size w w') (hl : w.heap.size ≤ br) (ho : OutA no x) (A1 A2 A3 z : Value) :
    DM ((((w'.setCell ⟨br, 0, none⟩ A1).setCell ⟨br, 1, none⟩ A2).setCell ⟨br, 2, none⟩ A3).setCell ⟨br, 3, none⟩ z) no x S ∧ OutA no x ∧ Below w0.heap.size w0 ((((w'.setCell ⟨br, 0, none⟩ A1).setCell ⟨br, 1, none⟩ A2).setCell ⟨br, 2, none⟩ A3).setCell ⟨br, 3, none⟩ z) := by
  have hc : Chg [br] w' ((((w'.setCell ⟨br, 0, none⟩ A1).setCell ⟨br, 1, none⟩ A2).setCell ⟨br, 2, none⟩ A3).setCell ⟨br, 3, none⟩ z) :=
    ((((Chg.refl _ _).setCell (Or.inl (by simp)) _).setCell (Or.inl (by simp)) _).setCell (Or.inl (by simp)) _).setCell (Or.inl (by simp)) _
  exact ⟨hd.below (Chg.onto hw hw.size hc (fun z hz => by rw [List.mem_singleton.1 hz]; exact hl)), ho, Chg.onto hb hb.size hc (fun z hz => by rw [List.mem_singleton.1 hz]; exact hbr)⟩
theorem apX {w0 w2 : World} {no av : List Nat} {x : DV} {S : Vst} {b : Nat} (h : DO w0 w2 no av x S) (h1 : b ∈ av) (h2 : b ∉ no) (hb : Blk w2 b 31 [.slice none 0 0, .slice none 0 0, .slice none 0 0, .int .i64 0]) (hw : Below w0.heap.size w0 w2) (hl : w0.heap.size ≤ b) (A1 A2 A3 z : Value) :
    DO w0 ((((w2.setCell ⟨b, 0, none⟩ A1).setCell ⟨b, 1, none⟩ A2).setCell ⟨b, 2, none⟩ A3).setCell ⟨b, 3, none⟩ z) no av x S ∧ Blk ((((w2.setCell ⟨b, 0, none⟩ A1).setCell ⟨b, 1, none⟩ A2).setCell ⟨b, 2, none⟩ A3).setCell ⟨b, 3, none⟩ z) b 31 [A1, A2, A3, z] ∧
      Below w0.heap.size w0 ((((w2.setCell ⟨b, 0, none⟩ A1).setCell ⟨b, 1, none⟩ A2).setCell ⟨b, 2, none⟩ A3).setCell ⟨b, 3, none⟩ z) := by
  have hc : Chg [b] w2 ((((w2.setCell ⟨b, 0, none⟩ A1).setCell ⟨b, 1, none⟩ A2).setCell ⟨b, 2, none⟩ A3).setCell ⟨b, 3, none⟩ z) :=
    ((((Chg.refl _ _).setCell (Or.inl (by simp)) _).setCell (Or.inl (by simp)) _).setCell (Or.inl (by simp)) _).setCell (Or.inl (by simp)) _
  exact ⟨h.chg hc (fun z hz => Or.inl (by rw [List.mem_singleton.1 hz]; exact h1)) (fun z hz => by rw [List.mem_singleton.1 hz]; exact h2), (((hb.set 0 A1).set 1 A2).set 2 A3).set 3 z, Chg.onto hw hw.size hc (fun z hz => by rw [List.mem_singleton.1 hz]; exact hl)⟩
theorem apRet2 {w w0 w' : World} {br : Nat} {no no' av' : List Nat} {x : DV} {S : Vst} (h : DO w0 w' no' av' x S) (h1 : br ∈ av') (h2 : br ∉ no') (hs : ∀ z ∈ no, z ∈ av') (hb : Below w.heap.size w w') (hl : w.heap.size ≤ br) (ho : OutA no x) (A1 A2 A3 z : Value) :
    DM ((((w'.setCell ⟨br, 0, none⟩ A1).setCell ⟨br, 1, none⟩ A2).setCell ⟨br, 2, none⟩ A3).setCell ⟨br, 3, none⟩ z) no x S ∧ OutA no x ∧ Below w.heap.size w ((((w'.setCell ⟨br, 0, none⟩ A1).setCell ⟨br, 1, none⟩ A2).setCell ⟨br, 2, none⟩ A3).setCell ⟨br, 3, none⟩ z) := by
  have hc : Chg [br] w' ((((w'.setCell ⟨br, 0, none⟩ A1).setCell ⟨br, 1, none⟩ A2).setCell ⟨br, 2, none⟩ A3).setCell ⟨br, 3, none⟩ z) :=
    ((((Chg.refl _ _).setCell (Or.inl (by simp)) _).setCell (Or.inl (by simp)) _).setCell (Or.inl (by simp)) _).setCell (Or.inl (by simp)) _
  exact ⟨(h.chg hc (fun z hz => Or.inl (by rw [List.mem_singleton.1 hz]; exact h1)) (fun z hz => by rw [List.mem_singleton.1 hz]; exact h2)).dm.sub hs, ho, Chg.onto hb hb.size hc (fun z hz => by rw [List.mem_singleton.1 hz]; exact hl)⟩
theorem apply_err {S S' : Vst} {q : Cmd} {e : Int} (h : S.act q = (S', e)) (he : e ≠ 0) : S.apply q = (S, e) := by
  unfold Vst.apply
  rw [h]
  exact if_neg he
theorem apply_rate {S S' : Vst} {q : Cmd} (h : S.act q = (S', 0)) (ha : S'.admits = false) : S.apply q = (S, 14) := by
  unfold Vst.apply
  rw [h]
  simp only [ha]
  rfl
set_option maxHeartbeats 8000000 in
set_option maxRecDepth 100000 in
theorem dapply_calls (w : World) (no : List Nat) (x : DV) (S : Vst) (n : Nat) (q : Cmd) (h : DM w no x S) (hno : ∀ z ∈ no, z < w.heap.size) (hoa : OutA no x) (ho : VOk S n) (hi : VIn S) (hn : n ≤ 999) (hq : q.ok) (hl : x.V.length ≤ 900) (hlc : x.C.length ≤ 90000) :
    Calls Tryz.prog 10 #[x.val S.nx, q.val] w fun e w' => ApOut18 w w' no (S.apply q) e := by
  have HO := hide (And.intro ho (And.intro hi hq))
  have HNO := hide hno
  have HOA := hide hoa
  have HD := hide h
  obtain ⟨k0, a0, b0, c0, ⟨qr, qw, ql, qb⟩⟩ := q
  obtain ⟨Ap, cp, V, Av, cv, C, Ac, cc⟩ := x
  simp only [] at hl hlc
  obtain ⟨w0, hw0⟩ : ∃ w0, ((w.alloc (.cells #[.slice Ap 16 cp, .slice Av V.length cv, .slice Ac C.length cc, .int .i64 S.nx] 31)).alloc (.cells #[.int .i64 k0, .int .i64 a0, .int .i64 b0, .int .i64 c0, .int .i64 qr, .int .i64 qw, .int .i64 ql, .int .i64 qb] 38)).alloc (.cells #[.slice none 0 0, .slice none 0 0, .slice none 0 0, .int .i64 0] 31) = w0 := ⟨_, rfl⟩
  have d0 : Blk w0 w.heap.size 31 [.slice Ap 16 cp, .slice Av V.length cv, .slice Ac C.length cc, .int .i64 S.nx] := hw0 ▸ ((Blk.new rfl).alloc _).alloc _
  have d1 : Blk w0 (w.heap.size + 1) 38 [.int .i64 k0, .int .i64 a0, .int .i64 b0, .int .i64 c0, .int .i64 qr, .int .i64 qw, .int .i64 ql, .int .i64 qb] := hw0 ▸ (Blk.new (by simp)).alloc _
  have d2 : Blk w0 (w.heap.size + 1 + 1) 31 [.slice none 0 0, .slice none 0 0, .slice none 0 0, .int .i64 0] := hw0 ▸ Blk.new (by simp)
  have hb0 : Below w.heap.size w w0 := hw0 ▸ (((Below.refl _ _).alloc (Nat.le_refl _) _).alloc (by simp) _).alloc (by simp; omega) _
  obtain ⟨bs, hbs⟩ : ∃ bs, w.heap.size = bs := ⟨_, rfl⟩
  obtain ⟨bc, hbc⟩ : ∃ bc, bs + 1 = bc := ⟨_, rfl⟩
  obtain ⟨br, hbr⟩ : ∃ br, bc + 1 = br := ⟨_, rfl⟩
  rw [hbs] at d0 d1 d2
  rw [hbc] at d1 d2
  rw [hbr] at d2
  have HN := hide (And.intro hbs (And.intro hbc hbr))
  have HW := hide hw0
  have D0 := hide (And.intro d0 (And.intro d1 d2))
  have HB0 := hide hb0
  have s0 := d0.cell 0
  have s1 := d0.cell 1
  have s2 := d0.cell 2
  have s3 := d0.cell 3
  have kc := d1.cell 0
  simp only [List.getElem?_cons_succ, List.getElem?_cons_zero] at s0 s1 s2 s3 kc
  unfold ApOut18 DV.val DV.cells Cmd.val Cmd.cells
  simp only []
  clear h hno hoa ho hi hq d0 d1 d2 hb0 hbs hbc hbr hw0
  go_enter Tryz.func10, Tryz.ntmps10
  go_upto_region 1 with fail
  rw [HW.out, HN.out.1, HN.out.2.1, HN.out.2.2]
  by_cases h1 : k0 < 1
  · have HQ0 := hide (Vst.apply_kind (S := S) (q := ⟨k0, a0, b0, c0, ⟨qr, qw, ql, qb⟩⟩) (Or.inl h1))
    have HDR := hide (And.intro (apRet (w0 := w) (w := w) (w' := w0) (br := br) HB0.out (by have := HN.out; omega) HD.out HB0.out (by have := HN.out; omega) HOA.out) D0.out.2.2)
    have r0' := HDR.out.2.cell 0
    have r1' := HDR.out.2.cell 1
    have r2' := HDR.out.2.cell 2
    have r3' := HDR.out.2.cell 3
    have rf' := HDR.out.2.frozen
    simp only [List.getElem?_cons_succ, List.getElem?_cons_zero] at r0' r1' r2' r3'
    have HRT := hide (HDR.out.1 (.slice Ap 16 cp) (.slice Av V.length cv) (.slice Ac C.length cc) (.int .i64 S.nx))
    go_wp2
    refine bodyPost_ret (v := .tuple #[.agg #[.slice Ap 16 cp, .slice Av V.length cv, .slice Ac C.length cc, .int .i64 S.nx], .int .i64 22]) (by simp [results, Tryz.results10, go_sem, r0', r1', r2', r3']) rfl ?_
    rw [HQ0.out]
    exact ⟨⟨Ap, cp, V, Av, cv, C, Ac, cc⟩, rfl, HRT.out.1, HRT.out.2⟩
  by_cases h2 : 8 < k0
  · have HQ0 := hide (Vst.apply_kind (S := S) (q := ⟨k0, a0, b0, c0, ⟨qr, qw, ql, qb⟩⟩) (Or.inr h2))
    have HDR := hide (And.intro (apRet (w0 := w) (w := w) (w' := w0) (br := br) HB0.out (by have := HN.out; omega) HD.out HB0.out (by have := HN.out; omega) HOA.out) D0.out.2.2)
    have r0' := HDR.out.2.cell 0
    have r1' := HDR.out.2.cell 1
    have r2' := HDR.out.2.cell 2
    have r3' := HDR.out.2.cell 3
    have rf' := HDR.out.2.frozen
    simp only [List.getElem?_cons_succ, List.getElem?_cons_zero] at r0' r1' r2' r3'
    have HRT := hide (HDR.out.1 (.slice Ap 16 cp) (.slice Av V.length cv) (.slice Ac C.length cc) (.int .i64 S.nx))
    go_wp2
    refine bodyPost_ret (v := .tuple #[.agg #[.slice Ap 16 cp, .slice Av V.length cv, .slice Ac C.length cc, .int .i64 S.nx], .int .i64 22]) (by simp [results, Tryz.results10, go_sem, r0', r1', r2', r3']) rfl ?_
    rw [HQ0.out]
    exact ⟨⟨Ap, cp, V, Av, cv, C, Ac, cc⟩, rfl, HRT.out.1, HRT.out.2⟩
  have hk : 1 ≤ k0 ∧ k0 ≤ 8 := by omega
  have HK := hide hk
  have HM1 : Hid (∀ z ∈ w0.heap.size :: br :: no, z ∈ no ∨ w.heap.size ≤ z) := hide (fun z hz => by
    have h1 := HN.out
    have h2 := HB0.out.size
    rcases List.mem_cons.1 hz with e | hz
    · exact Or.inr (by omega)
    · rcases List.mem_cons.1 hz with e | hz
      · exact Or.inr (by omega)
      · exact Or.inl hz)
  have HM2 : Hid (∀ z ∈ br :: no, z < w0.heap.size) := hide (fun z hz => by
    have h1 := D0.out.2.2.lt
    have h2 := HB0.out.size
    rcases List.mem_cons.1 hz with e | hz
    · omega
    · have := HNO.out z hz; omega)
  have HCL : Hid (∀ M : List Nat, (∀ z ∈ M, z ∈ no ∨ w.heap.size ≤ z) → ∀ w', Below w0.heap.size w0 w' → (∀ z ∈ M, z < w'.heap.size) → Calls Tryz.prog 21 #[.agg #[.slice Ap 16 cp, .slice Av V.length cv, .slice Ac C.length cc, .int .i64 S.nx]] w' fun e w'' => ∃ A1 c1 A2 c2 A3 c3 G, e = .returned (.agg #[.slice A1 16 c1, .slice A2 V.length c2, .slice A3 C.length c3, .int .i64 S.nx]) ∧
      (∀ z ∈ G, w'.heap.size ≤ z) ∧ DO w0 w'' G (G ++ M) ⟨A1, c1, V, A2, c2, C, A3, c3⟩ S ∧ Below w'.heap.size w' w'') :=
    hide (fun M hM w' hb hMl => by
      have hdm := ((HD.out.plus hM).below HB0.out).below hb
      refine (dclone_calls w' M ⟨Ap, cp, V, Av, cv, C, Ac, cc⟩ S S.nx hdm (by simp only []; omega) (by simp only []; omega)).mono (fun e w'' hh => ?_)
      obtain ⟨A1, c1, A2, c2, A3, c3, a1, a2, a3, he, p1, p2, p3, hb1⟩ := hh
      obtain ⟨G, hG, hDO⟩ := DO.ofClone hdm hMl p1 p2 p3 hb1
      exact ⟨A1, c1, A2, c2, A3, c3, G, he, hG, hDO.mono hb.size, hb1⟩)
  obtain ⟨R, hR⟩ : ∃ R, S.act ⟨k0, a0, b0, c0, ⟨qr, qw, ql, qb⟩⟩ = R := ⟨_, rfl⟩
  obtain ⟨R1, r2⟩ := R
  have HR := hide hR
  have HDOC : Hid (∀ (M G : List Nat) (A1 : Option Addr) (c1 : Nat) (A2 : Option Addr) (c2 : Nat) (A3 : Option Addr) (c3 : Nat) (w1 : World), DO w0 w1 G (G ++ M) ⟨A1, c1, V, A2, c2, C, A3, c3⟩ S → Below w0.heap.size w0 w1 → (∀ z ∈ G, w0.heap.size ≤ z) →
      Calls Tryz.prog 20 #[.agg #[.slice A1 16 c1, .slice A2 V.length c2, .slice A3 C.length c3, .int .i64 S.nx], .agg #[.int .i64 k0, .int .i64 a0, .int .i64 b0, .int .i64 c0, .int .i64 qr, .int .i64 qw, .int .i64 ql, .int .i64 qb]] w1 fun e w'' =>
        ∃ A4 c4 V4 B4 d4 C4 D4 e4 no' av', e = .returned (.tuple #[.agg #[.slice A4 16 c4, .slice B4 (List.length V4) d4, .slice D4 (List.length C4) e4, .int .i64 R1.nx], .int .i64 r2]) ∧ DO w0 w'' no' av' ⟨A4, c4, V4, B4, d4, C4, D4, e4⟩ R1 ∧ (∀ z ∈ M, z ∈ av') ∧ (∀ z ∈ no', z ∈ G ∨ w1.heap.size ≤ z) ∧ Below w0.heap.size w0 w'' ∧ Chg G w1 w'') :=
    hide (fun M G A1 c1 A2 c2 A3 c3 w1 hDO hb hG => by
      have hc := do_calls w0 w1 G (G ++ M) ⟨A1, c1, V, A2, c2, C, A3, c3⟩ S n ⟨k0, a0, b0, c0, ⟨qr, qw, ql, qb⟩⟩ hDO hb HO.out.1 HO.out.2.1 (by omega) HO.out.2.2 HK.out hl hlc
      rw [HR.out] at hc
      refine hc.mono (fun e w'' hh => ?_)
      obtain ⟨⟨A4, c4, V4, B4, d4, C4, D4, e4⟩, he, ⟨no', av', hD, hn', ha'⟩, hW2, hC2⟩ := hh
      exact ⟨A4, c4, V4, B4, d4, C4, D4, e4, no', av', he, hD, (fun z hz => ha' z (List.mem_append.2 (Or.inr hz))), hn', hW2, hC2⟩)
  clear hR
  have z0 := D0.out.1.rule 0 _ rfl
  have z1 := D0.out.1.rule 1 _ rfl
  have z2 := D0.out.1.rule 2 _ rfl
  have z3 := D0.out.1.rule 3 _ rfl
  have y0 := D0.out.2.1.rule 0 _ rfl
  have y1 := D0.out.2.1.rule 1 _ rfl
  have y2 := D0.out.2.1.rule 2 _ rfl
  have y3 := D0.out.2.1.rule 3 _ rfl
  have y4 := D0.out.2.1.rule 4 _ rfl
  have y5 := D0.out.2.1.rule 5 _ rfl
  have y6 := D0.out.2.1.rule 6 _ rfl
  have y7 := D0.out.2.1.rule 7 _ rfl
  have r0 := Below.refl w0.heap.size w0
  clear s0 s1 s2 s3 hk
  go_upto_region 3 with fail
  clear kc h1 h2
  refine lxR (fun w' => Below w0.heap.size w0 w') [8] 8 [(0, 0), (0, 2)] #[true, false, true, false, false, false, false, false, false, false] (by kernel_rfl) (by kernel_rfl) (by decide) (by kernel_rfl) (by kernel_rfl) (fun _ _ _ _ _ h => h) (by (first | assumption | exact r0.drew | exact bwA (by assumption) _ | exact (bwA r0 _).drew)) (fun hS0 => ?_)
  simp only [List.map_cons, List.map_nil, List.getElem?_toArray, List.getElem?_cons_succ, List.getElem?_cons_zero]
  (iterate 2 ((apply lxT (by rfl); (focus (intro w hw; (try dsimp only at hw); go_simp; (try with_reducible rfl); done)); simp only [Act.put, zA41, zB41, zC41])))
  refine lxN (fun hS2 => ?_)
  refine lexg_fork2 (i := 1) (j := 7) (by kernel_rfl) (by kernel_rfl : _ = #[true, true, true, false, false, false, false, false, false, false]) (by kernel_rfl : _ = #[true, false, true, false, false, false, false, true, false, false]) ?_ ?_
  focus
    apply lxA (by simp only [List.getElem?_toArray, List.getElem?_cons_succ, List.getElem?_cons_zero]; rfl) (by rfl)
    go_simp
    (first
            | (go_at_call 21; first
              | (refine (HCL.out (w0.heap.size :: br :: no) HM1.out _ (by assumption) (fun z hz => by have h1 := HM2.out; simp only [drew_size, alloc_size]; rcases List.mem_cons.1 hz with e | hz <;> first | omega | (have := h1 z hz; omega))).mono ?_; rintro e w1 ⟨A1, c1, A2, c2, A3, c3, G, rfl, hG, hDO, hb1⟩; have hb1q : Below w0.heap.size w0 w1 := bwP hb1 (by assumption); have HDO := hide (And.intro hDO (And.intro hG hb1)); clear hDO hG hb1; have HB1 : Hid (Blk w1 w0.heap.size 31 [.slice none 0 0, .slice none 0 0, .slice none 0 0, .int .i64 0]) := hide (Blk.below (by first | exact Blk.new rfl | exact Blk.drewC5 (Blk.new rfl)) HDO.out.2.2))
              | (refine (HCL.out (br :: no) (fun z hz => HM1.out z (List.mem_cons_of_mem _ hz)) _ (by assumption) (by exact fun z hz => HM2.out z hz)).mono ?_; rintro e w1 ⟨A1, c1, A2, c2, A3, c3, G, rfl, hG, hDO, hb1⟩; have hb1q : Below w0.heap.size w0 w1 := bwP hb1 (by assumption); have HDO := hide (And.intro hDO (And.intro hG hb1)); clear hDO hG hb1))
            | (go_at_call 20; first
              | (refine (HDOC.out (w0.heap.size :: br :: no) G A1 c1 A2 c2 A3 c3 _ HDO.out.1 (by assumption) (fun z hz => by have := HDO.out.2.1 z hz; simp at this; omega)).mono ?_; rintro e w2 ⟨A4, c4, V4, B4, d4, C4, D4, e4, no4, av4, rfl, hd2, ha2, hn2, hb2q, hc2⟩; have HD2 := hide (And.intro hd2 (And.intro (show w0.heap.size ∈ av4 from ha2 _ (by simp)) (And.intro (fun z (hz : z ∈ br :: no) => ha2 z (List.mem_cons_of_mem _ hz)) (And.intro hn2 hc2)))); clear hd2 ha2 hn2 hc2; have qb := HB1.out.chg HD2.out.2.2.2.2 (fun hx => by have := HDO.out.2.1 _ hx; simp only [drew_size, alloc_size] at this; omega); have HB2 := hide qb; have q0 := qb.cell 0; have q1 := qb.cell 1; have q2 := qb.cell 2; have q3 := qb.cell 3; have qf := qb.frozen; simp only [List.getElem?_cons_succ, List.getElem?_cons_zero] at q0 q1 q2 q3; clear qb)
              | (refine (HDOC.out (br :: no) G A1 c1 A2 c2 A3 c3 _ HDO.out.1 (by assumption) (fun z hz => by have := HDO.out.2.1 z hz; simp at this; omega)).mono ?_; rintro e w2 ⟨A4, c4, V4, B4, d4, C4, D4, e4, no4, av4, rfl, hd2, ha2, hn2, hb2q, hc2⟩; have HD2 := hide (And.intro hd2 (And.intro trivial (And.intro (fun z (hz : z ∈ br :: no) => ha2 z hz) (And.intro hn2 hc2)))); clear hd2 ha2 hn2 hc2)
              | (refine (HDOC.out (w1.heap.size :: br :: no) G A1 c1 A2 c2 A3 c3 _ (HDO.out.1.avoid (av' := G ++ (w1.heap.size :: br :: no)) (fun z hz => by simp only [List.mem_append, List.mem_cons] at hz ⊢; rcases hz with h | h | h | h <;> simp [h]) (fun z hz => by simp [hz]) (bwA (Below.refl _ _) _) (fun z hz => by have h1 := HDO.out.1.lt; simp only [alloc_size]; simp only [List.mem_append, List.mem_cons] at hz h1; rcases hz with h | h | h | h <;> first | omega | (have := h1 z (by simp [h]); omega))) (by assumption) (fun z hz => by have := HDO.out.2.1 z hz; simp at this; omega)).mono ?_; rintro e w2 ⟨A4, c4, V4, B4, d4, C4, D4, e4, no4, av4, rfl, hd2, ha2, hn2, hb2q, hc2⟩; have HD2 := hide (And.intro hd2 (And.intro (show w1.heap.size ∈ av4 from ha2 _ (by simp)) (And.intro (fun z (hz : z ∈ br :: no) => ha2 z (List.mem_cons_of_mem _ hz)) (And.intro hn2 hc2)))); clear hd2 ha2 hn2 hc2; have qb : Blk w2 w1.heap.size 31 [.slice none 0 0, .slice none 0 0, .slice none 0 0, .int .i64 0] := (Blk.new rfl).chg HD2.out.2.2.2.2 (fun hx => by have := HDO.out.1.lt _ (HDO.out.1.sub _ hx); omega); have HB2 := hide qb; have q0 := qb.cell 0; have q1 := qb.cell 1; have q2 := qb.cell 2; have q3 := qb.cell 3; have qf := qb.frozen; simp only [List.getElem?_cons_succ, List.getElem?_cons_zero] at q0 q1 q2 q3; clear qb)))
    refine lxB (by (first | assumption | exact r0.drew | exact bwA (by assumption) _ | exact (bwA r0 _).drew)) (fun hS1 => ?_)
    refine lxM 7 [] #[true, true, true, false, false, false, false, false, false, false] (by kernel_rfl) (by decide) (by kernel_rfl) (by kernel_rfl) (fun _ _ _ _ _ h => h) (fun _ => by assumption) ?_
    simp only [List.map_nil]
    refine lxN (fun hS2 => ?_)
    refine lexg_fork2 (i := 3) (j := 7) (by kernel_rfl) (by kernel_rfl : _ = #[true, true, true, true, false, false, false, false, false, false]) (by kernel_rfl : _ = #[true, true, true, false, false, false, false, true, false, false]) ?_ ?_
    focus
      apply lxA (by simp only [List.getElem?_toArray, List.getElem?_cons_succ, List.getElem?_cons_zero]; rfl) (by rfl)
      go_simp
      (first
            | (go_at_call 21; first
              | (refine (HCL.out (w0.heap.size :: br :: no) HM1.out _ (by assumption) (fun z hz => by have h1 := HM2.out; simp only [drew_size, alloc_size]; rcases List.mem_cons.1 hz with e | hz <;> first | omega | (have := h1 z hz; omega))).mono ?_; rintro e w1 ⟨A1, c1, A2, c2, A3, c3, G, rfl, hG, hDO, hb1⟩; have hb1q : Below w0.heap.size w0 w1 := bwP hb1 (by assumption); have HDO := hide (And.intro hDO (And.intro hG hb1)); clear hDO hG hb1; have HB1 : Hid (Blk w1 w0.heap.size 31 [.slice none 0 0, .slice none 0 0, .slice none 0 0, .int .i64 0]) := hide (Blk.below (by first | exact Blk.new rfl | exact Blk.drewC5 (Blk.new rfl)) HDO.out.2.2))
              | (refine (HCL.out (br :: no) (fun z hz => HM1.out z (List.mem_cons_of_mem _ hz)) _ (by assumption) (by exact fun z hz => HM2.out z hz)).mono ?_; rintro e w1 ⟨A1, c1, A2, c2, A3, c3, G, rfl, hG, hDO, hb1⟩; have hb1q : Below w0.heap.size w0 w1 := bwP hb1 (by assumption); have HDO := hide (And.intro hDO (And.intro hG hb1)); clear hDO hG hb1))
            | (go_at_call 20; first
              | (refine (HDOC.out (w0.heap.size :: br :: no) G A1 c1 A2 c2 A3 c3 _ HDO.out.1 (by assumption) (fun z hz => by have := HDO.out.2.1 z hz; simp at this; omega)).mono ?_; rintro e w2 ⟨A4, c4, V4, B4, d4, C4, D4, e4, no4, av4, rfl, hd2, ha2, hn2, hb2q, hc2⟩; have HD2 := hide (And.intro hd2 (And.intro (show w0.heap.size ∈ av4 from ha2 _ (by simp)) (And.intro (fun z (hz : z ∈ br :: no) => ha2 z (List.mem_cons_of_mem _ hz)) (And.intro hn2 hc2)))); clear hd2 ha2 hn2 hc2; have qb := HB1.out.chg HD2.out.2.2.2.2 (fun hx => by have := HDO.out.2.1 _ hx; simp only [drew_size, alloc_size] at this; omega); have HB2 := hide qb; have q0 := qb.cell 0; have q1 := qb.cell 1; have q2 := qb.cell 2; have q3 := qb.cell 3; have qf := qb.frozen; simp only [List.getElem?_cons_succ, List.getElem?_cons_zero] at q0 q1 q2 q3; clear qb)
              | (refine (HDOC.out (br :: no) G A1 c1 A2 c2 A3 c3 _ HDO.out.1 (by assumption) (fun z hz => by have := HDO.out.2.1 z hz; simp at this; omega)).mono ?_; rintro e w2 ⟨A4, c4, V4, B4, d4, C4, D4, e4, no4, av4, rfl, hd2, ha2, hn2, hb2q, hc2⟩; have HD2 := hide (And.intro hd2 (And.intro trivial (And.intro (fun z (hz : z ∈ br :: no) => ha2 z hz) (And.intro hn2 hc2)))); clear hd2 ha2 hn2 hc2)
              | (refine (HDOC.out (w1.heap.size :: br :: no) G A1 c1 A2 c2 A3 c3 _ (HDO.out.1.avoid (av' := G ++ (w1.heap.size :: br :: no)) (fun z hz => by simp only [List.mem_append, List.mem_cons] at hz ⊢; rcases hz with h | h | h | h <;> simp [h]) (fun z hz => by simp [hz]) (bwA (Below.refl _ _) _) (fun z hz => by have h1 := HDO.out.1.lt; simp only [alloc_size]; simp only [List.mem_append, List.mem_cons] at hz h1; rcases hz with h | h | h | h <;> first | omega | (have := h1 z (by simp [h]); omega))) (by assumption) (fun z hz => by have := HDO.out.2.1 z hz; simp at this; omega)).mono ?_; rintro e w2 ⟨A4, c4, V4, B4, d4, C4, D4, e4, no4, av4, rfl, hd2, ha2, hn2, hb2q, hc2⟩; have HD2 := hide (And.intro hd2 (And.intro (show w1.heap.size ∈ av4 from ha2 _ (by simp)) (And.intro (fun z (hz : z ∈ br :: no) => ha2 z (List.mem_cons_of_mem _ hz)) (And.intro hn2 hc2)))); clear hd2 ha2 hn2 hc2; have qb : Blk w2 w1.heap.size 31 [.slice none 0 0, .slice none 0 0, .slice none 0 0, .int .i64 0] := (Blk.new rfl).chg HD2.out.2.2.2.2 (fun hx => by have := HDO.out.1.lt _ (HDO.out.1.sub _ hx); omega); have HB2 := hide qb; have q0 := qb.cell 0; have q1 := qb.cell 1; have q2 := qb.cell 2; have q3 := qb.cell 3; have qf := qb.frozen; simp only [List.getElem?_cons_succ, List.getElem?_cons_zero] at q0 q1 q2 q3; clear qb)))
      refine lxB (by (first | assumption | exact r0.drew | exact bwA (by assumption) _ | exact (bwA r0 _).drew)) (fun hS1 => ?_)
      refine lxM 0 [(2, 4), (2, 5), (2, 6), (1, 7), (3, 8), (2, 9)] #[true, true, true, true, true, true, true, true, true, true] (by kernel_rfl) (by decide) (by kernel_rfl) (by kernel_rfl) (fun _ _ _ _ _ h => h) (fun _ => by assumption) ?_
      simp only [List.map_cons, List.map_nil, List.getElem?_toArray, List.getElem?_cons_succ, List.getElem?_cons_zero]
      (iterate 3 ((apply lxP (by rfl); (focus (intro w; go_simp; (try with_reducible rfl); done)); simp only [Act.put, zA41, zB41, zC41]))); (refine lxE (by rfl) ?_; go_simp; refine lxB (by (first | assumption | exact r0.drew | exact bwA (by assumption) _ | exact (bwA r0 _).drew)) (fun hS1 => ?_)); (refine lxF (by rfl) ?_; go_simp); (apply lxP (by rfl); (focus (intro w; go_simp; (try with_reducible rfl); done)); simp only [Act.put, zA41, zB41, zC41])
      refine lxN (fun _ => wqD (by kernel_rfl) ?_ _)
    rotate_left
    focus
      apply lxA (by simp only [List.getElem?_toArray, List.getElem?_cons_succ, List.getElem?_cons_zero]; rfl) (by rfl)
      go_simp
      refine lxB (by (first | assumption | exact r0.drew | exact bwA (by assumption) _ | exact (bwA r0 _).drew)) (fun hS1 => ?_)
      refine lxM 0 [(1, 3), (2, 4), (2, 5), (2, 6), (3, 8), (2, 9)] #[true, true, true, true, true, true, true, true, true, true] (by kernel_rfl) (by decide) (by kernel_rfl) (by kernel_rfl) (fun _ _ _ _ _ h => h) (fun _ => by assumption) ?_
      simp only [List.map_cons, List.map_nil, List.getElem?_toArray, List.getElem?_cons_succ, List.getElem?_cons_zero]
      (refine lxE (by rfl) ?_; go_simp; (first
            | (go_at_call 21; first
              | (refine (HCL.out (w0.heap.size :: br :: no) HM1.out _ (by assumption) (fun z hz => by have h1 := HM2.out; simp only [drew_size, alloc_size]; rcases List.mem_cons.1 hz with e | hz <;> first | omega | (have := h1 z hz; omega))).mono ?_; rintro e w1 ⟨A1, c1, A2, c2, A3, c3, G, rfl, hG, hDO, hb1⟩; have hb1q : Below w0.heap.size w0 w1 := bwP hb1 (by assumption); have HDO := hide (And.intro hDO (And.intro hG hb1)); clear hDO hG hb1; have HB1 : Hid (Blk w1 w0.heap.size 31 [.slice none 0 0, .slice none 0 0, .slice none 0 0, .int .i64 0]) := hide (Blk.below (by first | exact Blk.new rfl | exact Blk.drewC5 (Blk.new rfl)) HDO.out.2.2))
              | (refine (HCL.out (br :: no) (fun z hz => HM1.out z (List.mem_cons_of_mem _ hz)) _ (by assumption) (by exact fun z hz => HM2.out z hz)).mono ?_; rintro e w1 ⟨A1, c1, A2, c2, A3, c3, G, rfl, hG, hDO, hb1⟩; have hb1q : Below w0.heap.size w0 w1 := bwP hb1 (by assumption); have HDO := hide (And.intro hDO (And.intro hG hb1)); clear hDO hG hb1))
            | (go_at_call 20; first
              | (refine (HDOC.out (w0.heap.size :: br :: no) G A1 c1 A2 c2 A3 c3 _ HDO.out.1 (by assumption) (fun z hz => by have := HDO.out.2.1 z hz; simp at this; omega)).mono ?_; rintro e w2 ⟨A4, c4, V4, B4, d4, C4, D4, e4, no4, av4, rfl, hd2, ha2, hn2, hb2q, hc2⟩; have HD2 := hide (And.intro hd2 (And.intro (show w0.heap.size ∈ av4 from ha2 _ (by simp)) (And.intro (fun z (hz : z ∈ br :: no) => ha2 z (List.mem_cons_of_mem _ hz)) (And.intro hn2 hc2)))); clear hd2 ha2 hn2 hc2; have qb := HB1.out.chg HD2.out.2.2.2.2 (fun hx => by have := HDO.out.2.1 _ hx; simp only [drew_size, alloc_size] at this; omega); have HB2 := hide qb; have q0 := qb.cell 0; have q1 := qb.cell 1; have q2 := qb.cell 2; have q3 := qb.cell 3; have qf := qb.frozen; simp only [List.getElem?_cons_succ, List.getElem?_cons_zero] at q0 q1 q2 q3; clear qb)
              | (refine (HDOC.out (br :: no) G A1 c1 A2 c2 A3 c3 _ HDO.out.1 (by assumption) (fun z hz => by have := HDO.out.2.1 z hz; simp at this; omega)).mono ?_; rintro e w2 ⟨A4, c4, V4, B4, d4, C4, D4, e4, no4, av4, rfl, hd2, ha2, hn2, hb2q, hc2⟩; have HD2 := hide (And.intro hd2 (And.intro trivial (And.intro (fun z (hz : z ∈ br :: no) => ha2 z hz) (And.intro hn2 hc2)))); clear hd2 ha2 hn2 hc2)
              | (refine (HDOC.out (w1.heap.size :: br :: no) G A1 c1 A2 c2 A3 c3 _ (HDO.out.1.avoid (av' := G ++ (w1.heap.size :: br :: no)) (fun z hz => by simp only [List.mem_append, List.mem_cons] at hz ⊢; rcases hz with h | h | h | h <;> simp [h]) (fun z hz => by simp [hz]) (bwA (Below.refl _ _) _) (fun z hz => by have h1 := HDO.out.1.lt; simp only [alloc_size]; simp only [List.mem_append, List.mem_cons] at hz h1; rcases hz with h | h | h | h <;> first | omega | (have := h1 z (by simp [h]); omega))) (by assumption) (fun z hz => by have := HDO.out.2.1 z hz; simp at this; omega)).mono ?_; rintro e w2 ⟨A4, c4, V4, B4, d4, C4, D4, e4, no4, av4, rfl, hd2, ha2, hn2, hb2q, hc2⟩; have HD2 := hide (And.intro hd2 (And.intro (show w1.heap.size ∈ av4 from ha2 _ (by simp)) (And.intro (fun z (hz : z ∈ br :: no) => ha2 z (List.mem_cons_of_mem _ hz)) (And.intro hn2 hc2)))); clear hd2 ha2 hn2 hc2; have qb : Blk w2 w1.heap.size 31 [.slice none 0 0, .slice none 0 0, .slice none 0 0, .int .i64 0] := (Blk.new rfl).chg HD2.out.2.2.2.2 (fun hx => by have := HDO.out.1.lt _ (HDO.out.1.sub _ hx); omega); have HB2 := hide qb; have q0 := qb.cell 0; have q1 := qb.cell 1; have q2 := qb.cell 2; have q3 := qb.cell 3; have qf := qb.frozen; simp only [List.getElem?_cons_succ, List.getElem?_cons_zero] at q0 q1 q2 q3; clear qb))); refine lxB (by (first | assumption | exact r0.drew | exact bwA (by assumption) _ | exact (bwA r0 _).drew)) (fun hS1 => ?_))
      (iterate 3 ((apply lxP (by rfl); (focus (intro w; go_simp; (try with_reducible rfl); done)); simp only [Act.put, zA41, zB41, zC41]))); (refine lxF (by rfl) ?_; go_simp); (apply lxP (by rfl); (focus (intro w; go_simp; (try with_reducible rfl); done)); simp only [Act.put, zA41, zB41, zC41])
      refine lxN (fun _ => wqD (by kernel_rfl) ?_ _)
    rotate_left
  rotate_left 2
  focus
    apply lxA (by simp only [List.getElem?_toArray, List.getElem?_cons_succ, List.getElem?_cons_zero]; rfl) (by rfl)
    go_simp
    refine lxB (by (first | assumption | exact r0.drew | exact bwA (by assumption) _ | exact (bwA r0 _).drew)) (fun hS1 => ?_)
    refine lxM 0 [(1, 1), (1, 3), (2, 4), (2, 5), (2, 6), (3, 8), (2, 9)] #[true, true, true, true, true, true, true, true, true, true] (by kernel_rfl) (by decide) (by kernel_rfl) (by kernel_rfl) (fun _ _ _ _ _ h => h) (fun _ => by assumption) ?_
    simp only [List.map_cons, List.map_nil, List.getElem?_toArray, List.getElem?_cons_succ, List.getElem?_cons_zero]
    (refine lxE (by rfl) ?_; go_simp; (first
            | (go_at_call 21; first
              | (refine (HCL.out (w0.heap.size :: br :: no) HM1.out _ (by assumption) (fun z hz => by have h1 := HM2.out; simp only [drew_size, alloc_size]; rcases List.mem_cons.1 hz with e | hz <;> first | omega | (have := h1 z hz; omega))).mono ?_; rintro e w1 ⟨A1, c1, A2, c2, A3, c3, G, rfl, hG, hDO, hb1⟩; have hb1q : Below w0.heap.size w0 w1 := bwP hb1 (by assumption); have HDO := hide (And.intro hDO (And.intro hG hb1)); clear hDO hG hb1; have HB1 : Hid (Blk w1 w0.heap.size 31 [.slice none 0 0, .slice none 0 0, .slice none 0 0, .int .i64 0]) := hide (Blk.below (by first | exact Blk.new rfl | exact Blk.drewC5 (Blk.new rfl)) HDO.out.2.2))
              | (refine (HCL.out (br :: no) (fun z hz => HM1.out z (List.mem_cons_of_mem _ hz)) _ (by assumption) (by exact fun z hz => HM2.out z hz)).mono ?_; rintro e w1 ⟨A1, c1, A2, c2, A3, c3, G, rfl, hG, hDO, hb1⟩; have hb1q : Below w0.heap.size w0 w1 := bwP hb1 (by assumption); have HDO := hide (And.intro hDO (And.intro hG hb1)); clear hDO hG hb1))
            | (go_at_call 20; first
              | (refine (HDOC.out (w0.heap.size :: br :: no) G A1 c1 A2 c2 A3 c3 _ HDO.out.1 (by assumption) (fun z hz => by have := HDO.out.2.1 z hz; simp at this; omega)).mono ?_; rintro e w2 ⟨A4, c4, V4, B4, d4, C4, D4, e4, no4, av4, rfl, hd2, ha2, hn2, hb2q, hc2⟩; have HD2 := hide (And.intro hd2 (And.intro (show w0.heap.size ∈ av4 from ha2 _ (by simp)) (And.intro (fun z (hz : z ∈ br :: no) => ha2 z (List.mem_cons_of_mem _ hz)) (And.intro hn2 hc2)))); clear hd2 ha2 hn2 hc2; have qb := HB1.out.chg HD2.out.2.2.2.2 (fun hx => by have := HDO.out.2.1 _ hx; simp only [drew_size, alloc_size] at this; omega); have HB2 := hide qb; have q0 := qb.cell 0; have q1 := qb.cell 1; have q2 := qb.cell 2; have q3 := qb.cell 3; have qf := qb.frozen; simp only [List.getElem?_cons_succ, List.getElem?_cons_zero] at q0 q1 q2 q3; clear qb)
              | (refine (HDOC.out (br :: no) G A1 c1 A2 c2 A3 c3 _ HDO.out.1 (by assumption) (fun z hz => by have := HDO.out.2.1 z hz; simp at this; omega)).mono ?_; rintro e w2 ⟨A4, c4, V4, B4, d4, C4, D4, e4, no4, av4, rfl, hd2, ha2, hn2, hb2q, hc2⟩; have HD2 := hide (And.intro hd2 (And.intro trivial (And.intro (fun z (hz : z ∈ br :: no) => ha2 z hz) (And.intro hn2 hc2)))); clear hd2 ha2 hn2 hc2)
              | (refine (HDOC.out (w1.heap.size :: br :: no) G A1 c1 A2 c2 A3 c3 _ (HDO.out.1.avoid (av' := G ++ (w1.heap.size :: br :: no)) (fun z hz => by simp only [List.mem_append, List.mem_cons] at hz ⊢; rcases hz with h | h | h | h <;> simp [h]) (fun z hz => by simp [hz]) (bwA (Below.refl _ _) _) (fun z hz => by have h1 := HDO.out.1.lt; simp only [alloc_size]; simp only [List.mem_append, List.mem_cons] at hz h1; rcases hz with h | h | h | h <;> first | omega | (have := h1 z (by simp [h]); omega))) (by assumption) (fun z hz => by have := HDO.out.2.1 z hz; simp at this; omega)).mono ?_; rintro e w2 ⟨A4, c4, V4, B4, d4, C4, D4, e4, no4, av4, rfl, hd2, ha2, hn2, hb2q, hc2⟩; have HD2 := hide (And.intro hd2 (And.intro (show w1.heap.size ∈ av4 from ha2 _ (by simp)) (And.intro (fun z (hz : z ∈ br :: no) => ha2 z (List.mem_cons_of_mem _ hz)) (And.intro hn2 hc2)))); clear hd2 ha2 hn2 hc2; have qb : Blk w2 w1.heap.size 31 [.slice none 0 0, .slice none 0 0, .slice none 0 0, .int .i64 0] := (Blk.new rfl).chg HD2.out.2.2.2.2 (fun hx => by have := HDO.out.1.lt _ (HDO.out.1.sub _ hx); omega); have HB2 := hide qb; have q0 := qb.cell 0; have q1 := qb.cell 1; have q2 := qb.cell 2; have q3 := qb.cell 3; have qf := qb.frozen; simp only [List.getElem?_cons_succ, List.getElem?_cons_zero] at q0 q1 q2 q3; clear qb))); refine lxB (by (first | assumption | exact r0.drew | exact bwA (by assumption) _ | exact (bwA r0 _).drew)) (fun hS1 => ?_))
    (refine lxE (by rfl) ?_; go_simp; (first
            | (go_at_call 21; first
              | (refine (HCL.out (w0.heap.size :: br :: no) HM1.out _ (by assumption) (fun z hz => by have h1 := HM2.out; simp only [drew_size, alloc_size]; rcases List.mem_cons.1 hz with e | hz <;> first | omega | (have := h1 z hz; omega))).mono ?_; rintro e w1 ⟨A1, c1, A2, c2, A3, c3, G, rfl, hG, hDO, hb1⟩; have hb1q : Below w0.heap.size w0 w1 := bwP hb1 (by assumption); have HDO := hide (And.intro hDO (And.intro hG hb1)); clear hDO hG hb1; have HB1 : Hid (Blk w1 w0.heap.size 31 [.slice none 0 0, .slice none 0 0, .slice none 0 0, .int .i64 0]) := hide (Blk.below (by first | exact Blk.new rfl | exact Blk.drewC5 (Blk.new rfl)) HDO.out.2.2))
              | (refine (HCL.out (br :: no) (fun z hz => HM1.out z (List.mem_cons_of_mem _ hz)) _ (by assumption) (by exact fun z hz => HM2.out z hz)).mono ?_; rintro e w1 ⟨A1, c1, A2, c2, A3, c3, G, rfl, hG, hDO, hb1⟩; have hb1q : Below w0.heap.size w0 w1 := bwP hb1 (by assumption); have HDO := hide (And.intro hDO (And.intro hG hb1)); clear hDO hG hb1))
            | (go_at_call 20; first
              | (refine (HDOC.out (w0.heap.size :: br :: no) G A1 c1 A2 c2 A3 c3 _ HDO.out.1 (by assumption) (fun z hz => by have := HDO.out.2.1 z hz; simp at this; omega)).mono ?_; rintro e w2 ⟨A4, c4, V4, B4, d4, C4, D4, e4, no4, av4, rfl, hd2, ha2, hn2, hb2q, hc2⟩; have HD2 := hide (And.intro hd2 (And.intro (show w0.heap.size ∈ av4 from ha2 _ (by simp)) (And.intro (fun z (hz : z ∈ br :: no) => ha2 z (List.mem_cons_of_mem _ hz)) (And.intro hn2 hc2)))); clear hd2 ha2 hn2 hc2; have qb := HB1.out.chg HD2.out.2.2.2.2 (fun hx => by have := HDO.out.2.1 _ hx; simp only [drew_size, alloc_size] at this; omega); have HB2 := hide qb; have q0 := qb.cell 0; have q1 := qb.cell 1; have q2 := qb.cell 2; have q3 := qb.cell 3; have qf := qb.frozen; simp only [List.getElem?_cons_succ, List.getElem?_cons_zero] at q0 q1 q2 q3; clear qb)
              | (refine (HDOC.out (br :: no) G A1 c1 A2 c2 A3 c3 _ HDO.out.1 (by assumption) (fun z hz => by have := HDO.out.2.1 z hz; simp at this; omega)).mono ?_; rintro e w2 ⟨A4, c4, V4, B4, d4, C4, D4, e4, no4, av4, rfl, hd2, ha2, hn2, hb2q, hc2⟩; have HD2 := hide (And.intro hd2 (And.intro trivial (And.intro (fun z (hz : z ∈ br :: no) => ha2 z hz) (And.intro hn2 hc2)))); clear hd2 ha2 hn2 hc2)
              | (refine (HDOC.out (w1.heap.size :: br :: no) G A1 c1 A2 c2 A3 c3 _ (HDO.out.1.avoid (av' := G ++ (w1.heap.size :: br :: no)) (fun z hz => by simp only [List.mem_append, List.mem_cons] at hz ⊢; rcases hz with h | h | h | h <;> simp [h]) (fun z hz => by simp [hz]) (bwA (Below.refl _ _) _) (fun z hz => by have h1 := HDO.out.1.lt; simp only [alloc_size]; simp only [List.mem_append, List.mem_cons] at hz h1; rcases hz with h | h | h | h <;> first | omega | (have := h1 z (by simp [h]); omega))) (by assumption) (fun z hz => by have := HDO.out.2.1 z hz; simp at this; omega)).mono ?_; rintro e w2 ⟨A4, c4, V4, B4, d4, C4, D4, e4, no4, av4, rfl, hd2, ha2, hn2, hb2q, hc2⟩; have HD2 := hide (And.intro hd2 (And.intro (show w1.heap.size ∈ av4 from ha2 _ (by simp)) (And.intro (fun z (hz : z ∈ br :: no) => ha2 z (List.mem_cons_of_mem _ hz)) (And.intro hn2 hc2)))); clear hd2 ha2 hn2 hc2; have qb : Blk w2 w1.heap.size 31 [.slice none 0 0, .slice none 0 0, .slice none 0 0, .int .i64 0] := (Blk.new rfl).chg HD2.out.2.2.2.2 (fun hx => by have := HDO.out.1.lt _ (HDO.out.1.sub _ hx); omega); have HB2 := hide qb; have q0 := qb.cell 0; have q1 := qb.cell 1; have q2 := qb.cell 2; have q3 := qb.cell 3; have qf := qb.frozen; simp only [List.getElem?_cons_succ, List.getElem?_cons_zero] at q0 q1 q2 q3; clear qb))); refine lxB (by (first | assumption | exact r0.drew | exact bwA (by assumption) _ | exact (bwA r0 _).drew)) (fun hS1 => ?_))
    (iterate 3 ((apply lxP (by rfl); (focus (intro w; go_simp; (try with_reducible rfl); done)); simp only [Act.put, zA41, zB41, zC41]))); (refine lxF (by rfl) ?_; go_simp); (apply lxP (by rfl); (focus (intro w; go_simp; (try with_reducible rfl); done)); simp only [Act.put, zA41, zB41, zC41])
    refine lxN (fun _ => wqD (by kernel_rfl) ?_ _)
  rotate_left
  · skip
    rename_i hunm
    clear hunm
    obtain ⟨w3, hw3⟩ : ∃ w3, w2.alloc (.cells #[.slice A4 16 c4, .slice B4 V4.length d4, .slice D4 C4.length e4, .int .i64 R1.nx] 31) = w3 := ⟨_, rfl⟩
    obtain ⟨b6, hb6⟩ : ∃ b6, w2.heap.size = b6 := ⟨_, rfl⟩
    have hX : DO w0 w3 no4 av4 ⟨A4, c4, V4, B4, d4, C4, D4, e4⟩ R1 ∧ Blk w3 b6 31 [.slice A4 16 c4, .slice B4 V4.length d4, .slice D4 C4.length e4, .int .i64 R1.nx] ∧ Below w0.heap.size w0 w3 := by
      subst hw3
      subst hb6
      exact ⟨HD2.out.1.below ((Below.refl _ _).alloc (Nat.le_refl _) _), Blk.new rfl, bwA hb2q _⟩
    have hbn : br ∉ no4 := fun hx => by
      have h1 := D0.out.2.2.lt
      have h5 := hb1q.size
      rcases HD2.out.2.2.2.1 _ hx with h | h
      · have h2 := HDO.out.2.1 _ h
        simp only [drew_size, alloc_size] at h2
        omega
      · (try simp only [alloc_size] at h)
        omega
    have HBN := hide (And.intro hbn (And.intro (HD2.out.2.2.1 br (List.mem_cons_self ..)) (fun z (hz : z ∈ no) => HD2.out.2.2.1 z (List.mem_cons_of_mem _ hz))))
    have HX := hide hX
    rw [hw3, hb6]
    clear hbn hX hw3 hb6 hb2q hb1q hS0 hS1 z0 z1 z2 z3 y0 y1 y2 y3 y4 y5 y6 y7 r0
    (try clear q0 q1 q2 q3 qf)
    have s0 := (D0.out.1.below HX.out.2.2).cell 0
    have s1 := (D0.out.1.below HX.out.2.2).cell 1
    have s2 := (D0.out.1.below HX.out.2.2).cell 2
    have s3 := (D0.out.1.below HX.out.2.2).cell 3
    have q0 := HX.out.2.1.cell 0
    have q1 := HX.out.2.1.cell 1
    have q2 := HX.out.2.1.cell 2
    have q3 := HX.out.2.1.cell 3
    simp only [List.getElem?_cons_succ, List.getElem?_cons_zero] at s0 s1 s2 s3 q0 q1 q2 q3
    by_cases hz : r2 = 0
    · subst hz
      have hok := HO.out.1.act (n := n) (by omega) ⟨k0, a0, b0, c0, ⟨qr, qw, ql, qb⟩⟩
      have hin := HO.out.2.1.act HO.out.1 ⟨k0, a0, b0, c0, ⟨qr, qw, ql, qb⟩⟩
      rw [HR.out] at hok hin
      have hls := hok.lens (by omega)
      have hlV := HX.out.1.lenV
      have hlC := HX.out.1.lenC
      simp only [] at hlV hlC hls
      have HAD := hide (dadmits_calls w3 av4 ⟨A4, c4, V4, B4, d4, C4, D4, e4⟩ R1 (n + 1) R1.nx HX.out.1.dm hin hok (by simp only []; omega) (by simp only []; omega))
      unfold DV.val DV.cells at HAD
      simp only [] at HAD
      obtain ⟨ad, had⟩ : ∃ ad, R1.admits = ad := ⟨_, rfl⟩
      rw [had] at HAD
      have HAM := hide had
      clear hok hin hls hlV hlC had
      go_wp2_with fail
      refine HAD.out.mono ?_
      rintro e w4 ⟨rfl, hb4⟩
      have HB4 := hide (HX.out.2.2.trans (hb4.mono HX.out.2.2.size))
      have HX4 := hide (HX.out.1.below hb4)
      clear s0 s1 s2 s3 q0 q1 q2 q3
      have s0 := (D0.out.1.below HB4.out).cell 0
      have s1 := (D0.out.1.below HB4.out).cell 1
      have s2 := (D0.out.1.below HB4.out).cell 2
      have s3 := (D0.out.1.below HB4.out).cell 3
      have q0 := (HX.out.2.1.below hb4).cell 0
      have q1 := (HX.out.2.1.below hb4).cell 1
      have q2 := (HX.out.2.1.below hb4).cell 2
      have q3 := (HX.out.2.1.below hb4).cell 3
      simp only [List.getElem?_cons_succ, List.getElem?_cons_zero] at s0 s1 s2 s3 q0 q1 q2 q3
      clear hb4 HAD
      cases ad with
      | false =>
        have HQ0 := hide (apply_rate HR.out HAM.out)
        have HDR := hide (And.intro (apRet (w0 := w) (w := w) (w' := w4) (br := br) (HB0.out.trans (HB4.out.mono HB0.out.size)) (by have := HN.out; omega) HD.out (HB0.out.trans (HB4.out.mono HB0.out.size)) (by have := HN.out; omega) HOA.out) (D0.out.2.2.below HB4.out))
        have r0' := HDR.out.2.cell 0
        have r1' := HDR.out.2.cell 1
        have r2' := HDR.out.2.cell 2
        have r3' := HDR.out.2.cell 3
        have rf' := HDR.out.2.frozen
        simp only [List.getElem?_cons_succ, List.getElem?_cons_zero] at r0' r1' r2' r3'
        have HRT := hide (HDR.out.1 (.slice Ap 16 cp) (.slice Av V.length cv) (.slice Ac C.length cc) (.int .i64 S.nx))
        go_wp2
        refine bodyPost_ret (v := .tuple #[.agg #[.slice Ap 16 cp, .slice Av V.length cv, .slice Ac C.length cc, .int .i64 S.nx], .int .i64 14]) (by simp [results, Tryz.results10, go_sem, r0', r1', r2', r3']) rfl ?_
        rw [HQ0.out]
        exact ⟨⟨Ap, cp, V, Av, cv, C, Ac, cc⟩, rfl, HRT.out.1, HRT.out.2⟩
      | true =>
        have HQ0 := hide (apply_ok HR.out HAM.out)
        have HDR := hide (And.intro (apRet2 (w := w) HX4.out HBN.out.2.1 HBN.out.1 HBN.out.2.2 (HB0.out.trans (HB4.out.mono HB0.out.size)) (by have := HN.out; omega) (HX4.out.outA (fun z hz => HM2.out z (List.mem_cons_of_mem _ hz)))) (D0.out.2.2.below HB4.out))
        have r0' := HDR.out.2.cell 0
        have r1' := HDR.out.2.cell 1
        have r2' := HDR.out.2.cell 2
        have r3' := HDR.out.2.cell 3
        have rf' := HDR.out.2.frozen
        simp only [List.getElem?_cons_succ, List.getElem?_cons_zero] at r0' r1' r2' r3'
        have HRT := hide (HDR.out.1 (.slice A4 16 c4) (.slice B4 V4.length d4) (.slice D4 C4.length e4) (.int .i64 R1.nx))
        go_wp2
        refine bodyPost_ret (v := .tuple #[.agg #[.slice A4 16 c4, .slice B4 V4.length d4, .slice D4 C4.length e4, .int .i64 R1.nx], .int .i64 0]) (by simp [results, Tryz.results10, go_sem, r0', r1', r2', r3']) rfl ?_
        rw [HQ0.out]
        exact ⟨⟨A4, c4, V4, B4, d4, C4, D4, e4⟩, rfl, HRT.out.1, HRT.out.2⟩
    · have HQ0 := hide (apply_err HR.out hz)
      have hz2 : (r2 != 0) = true := bne_iff_ne.2 hz
      have HDR := hide (And.intro (apRet (w0 := w) (w := w) (w' := w3) (br := br) (HB0.out.trans (HX.out.2.2.mono HB0.out.size)) (by have := HN.out; omega) HD.out (HB0.out.trans (HX.out.2.2.mono HB0.out.size)) (by have := HN.out; omega) HOA.out) (D0.out.2.2.below HX.out.2.2))
      have r0' := HDR.out.2.cell 0
      have r1' := HDR.out.2.cell 1
      have r2' := HDR.out.2.cell 2
      have r3' := HDR.out.2.cell 3
      have rf' := HDR.out.2.frozen
      simp only [List.getElem?_cons_succ, List.getElem?_cons_zero] at r0' r1' r2' r3'
      have HRT := hide (HDR.out.1 (.slice Ap 16 cp) (.slice Av V.length cv) (.slice Ac C.length cc) (.int .i64 S.nx))
      go_wp2
      refine bodyPost_ret (v := .tuple #[.agg #[.slice Ap 16 cp, .slice Av V.length cv, .slice Ac C.length cc, .int .i64 S.nx], .int .i64 r2]) (by simp [results, Tryz.results10, go_sem, r0', r1', r2', r3']) rfl ?_
      rw [HQ0.out]
      exact ⟨⟨Ap, cp, V, Av, cv, C, Ac, cc⟩, rfl, HRT.out.1, HRT.out.2⟩
  · skip
    rename_i hunm
    clear hunm
    obtain ⟨w3, hw3⟩ : ∃ w3, (((w2.setCell ⟨w1.heap.size, 0, none⟩ (.slice A4 16 c4)).setCell ⟨w1.heap.size, 1, none⟩ (.slice B4 V4.length d4)).setCell ⟨w1.heap.size, 2, none⟩ (.slice D4 C4.length e4)).setCell ⟨w1.heap.size, 3, none⟩ (.int .i64 R1.nx) = w3 := ⟨_, rfl⟩
    obtain ⟨b6, hb6⟩ : ∃ b6, w1.heap.size = b6 := ⟨_, rfl⟩
    have hX : DO w0 w3 no4 av4 ⟨A4, c4, V4, B4, d4, C4, D4, e4⟩ R1 ∧ Blk w3 b6 31 [.slice A4 16 c4, .slice B4 V4.length d4, .slice D4 C4.length e4, .int .i64 R1.nx] ∧ Below w0.heap.size w0 w3 := by
      subst hw3
      subst hb6
      exact apX HD2.out.1 HD2.out.2.1 (fun hx => by rcases HD2.out.2.2.2.1 _ hx with h | h <;> first | (have := HDO.out.1.lt _ (HDO.out.1.sub _ h); omega) | (simp only [alloc_size] at h; omega)) HB2.out hb2q hb1q.size _ _ _ _
    have hbn : br ∉ no4 := fun hx => by
      have h1 := D0.out.2.2.lt
      have h5 := hb1q.size
      rcases HD2.out.2.2.2.1 _ hx with h | h
      · have h2 := HDO.out.2.1 _ h
        simp only [drew_size, alloc_size] at h2
        omega
      · (try simp only [alloc_size] at h)
        omega
    have HBN := hide (And.intro hbn (And.intro (HD2.out.2.2.1 br (List.mem_cons_self ..)) (fun z (hz : z ∈ no) => HD2.out.2.2.1 z (List.mem_cons_of_mem _ hz))))
    have HX := hide hX
    rw [hw3, hb6]
    clear hbn hX hw3 hb6 hb2q hb1q hS0 hS1 z0 z1 z2 z3 y0 y1 y2 y3 y4 y5 y6 y7 r0
    (try clear q0 q1 q2 q3 qf)
    have s0 := (D0.out.1.below HX.out.2.2).cell 0
    have s1 := (D0.out.1.below HX.out.2.2).cell 1
    have s2 := (D0.out.1.below HX.out.2.2).cell 2
    have s3 := (D0.out.1.below HX.out.2.2).cell 3
    have q0 := HX.out.2.1.cell 0
    have q1 := HX.out.2.1.cell 1
    have q2 := HX.out.2.1.cell 2
    have q3 := HX.out.2.1.cell 3
    simp only [List.getElem?_cons_succ, List.getElem?_cons_zero] at s0 s1 s2 s3 q0 q1 q2 q3
    by_cases hz : r2 = 0
    · subst hz
      have hok := HO.out.1.act (n := n) (by omega) ⟨k0, a0, b0, c0, ⟨qr, qw, ql, qb⟩⟩
      have hin := HO.out.2.1.act HO.out.1 ⟨k0, a0, b0, c0, ⟨qr, qw, ql, qb⟩⟩
      rw [HR.out] at hok hin
      have hls := hok.lens (by omega)
      have hlV := HX.out.1.lenV
      have hlC := HX.out.1.lenC
      simp only [] at hlV hlC hls
      have HAD := hide (dadmits_calls w3 av4 ⟨A4, c4, V4, B4, d4, C4, D4, e4⟩ R1 (n + 1) R1.nx HX.out.1.dm hin hok (by simp only []; omega) (by simp only []; omega))
      unfold DV.val DV.cells at HAD
      simp only [] at HAD
      obtain ⟨ad, had⟩ : ∃ ad, R1.admits = ad := ⟨_, rfl⟩
      rw [had] at HAD
      have HAM := hide had
      clear hok hin hls hlV hlC had
      go_wp2_with fail
      refine HAD.out.mono ?_
      rintro e w4 ⟨rfl, hb4⟩
      have HB4 := hide (HX.out.2.2.trans (hb4.mono HX.out.2.2.size))
      have HX4 := hide (HX.out.1.below hb4)
      clear s0 s1 s2 s3 q0 q1 q2 q3
      have s0 := (D0.out.1.below HB4.out).cell 0
      have s1 := (D0.out.1.below HB4.out).cell 1
      have s2 := (D0.out.1.below HB4.out).cell 2
      have s3 := (D0.out.1.below HB4.out).cell 3
      have q0 := (HX.out.2.1.below hb4).cell 0
      have q1 := (HX.out.2.1.below hb4).cell 1
      have q2 := (HX.out.2.1.below hb4).cell 2
      have q3 := (HX.out.2.1.below hb4).cell 3
      simp only [List.getElem?_cons_succ, List.getElem?_cons_zero] at s0 s1 s2 s3 q0 q1 q2 q3
      clear hb4 HAD
      cases ad with
      | false =>
        have HQ0 := hide (apply_rate HR.out HAM.out)
        have HDR := hide (And.intro (apRet (w0 := w) (w := w) (w' := w4) (br := br) (HB0.out.trans (HB4.out.mono HB0.out.size)) (by have := HN.out; omega) HD.out (HB0.out.trans (HB4.out.mono HB0.out.size)) (by have := HN.out; omega) HOA.out) (D0.out.2.2.below HB4.out))
        have r0' := HDR.out.2.cell 0
        have r1' := HDR.out.2.cell 1
        have r2' := HDR.out.2.cell 2
        have r3' := HDR.out.2.cell 3
        have rf' := HDR.out.2.frozen
        simp only [List.getElem?_cons_succ, List.getElem?_cons_zero] at r0' r1' r2' r3'
        have HRT := hide (HDR.out.1 (.slice Ap 16 cp) (.slice Av V.length cv) (.slice Ac C.length cc) (.int .i64 S.nx))
        go_wp2
        refine bodyPost_ret (v := .tuple #[.agg #[.slice Ap 16 cp, .slice Av V.length cv, .slice Ac C.length cc, .int .i64 S.nx], .int .i64 14]) (by simp [results, Tryz.results10, go_sem, r0', r1', r2', r3']) rfl ?_
        rw [HQ0.out]
        exact ⟨⟨Ap, cp, V, Av, cv, C, Ac, cc⟩, rfl, HRT.out.1, HRT.out.2⟩
      | true =>
        have HQ0 := hide (apply_ok HR.out HAM.out)
        have HDR := hide (And.intro (apRet2 (w := w) HX4.out HBN.out.2.1 HBN.out.1 HBN.out.2.2 (HB0.out.trans (HB4.out.mono HB0.out.size)) (by have := HN.out; omega) (HX4.out.outA (fun z hz => HM2.out z (List.mem_cons_of_mem _ hz)))) (D0.out.2.2.below HB4.out))
        have r0' := HDR.out.2.cell 0
        have r1' := HDR.out.2.cell 1
        have r2' := HDR.out.2.cell 2
        have r3' := HDR.out.2.cell 3
        have rf' := HDR.out.2.frozen
        simp only [List.getElem?_cons_succ, List.getElem?_cons_zero] at r0' r1' r2' r3'
        have HRT := hide (HDR.out.1 (.slice A4 16 c4) (.slice B4 V4.length d4) (.slice D4 C4.length e4) (.int .i64 R1.nx))
        go_wp2
        refine bodyPost_ret (v := .tuple #[.agg #[.slice A4 16 c4, .slice B4 V4.length d4, .slice D4 C4.length e4, .int .i64 R1.nx], .int .i64 0]) (by simp [results, Tryz.results10, go_sem, r0', r1', r2', r3']) rfl ?_
        rw [HQ0.out]
        exact ⟨⟨A4, c4, V4, B4, d4, C4, D4, e4⟩, rfl, HRT.out.1, HRT.out.2⟩
    · have HQ0 := hide (apply_err HR.out hz)
      have hz2 : (r2 != 0) = true := bne_iff_ne.2 hz
      have HDR := hide (And.intro (apRet (w0 := w) (w := w) (w' := w3) (br := br) (HB0.out.trans (HX.out.2.2.mono HB0.out.size)) (by have := HN.out; omega) HD.out (HB0.out.trans (HX.out.2.2.mono HB0.out.size)) (by have := HN.out; omega) HOA.out) (D0.out.2.2.below HX.out.2.2))
      have r0' := HDR.out.2.cell 0
      have r1' := HDR.out.2.cell 1
      have r2' := HDR.out.2.cell 2
      have r3' := HDR.out.2.cell 3
      have rf' := HDR.out.2.frozen
      simp only [List.getElem?_cons_succ, List.getElem?_cons_zero] at r0' r1' r2' r3'
      have HRT := hide (HDR.out.1 (.slice Ap 16 cp) (.slice Av V.length cv) (.slice Ac C.length cc) (.int .i64 S.nx))
      go_wp2
      refine bodyPost_ret (v := .tuple #[.agg #[.slice Ap 16 cp, .slice Av V.length cv, .slice Ac C.length cc, .int .i64 S.nx], .int .i64 r2]) (by simp [results, Tryz.results10, go_sem, r0', r1', r2', r3']) rfl ?_
      rw [HQ0.out]
      exact ⟨⟨Ap, cp, V, Av, cv, C, Ac, cc⟩, rfl, HRT.out.1, HRT.out.2⟩
  · skip
    rename_i hunm
    clear hunm
    obtain ⟨w3, hw3⟩ : ∃ w3, (((w2.setCell ⟨w0.heap.size, 0, none⟩ (.slice A4 16 c4)).setCell ⟨w0.heap.size, 1, none⟩ (.slice B4 V4.length d4)).setCell ⟨w0.heap.size, 2, none⟩ (.slice D4 C4.length e4)).setCell ⟨w0.heap.size, 3, none⟩ (.int .i64 R1.nx) = w3 := ⟨_, rfl⟩
    obtain ⟨b6, hb6⟩ : ∃ b6, w0.heap.size = b6 := ⟨_, rfl⟩
    have hX : DO w0 w3 no4 av4 ⟨A4, c4, V4, B4, d4, C4, D4, e4⟩ R1 ∧ Blk w3 b6 31 [.slice A4 16 c4, .slice B4 V4.length d4, .slice D4 C4.length e4, .int .i64 R1.nx] ∧ Below w0.heap.size w0 w3 := by
      subst hw3
      subst hb6
      exact apX HD2.out.1 HD2.out.2.1 (fun hx => by rcases HD2.out.2.2.2.1 _ hx with h | h <;> first | (have := HDO.out.2.1 _ h; simp only [drew_size, alloc_size] at this; omega) | (have := HDO.out.2.2.size; simp only [drew_size, alloc_size] at this; omega)) HB2.out hb2q (Nat.le_refl _) _ _ _ _
    have hbn : br ∉ no4 := fun hx => by
      have h1 := D0.out.2.2.lt
      have h5 := hb1q.size
      rcases HD2.out.2.2.2.1 _ hx with h | h
      · have h2 := HDO.out.2.1 _ h
        simp only [drew_size, alloc_size] at h2
        omega
      · (try simp only [alloc_size] at h)
        omega
    have HBN := hide (And.intro hbn (And.intro (HD2.out.2.2.1 br (List.mem_cons_self ..)) (fun z (hz : z ∈ no) => HD2.out.2.2.1 z (List.mem_cons_of_mem _ hz))))
    have HX := hide hX
    rw [hw3, hb6]
    clear hbn hX hw3 hb6 hb2q hb1q hS0 hS1 z0 z1 z2 z3 y0 y1 y2 y3 y4 y5 y6 y7 r0
    (try clear q0 q1 q2 q3 qf)
    have s0 := (D0.out.1.below HX.out.2.2).cell 0
    have s1 := (D0.out.1.below HX.out.2.2).cell 1
    have s2 := (D0.out.1.below HX.out.2.2).cell 2
    have s3 := (D0.out.1.below HX.out.2.2).cell 3
    have q0 := HX.out.2.1.cell 0
    have q1 := HX.out.2.1.cell 1
    have q2 := HX.out.2.1.cell 2
    have q3 := HX.out.2.1.cell 3
    simp only [List.getElem?_cons_succ, List.getElem?_cons_zero] at s0 s1 s2 s3 q0 q1 q2 q3
    by_cases hz : r2 = 0
    · subst hz
      have hok := HO.out.1.act (n := n) (by omega) ⟨k0, a0, b0, c0, ⟨qr, qw, ql, qb⟩⟩
      have hin := HO.out.2.1.act HO.out.1 ⟨k0, a0, b0, c0, ⟨qr, qw, ql, qb⟩⟩
      rw [HR.out] at hok hin
      have hls := hok.lens (by omega)
      have hlV := HX.out.1.lenV
      have hlC := HX.out.1.lenC
      simp only [] at hlV hlC hls
      have HAD := hide (dadmits_calls w3 av4 ⟨A4, c4, V4, B4, d4, C4, D4, e4⟩ R1 (n + 1) R1.nx HX.out.1.dm hin hok (by simp only []; omega) (by simp only []; omega))
      unfold DV.val DV.cells at HAD
      simp only [] at HAD
      obtain ⟨ad, had⟩ : ∃ ad, R1.admits = ad := ⟨_, rfl⟩
      rw [had] at HAD
      have HAM := hide had
      clear hok hin hls hlV hlC had
      go_wp2_with fail
      refine HAD.out.mono ?_
      rintro e w4 ⟨rfl, hb4⟩
      have HB4 := hide (HX.out.2.2.trans (hb4.mono HX.out.2.2.size))
      have HX4 := hide (HX.out.1.below hb4)
      clear s0 s1 s2 s3 q0 q1 q2 q3
      have s0 := (D0.out.1.below HB4.out).cell 0
      have s1 := (D0.out.1.below HB4.out).cell 1
      have s2 := (D0.out.1.below HB4.out).cell 2
      have s3 := (D0.out.1.below HB4.out).cell 3
      have q0 := (HX.out.2.1.below hb4).cell 0
      have q1 := (HX.out.2.1.below hb4).cell 1
      have q2 := (HX.out.2.1.below hb4).cell 2
      have q3 := (HX.out.2.1.below hb4).cell 3
      simp only [List.getElem?_cons_succ, List.getElem?_cons_zero] at s0 s1 s2 s3 q0 q1 q2 q3
      clear hb4 HAD
      cases ad with
      | false =>
        have HQ0 := hide (apply_rate HR.out HAM.out)
        have HDR := hide (And.intro (apRet (w0 := w) (w := w) (w' := w4) (br := br) (HB0.out.trans (HB4.out.mono HB0.out.size)) (by have := HN.out; omega) HD.out (HB0.out.trans (HB4.out.mono HB0.out.size)) (by have := HN.out; omega) HOA.out) (D0.out.2.2.below HB4.out))
        have r0' := HDR.out.2.cell 0
        have r1' := HDR.out.2.cell 1
        have r2' := HDR.out.2.cell 2
        have r3' := HDR.out.2.cell 3
        have rf' := HDR.out.2.frozen
        simp only [List.getElem?_cons_succ, List.getElem?_cons_zero] at r0' r1' r2' r3'
        have HRT := hide (HDR.out.1 (.slice Ap 16 cp) (.slice Av V.length cv) (.slice Ac C.length cc) (.int .i64 S.nx))
        go_wp2
        refine bodyPost_ret (v := .tuple #[.agg #[.slice Ap 16 cp, .slice Av V.length cv, .slice Ac C.length cc, .int .i64 S.nx], .int .i64 14]) (by simp [results, Tryz.results10, go_sem, r0', r1', r2', r3']) rfl ?_
        rw [HQ0.out]
        exact ⟨⟨Ap, cp, V, Av, cv, C, Ac, cc⟩, rfl, HRT.out.1, HRT.out.2⟩
      | true =>
        have HQ0 := hide (apply_ok HR.out HAM.out)
        have HDR := hide (And.intro (apRet2 (w := w) HX4.out HBN.out.2.1 HBN.out.1 HBN.out.2.2 (HB0.out.trans (HB4.out.mono HB0.out.size)) (by have := HN.out; omega) (HX4.out.outA (fun z hz => HM2.out z (List.mem_cons_of_mem _ hz)))) (D0.out.2.2.below HB4.out))
        have r0' := HDR.out.2.cell 0
        have r1' := HDR.out.2.cell 1
        have r2' := HDR.out.2.cell 2
        have r3' := HDR.out.2.cell 3
        have rf' := HDR.out.2.frozen
        simp only [List.getElem?_cons_succ, List.getElem?_cons_zero] at r0' r1' r2' r3'
        have HRT := hide (HDR.out.1 (.slice A4 16 c4) (.slice B4 V4.length d4) (.slice D4 C4.length e4) (.int .i64 R1.nx))
        go_wp2
        refine bodyPost_ret (v := .tuple #[.agg #[.slice A4 16 c4, .slice B4 V4.length d4, .slice D4 C4.length e4, .int .i64 R1.nx], .int .i64 0]) (by simp [results, Tryz.results10, go_sem, r0', r1', r2', r3']) rfl ?_
        rw [HQ0.out]
        exact ⟨⟨A4, c4, V4, B4, d4, C4, D4, e4⟩, rfl, HRT.out.1, HRT.out.2⟩
    · have HQ0 := hide (apply_err HR.out hz)
      have hz2 : (r2 != 0) = true := bne_iff_ne.2 hz
      have HDR := hide (And.intro (apRet (w0 := w) (w := w) (w' := w3) (br := br) (HB0.out.trans (HX.out.2.2.mono HB0.out.size)) (by have := HN.out; omega) HD.out (HB0.out.trans (HX.out.2.2.mono HB0.out.size)) (by have := HN.out; omega) HOA.out) (D0.out.2.2.below HX.out.2.2))
      have r0' := HDR.out.2.cell 0
      have r1' := HDR.out.2.cell 1
      have r2' := HDR.out.2.cell 2
      have r3' := HDR.out.2.cell 3
      have rf' := HDR.out.2.frozen
      simp only [List.getElem?_cons_succ, List.getElem?_cons_zero] at r0' r1' r2' r3'
      have HRT := hide (HDR.out.1 (.slice Ap 16 cp) (.slice Av V.length cv) (.slice Ac C.length cc) (.int .i64 S.nx))
      go_wp2
      refine bodyPost_ret (v := .tuple #[.agg #[.slice Ap 16 cp, .slice Av V.length cv, .slice Ac C.length cc, .int .i64 S.nx], .int .i64 r2]) (by simp [results, Tryz.results10, go_sem, r0', r1', r2', r3']) rfl ?_
      rw [HQ0.out]
      exact ⟨⟨Ap, cp, V, Av, cv, C, Ac, cc⟩, rfl, HRT.out.1, HRT.out.2⟩
end Go.Proofs.YtcgecalbgkkinaaGreat

namespace Go.Proofs.YtcgecalbgkkinaaGreat
open Go.ChangeShapes Go.WideShapes Go.ChangeAt Go.RowKit Go.Joins Go.Deep Go.Maps
set_option linter.unusedVariables false
set_option linter.unusedSimpArgs false

theorem DM.start {w : World} {b : Nat} (no : List Nat) (cs : List Value) (h : Blk w b 3 cs) (hc : cs = List.replicate 16 (.int .i64 0)) : DM w no ⟨some ⟨b, 0, none⟩, 16, [], none, 0, [], none, 0⟩ ⟨[], [], [], 1⟩ := by
  subst hc
  refine ⟨⟨by simp [Vst.picks], fun _ => ⟨b, 0, rfl, h.lt, fun j u hu => ?_⟩⟩, Reads.none_, Reads.none_, rfl, rfl, (fun y hy => by cases hy), (fun y hy => by cases hy)⟩
  rw [Nat.zero_add, h.cell j, ← hu]
  unfold Vst.picks
  rw [List.getElem?_map, List.getElem?_replicate]
  by_cases hj : j < 16
  · rw [if_pos hj, List.getElem?_range hj]
    rfl
  · rw [if_neg hj, List.getElem?_eq_none (by simpa using hj)]
    rfl
set_option maxHeartbeats 2000000 in
set_option maxRecDepth 100000 in
theorem dnew_calls (w : World) : Calls Tryz.prog 9 #[] w fun e w' => ∃ b : Nat, e = .returned ((⟨some ⟨b, 0, none⟩, 16, [], none, 0, [], none, 0⟩ : DV).val 1) ∧ (∀ no, DM w' no ⟨some ⟨b, 0, none⟩, 16, [], none, 0, [], none, 0⟩ ⟨[], [], [], 1⟩) ∧ w.heap.size ≤ b ∧ b < w'.heap.size ∧ Below w.heap.size w w' := by
  have hmk : ∀ w : World, (Instr.makeSlice 27 (.int .i64 16) (.int .i64 16)).run Tryz.prog w = .ok (.slice (some ⟨w.heap.size, 0, none⟩) 16 16) (w.alloc (.cells #[.int .i64 0, .int .i64 0, .int .i64 0, .int .i64 0, .int .i64 0, .int .i64 0, .int .i64 0, .int .i64 0, .int .i64 0, .int .i64 0, .int .i64 0, .int .i64 0, .int .i64 0, .int .i64 0, .int .i64 0, .int .i64 0] 3)) := fun _ => by kernel_rfl
  go_enter Tryz.func9, Tryz.ntmps9
  go_wp2
  refine bodyPost_ret (v := (⟨some ⟨w.heap.size + 1, 0, none⟩, 16, [], none, 0, [], none, 0⟩ : DV).val 1) (by simp [results, Tryz.results9, go_sem, DV.val, DV.cells]) rfl ?_
  refine ⟨w.heap.size + 1, rfl, fun no => DM.start no [.int .i64 0, .int .i64 0, .int .i64 0, .int .i64 0, .int .i64 0, .int .i64 0, .int .i64 0, .int .i64 0, .int .i64 0, .int .i64 0, .int .i64 0, .int .i64 0, .int .i64 0, .int .i64 0, .int .i64 0, .int .i64 0] (Blk.new (by simp)) rfl, by omega, by simp, ((Below.refl _ _).alloc (Nat.le_refl _) _).alloc (by simp) _⟩
theorem fd_at {α : Type} {key : α → Int} {L : List α} (h : Rise key L) {k : Nat} (hk : k < L.length) : fd key L (key L[k]) = some L[k] := fd_get h hk
/-- an int of a row that the call has made, in any later world -/
theorem MadeI.rule {w w' : World} {A : Option Addr} {c : Nat} {l : List Int} (h : MadeI w w' A c l) {k : Nat} (hk : k < l.length) : ∃ b o, A = some ⟨b, o, none⟩ ∧ ∀ w2, Below w'.heap.size w' w2 → w2.cell? ⟨b, o + k, none⟩ = some (.int .i64 l[k]) := by
  obtain ⟨b, o, e, hb, hc⟩ := h.rd.2 (by omega)
  exact ⟨b, o, e, fun w2 hw => (hw.cell (p := ⟨b, o + k, none⟩) hb).trans (hc k _ (by simp [hk]))⟩
theorem Sl.rdI {w : World} {no : List Nat} {A : Option Addr} {c : Nat} {l : List Int} (h : Sl w no A c l) : RdI w A l := ⟨h.rd, h.ln⟩
theorem srv_get {S : Vst} {k : Nat} (h : k < S.sv.length) {x : Int × Int} (hx : S.sv[k] = x) (hl : k < S.srv.length) : S.srv[k] = ⟨x.1, x.2⟩ := by
  have h1 : S.srv[k]? = some ⟨x.1, x.2⟩ := by
    unfold Vst.srv
    rw [List.getElem?_map, List.getElem?_eq_getElem h, hx]
    rfl
  rw [List.getElem?_eq_getElem hl] at h1
  exact Option.some.inj h1
set_option maxHeartbeats 16000000 in
set_option maxRecDepth 100000 in
theorem dshows_calls (w : World) (b n : Nat) (no : List Nat) (x : DV) (S : Vst) (hv : VS w b S n) (hn : n ≤ 1001) (hd : DM w no x S) (hi : VIn S) :
    Calls Tryz.prog 12 #[.pointer (some ⟨b, 0, none⟩), x.val S.nx] w fun e w' => e = .returned (.int .i64 0) ∧ Below w.heap.size w w' := by
  obtain ⟨Ap, cp, V, Av, cv, C, Ac, cc⟩ := x
  have hls := hv.ok.lens hn
  have hlV := hd.lenV
  have hlC := hd.lenC
  simp only [] at hlV hlC
  have HLS := hide (And.intro hls (And.intro hlV hlC))
  have HI := hide hi
  have hok := hv.ok
  have HOK := hide hok
  unfold DV.val DV.cells
  simp only []
  obtain ⟨w0, hw0⟩ : ∃ w0, w.alloc (.cells #[.slice Ap 16 cp, .slice Av V.length cv, .slice Ac C.length cc, .int .i64 S.nx] 31) = w0 := ⟨_, rfl⟩
  have d0 : Blk w0 w.heap.size 31 [.slice Ap 16 cp, .slice Av V.length cv, .slice Ac C.length cc, .int .i64 S.nx] := hw0 ▸ Blk.new rfl
  have hb0 : Below w.heap.size w w0 := hw0 ▸ (Below.refl _ _).alloc (Nat.le_refl _) _
  obtain ⟨bx, hbx⟩ : ∃ bx, w.heap.size = bx := ⟨_, rfl⟩
  rw [hbx] at d0
  have HV0 := hide (hv.below hb0)
  have HD0 := hide (hd.below hb0)
  have HW := hide (And.intro hw0 hbx)
  have D0 := hide d0
  have HB0 := hide hb0
  have hC1 := hide (HV0.out.volumes hn)
  clear hv hd hi hok d0 hb0 hw0 hbx hls hlV hlC
  go_enter Tryz.func12, Tryz.ntmps12
  go_wp2_with fail
  rw [HW.out.1, HW.out.2]
  refine hC1.out.mono ?_
  rintro e w1 ⟨A1, c1, rfl, ho1, hb1⟩
  have H1 := hide (And.intro ho1.made hb1)
  have HV1 := hide (HV0.out.below hb1)
  have hC2 := hide (HV1.out.chunks hn)
  clear ho1 hb1 hC1
  go_wp2_with fail
  refine hC2.out.mono ?_
  rintro e w2 ⟨A2, c2, rfl, ho2, hb2⟩
  have H2 := hide (And.intro ho2.made hb2)
  have HV2 := hide (HV1.out.below hb2)
  have hC3 := hide (HV2.out.servers hn)
  clear ho2 hb2 hC2
  go_wp2_with fail
  refine hC3.out.mono ?_
  rintro e w3 ⟨A3, c3, rfl, hr3, hg3, hb3⟩
  have HB3 := hide (H1.out.2.trans ((H2.out.2.trans (hb3.mono H2.out.2.size)).mono H1.out.2.size))
  have HV3 := hide (HV2.out.below hb3)
  have HM1 := hide ((H1.out.1.below H2.out.2).below hb3)
  have HM2 := hide (H2.out.1.below hb3)
  have HR3 := hide hr3
  have HD3 := hide (HD0.out.below HB3.out)
  have D3 := hide (D0.out.below HB3.out)
  clear hr3 hg3 hb3 hC3
  have z1 := D3.out.cell 1
  have z2 := D3.out.cell 2
  simp only [List.getElem?_cons_succ, List.getElem?_cons_zero] at z1 z2
  have n1 : ((S.vs.length : Int) != V.length) = false := by rw [HLS.out.2.1]; simp
  have n2 : ((S.cs.length : Int) != C.length) = false := by rw [HLS.out.2.2]; simp
  go_wp2_with fail
  clear z1 z2 n1 n2
  go_loopw [4, 8, 9, 10, 40, 41, 42, 43, 44, 45, 46, 47, 48, 49, 50, 51, 52, 53, 54, 55, 56, 57, 58, 59, 60, 61, 62, 63, 64, 65, 66] (fun r i _ _ _ _ _ _ _ _ _ _ _ _ _ _ _ _ _ _ _ _ _ _ _ _ _ _ _ _ _ wr => ∃ k : Nat, k ≤ S.vs.length ∧ i = .int .i64 k ∧ r = .int .i64 0 ∧ Below w3.heap.size w3 wr) (fun r i _ _ _ _ _ _ _ _ _ _ _ _ _ _ _ _ _ _ _ _ _ _ _ _ _ _ _ _ _ _ => S.vs.length - (intOf i).toNat)
  case atStart => exact ⟨0, Nat.zero_le _, rfl, rfl, Below.refl _ _⟩
  case round =>
    obtain ⟨k, hk, rfl, rfl, hb⟩ := hrel
    have HB := hide hb
    have hl64 : S.vs.length ≤ 64 := HLS.out.1.2.1
    clear hb
    by_cases hlt : k < S.vs.length
    · obtain ⟨bA, oA, eA, hA⟩ := HM1.out.rule (k := k) (by simpa using hlt)
      subst eA
      have g0 := hA wr HB.out
      obtain ⟨⟨vid, vbl, ⟨vr, vw, vl, vb⟩, vver, vch⟩, hv⟩ : ∃ v, S.vs[k] = v := ⟨_, rfl⟩
      rw [List.getElem_map, hv] at g0
      (try simp only [] at g0)
      have hfd : fd Vo.id S.vs vid = some ⟨vid, vbl, ⟨vr, vw, vl, vb⟩, vver, vch⟩ := by
        have := fd_at HOK.out.vsr hlt
        rw [hv] at this
        exact this
      have hva := HOK.out.vsa ⟨vid, vbl, ⟨vr, vw, vl, vb⟩, vver, vch⟩ (by rw [← hv]; exact List.getElem_mem _)
      (try simp only [] at hva)
      have hVC := (HV3.out.below HB.out).volume (id := vid) (by unfold i64ok; omega)
      rw [hfd] at hVC
      have HVC := hide hVC
      have HVL := hide (HV3.out.below HB.out).lt
      have hkV : k < V.length := by have := HLS.out.2.1; omega
      have hyv : S.vs[k] = (V[k]'hkV).v := (HD3.out.getV hkV)
      obtain ⟨⟨yv, yA, yc⟩, hy⟩ : ∃ y, V[k]'hkV = y := ⟨_, rfl⟩
      rw [hy, hv] at hyv
      (try simp only [] at hyv)
      subst hyv
      have hsl := HD3.out.sV ⟨⟨vid, vbl, ⟨vr, vw, vl, vb⟩, vver, vch⟩, yA, yc⟩ (by rw [← hy]; exact List.getElem_mem _)
      have HSL := hide hsl.rdI
      obtain ⟨bV, oV, eV, hbV, hcV⟩ := HD3.out.atV hkV
      (try simp only [] at eV)
      subst eV
      rw [hy] at hcV
      (try simp only [] at hcV)
      have i1 : (k : Int) < S.vs.length := by omega
      have i2 : (k : Int) < V.length := by omega
      clear hA hfd hva hVC hsl hy hv hbV
      go_wp2_with fail
      refine HVC.out.mono ?_
      rintro e w4 hvo
      obtain ⟨A4, c4, rfl, hbox, hbw⟩ := hvo.box HVL.out
      simp only [VoM.val, VoM.cells] at hbox ⊢
      obtain ⟨w5, hw5⟩ : ∃ w5, w4.alloc (.cells #[.int .i64 vid, .int .i64 vbl, .int .i64 vr, .int .i64 vw, .int .i64 vl, .int .i64 vb, .int .i64 vver, .slice A4 vch.length c4] 43) = w5 := ⟨_, rfl⟩
      have hb5 : Below wr.heap.size wr w5 := hw5 ▸ bwA hbw _
      obtain ⟨bv, hbv⟩ : ∃ bv, w4.heap.size = bv := ⟨_, rfl⟩
      rw [hbv] at hbox
      have hbox5 : VBox w5 b bv ⟨vid, vbl, ⟨vr, vw, vl, vb⟩, vver, vch⟩ A4 c4 := hw5 ▸ hbox
      have HX5 := hide (And.intro hbox5 (HB.out.trans (hb5.mono HB.out.size)))
      have HW5 := hide (And.intro hw5 hbv)
      clear hbox hbw hb5 hbox5 hvo HVC hw5 hbv g0
      go_upto_region 8 with fail
      rw [HW5.out.1, HW5.out.2]
      have HSV : Hid (∀ w', Below w5.heap.size w5 w' → Calls Tryz.prog 29 #[.agg #[.int .i64 vid, .int .i64 vbl, .int .i64 vr, .int .i64 vw, .int .i64 vl, .int .i64 vb, .int .i64 vver, .slice A4 vch.length c4], .agg #[.int .i64 vid, .int .i64 vbl, .int .i64 vr, .int .i64 vw, .int .i64 vl, .int .i64 vb, .int .i64 vver, .slice yA vch.length yc]] w' fun e w'' => e = .returned (.bool true) ∧ Below w'.heap.size w' w'') :=
        hide (fun w' hb => sameVol_calls ⟨vid, vbl, ⟨vr, vw, vl, vb⟩, vver, vch⟩ A4 yA c4 yc w' (HX5.out.1.rd.below hb) ((HSL.out.below HX5.out.2).below hb))
      have f := fun j u (h : (VoM.cells ⟨⟨vid, vbl, ⟨vr, vw, vl, vb⟩, vver, vch⟩, A4, c4⟩)[j]? = some u) => HX5.out.1.blk.rule j u h
      have f0 := f 0 _ rfl
      have f1 := f 1 _ rfl
      have f2 := f 2 _ rfl
      have f3 := f 3 _ rfl
      have f4 := f 4 _ rfl
      have f5 := f 5 _ rfl
      have f6 := f 6 _ rfl
      have f7 := f 7 _ rfl
      have q := fun j (hj : j < 8) w' (hb : Below w5.heap.size w5 w') => hcV w' (HX5.out.2.trans (hb.mono HX5.out.2.size)) j hj
      have q0 : ∀ w', Below w5.heap.size w5 w' → w'.cell? ⟨bV, oV + k * 8, none⟩ = some (.int .i64 vid) := q 0 (by omega)
      have q1 : ∀ w', Below w5.heap.size w5 w' → w'.cell? ⟨bV, oV + k * 8 + 1, none⟩ = some (.int .i64 vbl) := q 1 (by omega)
      have q2 : ∀ w', Below w5.heap.size w5 w' → w'.cell? ⟨bV, oV + k * 8 + 2, none⟩ = some (.int .i64 vr) := q 2 (by omega)
      have q3 : ∀ w', Below w5.heap.size w5 w' → w'.cell? ⟨bV, oV + k * 8 + 3, none⟩ = some (.int .i64 vw) := q 3 (by omega)
      have q4 : ∀ w', Below w5.heap.size w5 w' → w'.cell? ⟨bV, oV + k * 8 + 4, none⟩ = some (.int .i64 vl) := q 4 (by omega)
      have q5 : ∀ w', Below w5.heap.size w5 w' → w'.cell? ⟨bV, oV + k * 8 + 5, none⟩ = some (.int .i64 vb) := q 5 (by omega)
      have q6 : ∀ w', Below w5.heap.size w5 w' → w'.cell? ⟨bV, oV + k * 8 + 6, none⟩ = some (.int .i64 vver) := q 6 (by omega)
      have q7 : ∀ w', Below w5.heap.size w5 w' → w'.cell? ⟨bV, oV + k * 8 + 7, none⟩ = some (.slice yA vch.length yc) := q 7 (by omega)
      have z1 : ∀ w', Below w5.heap.size w5 w' → w'.cell? ⟨bx, 1, none⟩ = some (.slice (some ⟨bV, oV, none⟩) V.length cv) := fun w' hb => D3.out.rule 1 _ rfl w' (HX5.out.2.trans (hb.mono HX5.out.2.size))
      have r5 := (Below.refl w5.heap.size w5).drew
      clear f q hcV
      refine region_lq (fun w' => Below w5.heap.size w5 w') [(2, 0), (2, 1), (2, 2), (0, 3), (2, 4), (0, 5), (2, 6), (2, 7), (0, 8), (1, 9), (2, 10), (2, 11)] #[true, true, true, true, true, true, true, true, true, true, true, true] (by kernel_rfl) (by kernel_rfl) (by kernel_rfl) (by kernel_rfl) (by kernel_rfl) (by kernel_rfl) (fun _ _ _ _ _ h => h) (by (exact r5)) (hL := rfl) ?_
      (iterate 3 ((apply lq_pure (by rfl); (focus (intro w; go_simp; (try with_reducible rfl); done)); intro K hK; simp only [Act.put, zA41, zB41, zC41]; refine hK _ ?_; clear hK K))); (apply lq_take (by kernel_rfl); (focus (intro w hw; (try dsimp only at hw); go_simp; (try with_reducible rfl); done)); intro K hK; simp only [Act.put, zA41, zB41, zC41]; refine hK _ ?_; clear hK K); (apply lq_pure (by kernel_rfl); (focus (intro w; go_simp; (try with_reducible rfl); done)); intro K hK; simp only [Act.put, zA41, zB41, zC41]; refine hK _ ?_; clear hK K); (apply lq_take (by kernel_rfl); (focus (intro w hw; (try dsimp only at hw); go_simp; (try with_reducible rfl); done)); intro K hK; simp only [Act.put, zA41, zB41, zC41]; refine hK _ ?_; clear hK K); (iterate 2 ((apply lq_pure (by kernel_rfl); (focus (intro w; go_simp; (try with_reducible rfl); done)); intro K hK; simp only [Act.put, zA41, zB41, zC41]; refine hK _ ?_; clear hK K))); (apply lq_take (by kernel_rfl); (focus (intro w hw; (try dsimp only at hw); go_simp; (try with_reducible rfl); done)); intro K hK; simp only [Act.put, zA41, zB41, zC41]; refine hK _ ?_; clear hK K)
      refine lq_eff (by kernel_rfl) ?_
      intro K Q1 hQ1 hK; clear hQ1; go_simp; (go_at_call 29; refine (HSV.out _ r5).mono ?_; rintro e w6 ⟨rfl, hb6⟩; have hS9 := r5.trans (hb6.mono r5.size)); (try simp only [Act.put, zA41, zB41, zC41]); refine hK _ _ hS9 ?_; clear hK K Q1 hS9
      (apply lq_pure (by kernel_rfl); (focus (intro w; go_simp; (try with_reducible rfl); done)); intro K hK; simp only [Act.put, zA41, zB41, zC41]; refine hK _ ?_; clear hK K); (apply lq_pure (by rfl); (focus (intro w; go_simp; (try with_reducible rfl); done)); intro K hK; simp only [Act.put, zA41, zB41, zC41]; refine hK _ ?_; clear hK K)
      refine lq_nil ?_
      intro hS9
      have HBE := hide (HX5.out.2.trans (hS9.mono HX5.out.2.size))
      clear hS9 f0 f1 f2 f3 f4 f5 f6 f7 q0 q1 q2 q3 q4 q5 q6 q7 z1 r5 HSV
      go_wp2
      go_roundw
      case rel => exact ⟨k + 1, by omega, by go_num, rfl, HBE.out⟩
      case measure => simp [intOf]; omega
    · have hkE : k = S.vs.length := by omega
      have i1 : ¬ (k : Int) < S.vs.length := by omega
      clear hkE
      have HBA := hide HB.out
      obtain ⟨wa, rfl⟩ : ∃ wa, wa = wr := ⟨_, rfl⟩
      clear HB hk hl64
      go_wp2_with fail
      go_loopw [4, 11, 12, 13, 67, 68, 69, 70, 71, 72, 73, 74, 75, 76, 77, 78, 79, 80, 81, 82, 83, 84, 85, 86, 87, 88, 89, 90, 91, 92, 93] (fun r i _ _ _ _ _ _ _ _ _ _ _ _ _ _ _ _ _ _ _ _ _ _ _ _ _ _ _ _ _ wr => ∃ k : Nat, k ≤ S.cs.length ∧ i = .int .i64 k ∧ r = .int .i64 0 ∧ Below w3.heap.size w3 wr) (fun r i _ _ _ _ _ _ _ _ _ _ _ _ _ _ _ _ _ _ _ _ _ _ _ _ _ _ _ _ _ _ => S.cs.length - (intOf i).toNat)
      case atStart => exact ⟨0, Nat.zero_le _, rfl, rfl, HBA.out⟩
      case round =>
        obtain ⟨k, hk, rfl, rfl, hb⟩ := hrel
        have HB := hide hb
        have hl64 : S.cs.length ≤ 70000 := HLS.out.1.2.2.1
        clear hb
        by_cases hlt : k < S.cs.length
        · obtain ⟨bA, oA, eA, hA⟩ := HM2.out.rule (k := k) (by simpa using hlt)
          subst eA
          have g0 := hA wr HB.out
          obtain ⟨⟨cid, cvol, cep, cme, cjo⟩, hv⟩ : ∃ v, S.cs[k] = v := ⟨_, rfl⟩
          rw [List.getElem_map, hv] at g0
          (try simp only [] at g0)
          have hfd : fd Ck.id S.cs cid = some ⟨cid, cvol, cep, cme, cjo⟩ := by
            have := fd_at HOK.out.csr hlt
            rw [hv] at this
            exact this
          have hva := HOK.out.csa ⟨cid, cvol, cep, cme, cjo⟩ (by rw [← hv]; exact List.getElem_mem _)
          (try simp only [] at hva)
          have hnx := HLS.out.1.2.2.2
          have hVC := (HV3.out.below HB.out).chunk (id := cid) (by unfold i64ok; omega)
          rw [hfd] at hVC
          have HVC := hide hVC
          have HVL := hide (HV3.out.below HB.out).lt
          have hkV : k < C.length := by have := HLS.out.2.2; omega
          have hyv : S.cs[k] = (C[k]'hkV).k := (HD3.out.getC hkV)
          obtain ⟨⟨yv, yA, yc, yB, yd⟩, hy⟩ : ∃ y, C[k]'hkV = y := ⟨_, rfl⟩
          rw [hy, hv] at hyv
          (try simp only [] at hyv)
          subst hyv
          have hsl := HD3.out.sC ⟨⟨cid, cvol, cep, cme, cjo⟩, yA, yc, yB, yd⟩ (by rw [← hy]; exact List.getElem_mem _)
          have HSL := hide (And.intro hsl.1.rdI hsl.2.rdI)
          obtain ⟨bV, oV, eV, hbV, hcV⟩ := HD3.out.atC hkV
          (try simp only [] at eV)
          subst eV
          rw [hy] at hcV
          (try simp only [] at hcV)
          have i1 : (k : Int) < S.cs.length := by omega
          have i2 : (k : Int) < C.length := by omega
          clear hA hfd hva hVC hsl hy hv hbV hnx
          go_wp2_with fail
          refine HVC.out.mono ?_
          rintro e w4 hvo
          obtain ⟨A4, c4, B4, d4, rfl, hbox, hbw⟩ := hvo.box HVL.out
          simp only [CkM.val, CkM.cells] at hbox ⊢
          obtain ⟨w5, hw5⟩ : ∃ w5, w4.alloc (.cells #[.int .i64 cid, .int .i64 cvol, .int .i64 cep, .slice A4 cme.length c4, .slice B4 cjo.length d4] 47) = w5 := ⟨_, rfl⟩
          have hb5 : Below wr.heap.size wr w5 := hw5 ▸ bwA hbw _
          obtain ⟨bv, hbv⟩ : ∃ bv, w4.heap.size = bv := ⟨_, rfl⟩
          rw [hbv] at hbox
          have hbox5 : CBox w5 b bv ⟨cid, cvol, cep, cme, cjo⟩ A4 B4 c4 d4 := hw5 ▸ hbox
          have HX5 := hide (And.intro hbox5 (HB.out.trans (hb5.mono HB.out.size)))
          have HW5 := hide (And.intro hw5 hbv)
          clear hbox hbw hb5 hbox5 hvo HVC hw5 hbv g0
          go_upto_region 14 with fail
          rw [HW5.out.1, HW5.out.2]
          have HSV : Hid (∀ w', Below w5.heap.size w5 w' → Calls Tryz.prog 30 #[.agg #[.int .i64 cid, .int .i64 cvol, .int .i64 cep, .slice A4 cme.length c4, .slice B4 cjo.length d4], .agg #[.int .i64 cid, .int .i64 cvol, .int .i64 cep, .slice yA cme.length yc, .slice yB cjo.length yd]] w' fun e w'' => e = .returned (.bool true) ∧ Below w'.heap.size w' w'') :=
            hide (fun w' hb => sameChunk_calls ⟨cid, cvol, cep, cme, cjo⟩ A4 B4 yA yB c4 d4 yc yd w' (HX5.out.1.ra.below hb) (HX5.out.1.rb.below hb) ((HSL.out.1.below HX5.out.2).below hb) ((HSL.out.2.below HX5.out.2).below hb))
          have f := fun j u (h : (CkM.cells ⟨⟨cid, cvol, cep, cme, cjo⟩, A4, c4, B4, d4⟩)[j]? = some u) => HX5.out.1.blk.rule j u h
          have f0 := f 0 _ rfl
          have f1 := f 1 _ rfl
          have f2 := f 2 _ rfl
          have f3 := f 3 _ rfl
          have f4 := f 4 _ rfl
          have q := fun j (hj : j < 5) w' (hb : Below w5.heap.size w5 w') => hcV w' (HX5.out.2.trans (hb.mono HX5.out.2.size)) j hj
          have q0 : ∀ w', Below w5.heap.size w5 w' → w'.cell? ⟨bV, oV + k * 5, none⟩ = some (.int .i64 cid) := q 0 (by omega)
          have q1 : ∀ w', Below w5.heap.size w5 w' → w'.cell? ⟨bV, oV + k * 5 + 1, none⟩ = some (.int .i64 cvol) := q 1 (by omega)
          have q2 : ∀ w', Below w5.heap.size w5 w' → w'.cell? ⟨bV, oV + k * 5 + 2, none⟩ = some (.int .i64 cep) := q 2 (by omega)
          have q3 : ∀ w', Below w5.heap.size w5 w' → w'.cell? ⟨bV, oV + k * 5 + 3, none⟩ = some (.slice yA cme.length yc) := q 3 (by omega)
          have q4 : ∀ w', Below w5.heap.size w5 w' → w'.cell? ⟨bV, oV + k * 5 + 4, none⟩ = some (.slice yB cjo.length yd) := q 4 (by omega)
          have z1 : ∀ w', Below w5.heap.size w5 w' → w'.cell? ⟨bx, 2, none⟩ = some (.slice (some ⟨bV, oV, none⟩) C.length cc) := fun w' hb => D3.out.rule 2 _ rfl w' (HX5.out.2.trans (hb.mono HX5.out.2.size))
          have r5 := (Below.refl w5.heap.size w5).drew
          clear f q hcV
          refine region_lq (fun w' => Below w5.heap.size w5 w') [(2, 0), (2, 1), (2, 2), (0, 3), (2, 4), (0, 5), (2, 6), (2, 7), (0, 8), (1, 9), (2, 10), (2, 11)] #[true, true, true, true, true, true, true, true, true, true, true, true] (by kernel_rfl) (by kernel_rfl) (by kernel_rfl) (by kernel_rfl) (by kernel_rfl) (by kernel_rfl) (fun _ _ _ _ _ h => h) (by (exact r5)) (hL := rfl) ?_
          (iterate 3 ((apply lq_pure (by rfl); (focus (intro w; go_simp; (try with_reducible rfl); done)); intro K hK; simp only [Act.put, zA41, zB41, zC41]; refine hK _ ?_; clear hK K))); (apply lq_take (by kernel_rfl); (focus (intro w hw; (try dsimp only at hw); go_simp; (try with_reducible rfl); done)); intro K hK; simp only [Act.put, zA41, zB41, zC41]; refine hK _ ?_; clear hK K); (apply lq_pure (by kernel_rfl); (focus (intro w; go_simp; (try with_reducible rfl); done)); intro K hK; simp only [Act.put, zA41, zB41, zC41]; refine hK _ ?_; clear hK K); (apply lq_take (by kernel_rfl); (focus (intro w hw; (try dsimp only at hw); go_simp; (try with_reducible rfl); done)); intro K hK; simp only [Act.put, zA41, zB41, zC41]; refine hK _ ?_; clear hK K); (iterate 2 ((apply lq_pure (by kernel_rfl); (focus (intro w; go_simp; (try with_reducible rfl); done)); intro K hK; simp only [Act.put, zA41, zB41, zC41]; refine hK _ ?_; clear hK K))); (apply lq_take (by kernel_rfl); (focus (intro w hw; (try dsimp only at hw); go_simp; (try with_reducible rfl); done)); intro K hK; simp only [Act.put, zA41, zB41, zC41]; refine hK _ ?_; clear hK K)
          refine lq_eff (by kernel_rfl) ?_
          intro K Q1 hQ1 hK; clear hQ1; go_simp; (go_at_call 30; refine (HSV.out _ r5).mono ?_; rintro e w6 ⟨rfl, hb6⟩; have hS9 := r5.trans (hb6.mono r5.size)); (try simp only [Act.put, zA41, zB41, zC41]); refine hK _ _ hS9 ?_; clear hK K Q1 hS9
          (apply lq_pure (by kernel_rfl); (focus (intro w; go_simp; (try with_reducible rfl); done)); intro K hK; simp only [Act.put, zA41, zB41, zC41]; refine hK _ ?_; clear hK K); (apply lq_pure (by rfl); (focus (intro w; go_simp; (try with_reducible rfl); done)); intro K hK; simp only [Act.put, zA41, zB41, zC41]; refine hK _ ?_; clear hK K)
          refine lq_nil ?_
          intro hS9
          have HBE := hide (HX5.out.2.trans (hS9.mono HX5.out.2.size))
          clear hS9 f0 f1 f2 f3 f4 q0 q1 q2 q3 q4 z1 r5 HSV
          go_wp2
          go_roundw
          case rel => exact ⟨k + 1, by omega, by go_num, rfl, HBE.out⟩
          case measure => simp [intOf]; omega
        · have i1 : ¬ (k : Int) < S.cs.length := by omega
          have HBC := hide HB.out
          obtain ⟨wc, rfl⟩ : ∃ wc, wc = wr := ⟨_, rfl⟩
          clear HB hk hl64
          go_wp2_with fail
          go_loopw [4, 14, 15, 16, 17, 18, 94, 95, 96, 97, 98, 99, 100, 101, 102, 103, 104, 105, 106, 107, 108, 109, 110, 111, 112, 113, 114, 115, 116, 117, 118, 119, 120, 121, 122, 123, 124, 125, 126, 127, 128, 129, 130, 131, 132, 133, 134, 135, 136, 137, 138, 139, 140, 141, 142, 143, 144, 145, 146, 147, 148, 149, 150, 151, 152, 153, 154, 155, 156, 157, 158, 159, 160, 161, 162, 163, 164, 165, 166, 167, 168, 169, 170, 171, 172, 173, 174, 175, 176, 177, 178, 179, 180, 181, 182, 183, 184] (fun r nn i _ _ _ _ _ _ _ _ _ _ _ _ _ _ _ _ _ _ _ _ _ _ _ _ _ _ _ _ _ _ _ _ _ _ _ _ _ _ _ _ _ _ _ _ _ _ _ _ _ _ _ _ _ _ _ _ _ _ _ _ _ _ _ _ _ _ _ _ _ _ _ _ _ _ _ _ _ _ _ _ _ _ _ _ _ _ _ _ _ _ _ _ _ _ wr => ∃ k : Nat, k ≤ S.sv.length ∧ i = .int .i64 k ∧ nn = .int .i64 k ∧ r = .int .i64 0 ∧ Below w3.heap.size w3 wr) (fun r nn i _ _ _ _ _ _ _ _ _ _ _ _ _ _ _ _ _ _ _ _ _ _ _ _ _ _ _ _ _ _ _ _ _ _ _ _ _ _ _ _ _ _ _ _ _ _ _ _ _ _ _ _ _ _ _ _ _ _ _ _ _ _ _ _ _ _ _ _ _ _ _ _ _ _ _ _ _ _ _ _ _ _ _ _ _ _ _ _ _ _ _ _ _ _ _ => S.sv.length - (intOf i).toNat)
          case atStart => exact ⟨0, Nat.zero_le _, rfl, rfl, rfl, HBC.out⟩
          case round =>
            obtain ⟨k, hk, rfl, rfl, rfl, hb⟩ := hrel
            have HB := hide hb
            have hl64 : S.sv.length ≤ 16 := HLS.out.1.1
            clear hb
            by_cases hlt : k < S.sv.length
            · obtain ⟨bS, oS, eS, hbS, hcS⟩ := HR3.out.2 (by omega)
              subst eS
              obtain ⟨⟨sid, cap⟩, hx⟩ : ∃ x, S.sv[k] = x := ⟨_, rfl⟩
              have hsva := HOK.out.sva (sid, cap) (by rw [← hx]; exact List.getElem_mem _)
              (try simp only [] at hsva)
              obtain ⟨sn, hsn⟩ : ∃ sn : Nat, sid = sn := ⟨sid.toNat, by omega⟩
              subst hsn
              have hpick : S.pick sn = cap := by
                have := fd_at HOK.out.svr hlt
                rw [hx] at this
                unfold Vst.pick
                rw [this]
              have hsl : k < S.srv.length := by unfold Vst.srv; simpa using hlt
              have hsg : S.srv[k] = ⟨sn, cap⟩ := srv_get hlt hx hsl
              have f0 := ldCells_get S.srv k 0 hsl (by omega)
              have f1 := ldCells_get S.srv k 1 hsl (by omega)
              rw [hsg] at f0 f1
              have rr := (Below.refl wr.heap.size wr).drew
              have s0 : ∀ w', Below wr.heap.size wr w' → w'.cell? ⟨bS, oS + k * 2, none⟩ = some (.int .i64 sn) := fun w' hb => ((HB.out.trans (hb.mono HB.out.size)).cell (p := ⟨bS, oS + k * 2, none⟩) hbS).trans (hcS _ _ f0)
              have s1 : ∀ w', Below wr.heap.size wr w' → w'.cell? ⟨bS, oS + k * 2 + 1, none⟩ = some (.int .i64 cap) := fun w' hb => ((HB.out.trans (hb.mono HB.out.size)).cell (p := ⟨bS, oS + k * 2 + 1, none⟩) hbS).trans (by rw [Nat.add_assoc]; exact hcS _ _ f1)
              obtain ⟨bP, oP, eP, hbP, hcP⟩ := HD3.out.atP
              (try simp only [] at eP)
              subst eP
              have p0 : ∀ w', Below wr.heap.size wr w' → w'.cell? ⟨bP, oP + sn, none⟩ = some (.int .i64 cap) := fun w' hb => by
                have := hcP w' (HB.out.trans (hb.mono HB.out.size)) sn (by omega)
                rw [hpick] at this
                exact this
              have z0 : ∀ w', Below wr.heap.size wr w' → w'.cell? ⟨bx, 0, none⟩ = some (.slice (some ⟨bP, oP, none⟩) 16 cp) := fun w' hb => D3.out.rule 0 _ rfl w' (HB.out.trans (hb.mono HB.out.size))
              have i1 : (k : Int) < S.sv.length := by omega
              have i2 : (sn : Int) < 16 := by omega
              have i2' : sn < 16 := by omega
              have d0 : decide ((sn : Int) < 0) = false := decide_eq_false (by omega)
              have d1 : decide ((15 : Int) < sn) = false := decide_eq_false (by omega)
              have HPRE := hide (show ∀ m, k = m + 1 → ∃ pm : Int, decide ((sn : Int) ≤ pm) = false ∧ ∀ w', Below wr.heap.size wr w' → w'.cell? ⟨bS, oS + m * 2, none⟩ = some (.int .i64 pm) from fun m hm => by
                have hm1 : m < S.sv.length := by omega
                have hml : m < S.srv.length := by unfold Vst.srv; simpa using hm1
                have hmg : S.srv[m] = ⟨S.sv[m].1, S.sv[m].2⟩ := srv_get hm1 rfl hml
                have f2 := ldCells_get S.srv m 0 hml (by omega)
                rw [hmg] at f2
                have hr := List.pairwise_iff_getElem.1 HOK.out.svr m k hm1 hlt (by omega)
                rw [hx] at hr
                refine ⟨S.sv[m].1, decide_eq_false (by simp only [] at hr; omega), fun w' hb => ((HB.out.trans (hb.mono HB.out.size)).cell (p := ⟨bS, oS + m * 2, none⟩) hbS).trans (hcS _ _ f2)⟩)
              have HSX := hide (And.intro hx hlt)
              have hhS : Hid (bS < w3.heap.size) := hide hbS
              clear hcS hcP hsva hpick hsl hsg f0 f1 hbS hbP hx
              cases k with
              | zero =>
                have dk : decide ((0 : Int) < 0) = false := rfl
                replace s0 : ∀ w', Below wr.heap.size wr w' → w'.cell? ⟨bS, oS, none⟩ = some (.int .i64 sn) := by rw [Nat.zero_mul] at s0; exact s0
                replace s1 : ∀ w', Below wr.heap.size wr w' → w'.cell? ⟨bS, oS + 1, none⟩ = some (.int .i64 cap) := by rw [Nat.zero_mul] at s1; exact s1
                have i1 : (0 : Int) < S.sv.length := by omega
                have i1' : 0 < S.sv.length := by omega
                go_upto_region 20 with fail
                refine region_q (fun w' => Below wr.heap.size wr w') (by kernel_rfl) (by kernel_rfl) (by (exact rr)) ?_
                (iterate 7 ((refine wq_step (fun K hK => ?_); apply q_take (by rfl); (focus (intro w hw; (try dsimp only at hw); go_simp; (try with_reducible rfl); done)); simp only [Act.put, zA41, zB41, zC41]; refine hK _ ?_; clear hK K))); (iterate 6 ((refine wq_step (fun K hK => ?_); apply q_take (by kernel_rfl); (focus (intro w hw; (try dsimp only at hw); go_simp; (try with_reducible rfl); done)); simp only [Act.put, zA41, zB41, zC41]; refine hK _ ?_; clear hK K))); (iterate 2 ((refine wq_step (fun K hK => ?_); apply q_take (by rfl); (focus (intro w hw; (try dsimp only at hw); go_simp; (try with_reducible rfl); done)); simp only [Act.put, zA41, zB41, zC41]; refine hK _ ?_; clear hK K))); (iterate 15 ((refine wq_step (fun K hK => ?_); apply q_take (by kernel_rfl); (focus (intro w hw; (try dsimp only at hw); go_simp; (try with_reducible rfl); done)); simp only [Act.put, zA41, zB41, zC41]; refine hK _ ?_; clear hK K))); (iterate 2 ((refine wq_step (fun K hK => ?_); apply q_take (by rfl); (focus (intro w hw; (try dsimp only at hw); go_simp; (try with_reducible rfl); done)); simp only [Act.put, zA41, zB41, zC41]; refine hK _ ?_; clear hK K))); (iterate 3 ((refine wq_step (fun K hK => ?_); apply q_take (by kernel_rfl); (focus (intro w hw; (try dsimp only at hw); go_simp; (try with_reducible rfl); done)); simp only [Act.put, zA41, zB41, zC41]; refine hK _ ?_; clear hK K))); (iterate 12 ((refine wq_step (fun K hK => ?_); refine q_skip (by kernel_rfl) ?_; simp only [Act.put, zA41, zB41, zC41]; refine hK _ ?_; clear hK K))); (refine wq_step (fun K hK => ?_); apply q_take (by kernel_rfl); (focus (intro w hw; (try dsimp only at hw); go_simp; (try with_reducible rfl); done)); simp only [Act.put, zA41, zB41, zC41]; refine hK _ ?_; clear hK K); (refine wq_step (fun K hK => ?_); apply q_take (by rfl); (focus (intro w hw; (try dsimp only at hw); go_simp; (try with_reducible rfl); done)); simp only [Act.put, zA41, zB41, zC41]; refine hK _ ?_; clear hK K)
                refine wq_nil ?_
                intro wq hwq
                have HBQ := hide (HB.out.trans (hwq.mono HB.out.size))
                have t0 : ∀ w', Below wq.heap.size wq w' → w'.cell? ⟨bS, oS, none⟩ = some (.int .i64 sn) := fun w' hb => s0 w' (hwq.trans (hb.mono hwq.size))
                have y := fun j u (h : ([.slice (some ⟨bP, oP, none⟩) 16 cp, .slice Av V.length cv, .slice Ac C.length cc, .int .i64 S.nx] : List Value)[j]? = some u) w' (hb : Below wq.heap.size wq w') => D3.out.rule j u h w' (HBQ.out.trans (hb.mono HBQ.out.size))
                have y0 := y 0 _ rfl
                have y1 := y 1 _ rfl
                have y2 := y 2 _ rfl
                have y3 := y 3 _ rfl
                obtain ⟨ps, hps⟩ : ∃ ps, S.polOf (sn : Int) = ps := ⟨_, rfl⟩
                have hpl : ps.length ≤ 64 := by
                  rw [← hps]
                  unfold Vst.polOf
                  rw [List.length_map]
                  exact Nat.le_trans (List.length_filter_le _ _) HLS.out.1.2.1
                have HPO := hide (fun w' (hb : Below wq.heap.size wq w') => ((HV3.out.below HBQ.out).below hb).policies hn (sn : Int))
                have HPD := hide (fun w' (hb : Below wq.heap.size wq w') => dpolicies_calls w' no ⟨some ⟨bP, oP, none⟩, cp, V, Av, cv, C, Ac, cc⟩ S S.nx (sn : Int) ((HD3.out.below HBQ.out).below hb) (by have := HLS.out; simp only []; omega) (by have := HLS.out; simp only []; omega))
                rw [hps] at HPO
                rw [Vst.dpol_eq HI.out HOK.out, hps] at HPD
                unfold DV.val DV.cells at HPD
                (try simp only [] at HPD)
                have HPS := hide (And.intro hps hpl)
                have rq := (Below.refl wq.heap.size wq).drew
                clear s0 s1 p0 z0 d0 d1 dk rr hwq y hps
                go_upto_region 22 with fail
                refine lxR (fun w' => Below wq.heap.size wq w') [] 0 [(2, 0), (2, 1), (2, 2), (2, 3), (2, 4), (0, 5), (0, 7), (2, 8), (2, 9), (2, 10), (2, 11), (0, 12), (1, 6), (1, 13), (2, 14), (2, 15)] #[true, true, true, true, true, true, true, true, true, true, true, true, true, true, true, true] (by kernel_rfl) (by kernel_rfl) (by decide) (by kernel_rfl) (by kernel_rfl) (fun _ _ _ _ _ h => h) (by (first | exact rq | assumption)) (fun hS0 => ?_)
                simp only [List.map_cons, List.map_nil, List.getElem?_toArray, List.getElem?_cons_succ, List.getElem?_cons_zero]
                (iterate 5 ((apply lxP (by rfl); (focus (intro w; go_simp; (try with_reducible rfl); done)); simp only [Act.put, zA41, zB41, zC41]))); (iterate 2 ((apply lxT (by rfl); (focus (intro w hw; (try dsimp only at hw); go_simp; (try with_reducible rfl); done)); simp only [Act.put, zA41, zB41, zC41]))); (iterate 4 ((apply lxP (by rfl); (focus (intro w; go_simp; (try with_reducible rfl); done)); simp only [Act.put, zA41, zB41, zC41]))); (apply lxT (by rfl); (focus (intro w hw; (try dsimp only at hw); go_simp; (try with_reducible rfl); done)); simp only [Act.put, zA41, zB41, zC41])
                (refine lxE (by rfl) ?_; go_simp; (first
                                        | (go_at_call 31; refine (HPO.out _ rq).mono ?_; rintro e w6 ⟨A6, c6, rfl, hr6, hg6, hb6⟩; have hb6q : Below wq.heap.size wq w6 := rq.trans (hb6.mono rq.size); have H6 := hide hr6; clear hr6 hg6 hb6)
                                        | (go_at_call 32; refine (HPD.out _ (by assumption)).mono ?_; rintro e w7 ⟨A7, c7, rfl, ho7, hb7⟩; have hb7q : Below wq.heap.size wq w7 := hb6q.trans (hb7.mono hb6q.size); have H7 := hide (And.intro ho7.rd hb7); clear ho7 hb7)); refine lxB (by (first | exact rq | assumption)) (fun hS1 => ?_))
                (refine lxE (by rfl) ?_; go_simp; (first
                                        | (go_at_call 31; refine (HPO.out _ rq).mono ?_; rintro e w6 ⟨A6, c6, rfl, hr6, hg6, hb6⟩; have hb6q : Below wq.heap.size wq w6 := rq.trans (hb6.mono rq.size); have H6 := hide hr6; clear hr6 hg6 hb6)
                                        | (go_at_call 32; refine (HPD.out _ (by assumption)).mono ?_; rintro e w7 ⟨A7, c7, rfl, ho7, hb7⟩; have hb7q : Below wq.heap.size wq w7 := hb6q.trans (hb7.mono hb6q.size); have H7 := hide (And.intro ho7.rd hb7); clear ho7 hb7)); refine lxB (by (first | exact rq | assumption)) (fun hS1 => ?_))
                (iterate 2 ((apply lxP (by rfl); (focus (intro w; go_simp; (try with_reducible rfl); done)); simp only [Act.put, zA41, zB41, zC41])))
                refine lxN (fun _ => wqD (by kernel_rfl) ?_ _)
                rename_i hunm
                clear hunm
                have HP7 := hide (And.intro (H6.out.below H7.out.2 |>.more H7.out.2.size) (And.intro H7.out.1 (HBQ.out.trans (hb7q.mono HBQ.out.size))))
                clear t0 y0 y1 y2 y3 hb6q hb7q rq hS0 hS1 H6 H7 HPO HPD
                go_wp2_with fail
                go_loopw [4, 18, 168, 169, 170, 171, 172, 173, 174, 175, 176, 177, 178, 179, 180, 181, 182] (fun r i _ _ _ _ _ _ _ _ _ _ _ _ _ _ _ wr => ∃ j : Nat, j ≤ ps.length ∧ i = .int .i64 j ∧ r = .int .i64 0 ∧ Below w7.heap.size w7 wr) (fun r i _ _ _ _ _ _ _ _ _ _ _ _ _ _ _ _ => ps.length - (intOf i).toNat)
                case atStart => exact ⟨0, Nat.zero_le _, rfl, rfl, Below.refl _ _⟩
                case round =>
                  obtain ⟨j, hj, rfl, rfl, hb⟩ := hrel
                  have HBJ := hide hb
                  have hpl := HPS.out.2
                  clear hb
                  by_cases hltj : j < ps.length
                  · obtain ⟨bI, oI, eI, hbI, hcI⟩ := HP7.out.1.rule (by omega)
                    subst eI
                    have hq7 := HP7.out.2.1
                    rw [flatC_pol] at hq7
                    obtain ⟨bJ, oJ, eJ, hbJ, hcJ⟩ := hq7.rule (by omega)
                    subst eJ
                    obtain ⟨⟨pr, pw, pl, pb⟩, hp⟩ : ∃ p, ps[j] = p := ⟨_, rfl⟩
                    have g := fun q (hq : q < 4) => polCells_get ps j q hltj hq
                    rw [hp] at g
                    have a := fun q (hq : q < 4) u (hu : (Pol.cells ⟨pr, pw, pl, pb⟩)[q]? = some u) w' (hb : Below wr.heap.size wr w') => hcI (j * 4 + q) u ((g q hq).trans hu) w' (HBJ.out.trans (hb.mono HBJ.out.size))
                    have c := fun q (hq : q < 4) u (hu : (Pol.cells ⟨pr, pw, pl, pb⟩)[q]? = some u) w' (hb : Below wr.heap.size wr w') => hcJ (j * 4 + q) u ((g q hq).trans hu) w' (HBJ.out.trans (hb.mono HBJ.out.size))
                    have u0 : ∀ w', Below wr.heap.size wr w' → w'.cell? ⟨bI, oI + j * 4, none⟩ = some (.int .i64 pr) := a 0 (by omega) _ rfl
                    have u1 : ∀ w', Below wr.heap.size wr w' → w'.cell? ⟨bI, oI + j * 4 + 1, none⟩ = some (.int .i64 pw) := a 1 (by omega) _ rfl
                    have u2 : ∀ w', Below wr.heap.size wr w' → w'.cell? ⟨bI, oI + j * 4 + 2, none⟩ = some (.int .i64 pl) := a 2 (by omega) _ rfl
                    have u3 : ∀ w', Below wr.heap.size wr w' → w'.cell? ⟨bI, oI + j * 4 + 3, none⟩ = some (.int .i64 pb) := a 3 (by omega) _ rfl
                    have v0 : ∀ w', Below wr.heap.size wr w' → w'.cell? ⟨bJ, oJ + j * 4, none⟩ = some (.int .i64 pr) := c 0 (by omega) _ rfl
                    have v1 : ∀ w', Below wr.heap.size wr w' → w'.cell? ⟨bJ, oJ + j * 4 + 1, none⟩ = some (.int .i64 pw) := c 1 (by omega) _ rfl
                    have v2 : ∀ w', Below wr.heap.size wr w' → w'.cell? ⟨bJ, oJ + j * 4 + 2, none⟩ = some (.int .i64 pl) := c 2 (by omega) _ rfl
                    have v3 : ∀ w', Below wr.heap.size wr w' → w'.cell? ⟨bJ, oJ + j * 4 + 3, none⟩ = some (.int .i64 pb) := c 3 (by omega) _ rfl
                    have he1 := run_nePol pr pw pl pb pr pw pl pb
                    simp only [beq_self_eq_true, Bool.and_self, Bool.not_true] at he1
                    have ij : (j : Int) < ps.length := by omega
                    have rr := (Below.refl wr.heap.size wr).drew
                    clear hcI hcJ hbI hbJ hp g a c hq7
                    go_upto_region 28 with fail
                    refine region_q (fun w' => Below wr.heap.size wr w') (by kernel_rfl) (by kernel_rfl) (by (exact rr)) ?_
                    (iterate 9 ((refine wq_step (fun K hK => ?_); apply q_take (by rfl); (focus (intro w hw; (try dsimp only at hw); go_simp; (try with_reducible rfl); done)); simp only [Act.put, zA41, zB41, zC41]; refine hK _ ?_; clear hK K)))
                    refine wq_nil ?_
                    intro wq hwq
                    have HBK := hide (HBJ.out.trans (hwq.mono HBJ.out.size))
                    clear u0 u1 u2 u3 v0 v1 v2 v3 he1 rr hwq
                    go_wp2
                    go_roundw
                    case rel => exact ⟨j + 1, by omega, by go_num, rfl, HBK.out⟩
                    case measure => simp [intOf]; omega
                  · have ij : ¬ (j : Int) < ps.length := by omega
                    have HBZ := hide (HP7.out.2.2.trans (HBJ.out.mono HP7.out.2.2.size))
                    have hkk := HSX.out.2
                    go_wp2
                    go_roundw
                    case rel => exact ⟨0 + 1, by omega, by go_num, by go_num, rfl, HBZ.out⟩
                    case measure => simp [intOf]; omega
              | succ m =>
                obtain ⟨pm, dm, s2⟩ := HPRE.out m rfl
                have dk : decide ((0 : Int) < (m : Int) + 1) = true := decide_eq_true (by omega)
                have im : (m : Int) < S.sv.length := by omega
                have i0 : (0 : Int) ≤ (m : Int) + 1 := by omega
                have wm : IntKind.i64.wrap (m : Int) = m := IntWalk.i64_in _ (by omega)
                have i1 : (m : Int) + 1 < S.sv.length := by omega
                go_upto_region 20 with fail
                refine region_q (fun w' => Below wr.heap.size wr w') (by kernel_rfl) (by kernel_rfl) (by (exact rr)) ?_
                (iterate 7 ((refine wq_step (fun K hK => ?_); apply q_take (by rfl); (focus (intro w hw; (try dsimp only at hw); go_simp; (try with_reducible rfl); done)); simp only [Act.put, zA41, zB41, zC41]; refine hK _ ?_; clear hK K))); (iterate 6 ((refine wq_step (fun K hK => ?_); apply q_take (by kernel_rfl); (focus (intro w hw; (try dsimp only at hw); go_simp; (try with_reducible rfl); done)); simp only [Act.put, zA41, zB41, zC41]; refine hK _ ?_; clear hK K))); (iterate 2 ((refine wq_step (fun K hK => ?_); apply q_take (by rfl); (focus (intro w hw; (try dsimp only at hw); go_simp; (try with_reducible rfl); done)); simp only [Act.put, zA41, zB41, zC41]; refine hK _ ?_; clear hK K))); (iterate 15 ((refine wq_step (fun K hK => ?_); apply q_take (by kernel_rfl); (focus (intro w hw; (try dsimp only at hw); go_simp; (try with_reducible rfl); done)); simp only [Act.put, zA41, zB41, zC41]; refine hK _ ?_; clear hK K))); (iterate 2 ((refine wq_step (fun K hK => ?_); apply q_take (by rfl); (focus (intro w hw; (try dsimp only at hw); go_simp; (try with_reducible rfl); done)); simp only [Act.put, zA41, zB41, zC41]; refine hK _ ?_; clear hK K))); (iterate 16 ((refine wq_step (fun K hK => ?_); apply q_take (by kernel_rfl); (focus (intro w hw; (try dsimp only at hw); go_simp; (try with_reducible rfl); done)); simp only [Act.put, zA41, zB41, zC41]; refine hK _ ?_; clear hK K))); (refine wq_step (fun K hK => ?_); apply q_take (by rfl); (focus (intro w hw; (try dsimp only at hw); go_simp; (try with_reducible rfl); done)); simp only [Act.put, zA41, zB41, zC41]; refine hK _ ?_; clear hK K)
                refine wq_nil ?_
                intro wq hwq
                clear s2 wm im
                have HBQ := hide (HB.out.trans (hwq.mono HB.out.size))
                have t0 : ∀ w', Below wq.heap.size wq w' → w'.cell? ⟨bS, oS + (m + 1) * 2, none⟩ = some (.int .i64 sn) := fun w' hb => s0 w' (hwq.trans (hb.mono hwq.size))
                have y := fun j u (h : ([.slice (some ⟨bP, oP, none⟩) 16 cp, .slice Av V.length cv, .slice Ac C.length cc, .int .i64 S.nx] : List Value)[j]? = some u) w' (hb : Below wq.heap.size wq w') => D3.out.rule j u h w' (HBQ.out.trans (hb.mono HBQ.out.size))
                have y0 := y 0 _ rfl
                have y1 := y 1 _ rfl
                have y2 := y 2 _ rfl
                have y3 := y 3 _ rfl
                obtain ⟨ps, hps⟩ : ∃ ps, S.polOf (sn : Int) = ps := ⟨_, rfl⟩
                have hpl : ps.length ≤ 64 := by
                  rw [← hps]
                  unfold Vst.polOf
                  rw [List.length_map]
                  exact Nat.le_trans (List.length_filter_le _ _) HLS.out.1.2.1
                have HPO := hide (fun w' (hb : Below wq.heap.size wq w') => ((HV3.out.below HBQ.out).below hb).policies hn (sn : Int))
                have HPD := hide (fun w' (hb : Below wq.heap.size wq w') => dpolicies_calls w' no ⟨some ⟨bP, oP, none⟩, cp, V, Av, cv, C, Ac, cc⟩ S S.nx (sn : Int) ((HD3.out.below HBQ.out).below hb) (by have := HLS.out; simp only []; omega) (by have := HLS.out; simp only []; omega))
                rw [hps] at HPO
                rw [Vst.dpol_eq HI.out HOK.out, hps] at HPD
                unfold DV.val DV.cells at HPD
                (try simp only [] at HPD)
                have HPS := hide (And.intro hps hpl)
                have rq := (Below.refl wq.heap.size wq).drew
                clear s0 s1 p0 z0 d0 d1 dk rr hwq y hps
                go_upto_region 22 with fail
                refine lxR (fun w' => Below wq.heap.size wq w') [] 0 [(2, 0), (2, 1), (2, 2), (2, 3), (2, 4), (0, 5), (0, 7), (2, 8), (2, 9), (2, 10), (2, 11), (0, 12), (1, 6), (1, 13), (2, 14), (2, 15)] #[true, true, true, true, true, true, true, true, true, true, true, true, true, true, true, true] (by kernel_rfl) (by kernel_rfl) (by decide) (by kernel_rfl) (by kernel_rfl) (fun _ _ _ _ _ h => h) (by (first | exact rq | assumption)) (fun hS0 => ?_)
                simp only [List.map_cons, List.map_nil, List.getElem?_toArray, List.getElem?_cons_succ, List.getElem?_cons_zero]
                (iterate 5 ((apply lxP (by rfl); (focus (intro w; go_simp; (try with_reducible rfl); done)); simp only [Act.put, zA41, zB41, zC41]))); (iterate 2 ((apply lxT (by rfl); (focus (intro w hw; (try dsimp only at hw); go_simp; (try with_reducible rfl); done)); simp only [Act.put, zA41, zB41, zC41]))); (iterate 4 ((apply lxP (by rfl); (focus (intro w; go_simp; (try with_reducible rfl); done)); simp only [Act.put, zA41, zB41, zC41]))); (apply lxT (by rfl); (focus (intro w hw; (try dsimp only at hw); go_simp; (try with_reducible rfl); done)); simp only [Act.put, zA41, zB41, zC41])
                (refine lxE (by rfl) ?_; go_simp; (first
                                        | (go_at_call 31; refine (HPO.out _ rq).mono ?_; rintro e w6 ⟨A6, c6, rfl, hr6, hg6, hb6⟩; have hb6q : Below wq.heap.size wq w6 := rq.trans (hb6.mono rq.size); have H6 := hide hr6; clear hr6 hg6 hb6)
                                        | (go_at_call 32; refine (HPD.out _ (by assumption)).mono ?_; rintro e w7 ⟨A7, c7, rfl, ho7, hb7⟩; have hb7q : Below wq.heap.size wq w7 := hb6q.trans (hb7.mono hb6q.size); have H7 := hide (And.intro ho7.rd hb7); clear ho7 hb7)); refine lxB (by (first | exact rq | assumption)) (fun hS1 => ?_))
                (refine lxE (by rfl) ?_; go_simp; (first
                                        | (go_at_call 31; refine (HPO.out _ rq).mono ?_; rintro e w6 ⟨A6, c6, rfl, hr6, hg6, hb6⟩; have hb6q : Below wq.heap.size wq w6 := rq.trans (hb6.mono rq.size); have H6 := hide hr6; clear hr6 hg6 hb6)
                                        | (go_at_call 32; refine (HPD.out _ (by assumption)).mono ?_; rintro e w7 ⟨A7, c7, rfl, ho7, hb7⟩; have hb7q : Below wq.heap.size wq w7 := hb6q.trans (hb7.mono hb6q.size); have H7 := hide (And.intro ho7.rd hb7); clear ho7 hb7)); refine lxB (by (first | exact rq | assumption)) (fun hS1 => ?_))
                (iterate 2 ((apply lxP (by rfl); (focus (intro w; go_simp; (try with_reducible rfl); done)); simp only [Act.put, zA41, zB41, zC41])))
                refine lxN (fun _ => wqD (by kernel_rfl) ?_ _)
                rename_i hunm
                clear hunm
                have HP7 := hide (And.intro (H6.out.below H7.out.2 |>.more H7.out.2.size) (And.intro H7.out.1 (HBQ.out.trans (hb7q.mono HBQ.out.size))))
                clear t0 y0 y1 y2 y3 hb6q hb7q rq hS0 hS1 H6 H7 HPO HPD
                go_wp2_with fail
                go_loopw [4, 18, 168, 169, 170, 171, 172, 173, 174, 175, 176, 177, 178, 179, 180, 181, 182] (fun r i _ _ _ _ _ _ _ _ _ _ _ _ _ _ _ wr => ∃ j : Nat, j ≤ ps.length ∧ i = .int .i64 j ∧ r = .int .i64 0 ∧ Below w7.heap.size w7 wr) (fun r i _ _ _ _ _ _ _ _ _ _ _ _ _ _ _ _ => ps.length - (intOf i).toNat)
                case atStart => exact ⟨0, Nat.zero_le _, rfl, rfl, Below.refl _ _⟩
                case round =>
                  obtain ⟨j, hj, rfl, rfl, hb⟩ := hrel
                  have HBJ := hide hb
                  have hpl := HPS.out.2
                  clear hb
                  by_cases hltj : j < ps.length
                  · obtain ⟨bI, oI, eI, hbI, hcI⟩ := HP7.out.1.rule (by omega)
                    subst eI
                    have hq7 := HP7.out.2.1
                    rw [flatC_pol] at hq7
                    obtain ⟨bJ, oJ, eJ, hbJ, hcJ⟩ := hq7.rule (by omega)
                    subst eJ
                    obtain ⟨⟨pr, pw, pl, pb⟩, hp⟩ : ∃ p, ps[j] = p := ⟨_, rfl⟩
                    have g := fun q (hq : q < 4) => polCells_get ps j q hltj hq
                    rw [hp] at g
                    have a := fun q (hq : q < 4) u (hu : (Pol.cells ⟨pr, pw, pl, pb⟩)[q]? = some u) w' (hb : Below wr.heap.size wr w') => hcI (j * 4 + q) u ((g q hq).trans hu) w' (HBJ.out.trans (hb.mono HBJ.out.size))
                    have c := fun q (hq : q < 4) u (hu : (Pol.cells ⟨pr, pw, pl, pb⟩)[q]? = some u) w' (hb : Below wr.heap.size wr w') => hcJ (j * 4 + q) u ((g q hq).trans hu) w' (HBJ.out.trans (hb.mono HBJ.out.size))
                    have u0 : ∀ w', Below wr.heap.size wr w' → w'.cell? ⟨bI, oI + j * 4, none⟩ = some (.int .i64 pr) := a 0 (by omega) _ rfl
                    have u1 : ∀ w', Below wr.heap.size wr w' → w'.cell? ⟨bI, oI + j * 4 + 1, none⟩ = some (.int .i64 pw) := a 1 (by omega) _ rfl
                    have u2 : ∀ w', Below wr.heap.size wr w' → w'.cell? ⟨bI, oI + j * 4 + 2, none⟩ = some (.int .i64 pl) := a 2 (by omega) _ rfl
                    have u3 : ∀ w', Below wr.heap.size wr w' → w'.cell? ⟨bI, oI + j * 4 + 3, none⟩ = some (.int .i64 pb) := a 3 (by omega) _ rfl
                    have v0 : ∀ w', Below wr.heap.size wr w' → w'.cell? ⟨bJ, oJ + j * 4, none⟩ = some (.int .i64 pr) := c 0 (by omega) _ rfl
                    have v1 : ∀ w', Below wr.heap.size wr w' → w'.cell? ⟨bJ, oJ + j * 4 + 1, none⟩ = some (.int .i64 pw) := c 1 (by omega) _ rfl
                    have v2 : ∀ w', Below wr.heap.size wr w' → w'.cell? ⟨bJ, oJ + j * 4 + 2, none⟩ = some (.int .i64 pl) := c 2 (by omega) _ rfl
                    have v3 : ∀ w', Below wr.heap.size wr w' → w'.cell? ⟨bJ, oJ + j * 4 + 3, none⟩ = some (.int .i64 pb) := c 3 (by omega) _ rfl
                    have he1 := run_nePol pr pw pl pb pr pw pl pb
                    simp only [beq_self_eq_true, Bool.and_self, Bool.not_true] at he1
                    have ij : (j : Int) < ps.length := by omega
                    have rr := (Below.refl wr.heap.size wr).drew
                    clear hcI hcJ hbI hbJ hp g a c hq7
                    go_upto_region 28 with fail
                    refine region_q (fun w' => Below wr.heap.size wr w') (by kernel_rfl) (by kernel_rfl) (by (exact rr)) ?_
                    (iterate 9 ((refine wq_step (fun K hK => ?_); apply q_take (by rfl); (focus (intro w hw; (try dsimp only at hw); go_simp; (try with_reducible rfl); done)); simp only [Act.put, zA41, zB41, zC41]; refine hK _ ?_; clear hK K)))
                    refine wq_nil ?_
                    intro wq hwq
                    have HBK := hide (HBJ.out.trans (hwq.mono HBJ.out.size))
                    clear u0 u1 u2 u3 v0 v1 v2 v3 he1 rr hwq
                    go_wp2
                    go_roundw
                    case rel => exact ⟨j + 1, by omega, by go_num, rfl, HBK.out⟩
                    case measure => simp [intOf]; omega
                  · have ij : ¬ (j : Int) < ps.length := by omega
                    have HBZ := hide (HP7.out.2.2.trans (HBJ.out.mono HP7.out.2.2.size))
                    have hkk := HSX.out.2
                    go_wp2
                    go_roundw
                    case rel => exact ⟨(m + 1) + 1, by omega, by go_num, by go_num, rfl, HBZ.out⟩
                    case measure => simp [intOf]; omega
            · have i1 : ¬ (k : Int) < S.sv.length := by omega
              have HBD := hide HB.out
              have HKE : Hid (k = S.sv.length) := hide (by omega)
              obtain ⟨wd, rfl⟩ : ∃ wd, wd = wr := ⟨_, rfl⟩
              clear HB
              go_wp2_with fail
              clear i1
              go_loopw [14, 19, 185, 186, 187, 188, 189, 190, 191, 192, 193, 194, 195, 196] (fun nn i _ _ _ _ _ _ _ _ _ _ _ _ wr => ∃ j : Nat, j ≤ 16 ∧ i = .int .i64 j ∧ nn = .int .i64 ((k : Int) - S.cntP j) ∧ Below w3.heap.size w3 wr) (fun nn i _ _ _ _ _ _ _ _ _ _ _ _ _ => 16 - (intOf i).toNat)
              case atStart => exact ⟨0, Nat.zero_le _, rfl, by simp [Vst.cntP], HBD.out⟩
              case round =>
                obtain ⟨j, hj, rfl, rfl, hb⟩ := hrel
                have HBJ := hide hb
                clear hb
                by_cases hlt : j < 16
                · obtain ⟨bP, oP, eP, hbP, hcP⟩ := HD3.out.atP
                  (try simp only [] at eP)
                  subst eP
                  have p0 := hcP wr HBJ.out j hlt
                  have z0 : wr.cell? ⟨bx, 0, none⟩ = some (.slice (some ⟨bP, oP, none⟩) 16 cp) := D3.out.rule 0 _ rfl wr HBJ.out
                  have HS := hide (S.cntP_succ j)
                  have HL := hide (S.cntP_le j)
                  obtain ⟨q, hq⟩ : ∃ q, S.pick j = q := ⟨_, rfl⟩
                  obtain ⟨z, hz⟩ : ∃ z, S.cntP j = z := ⟨_, rfl⟩
                  rw [hq] at p0 HS
                  rw [hz] at HS HL ⊢
                  have i1 : (j : Int) < 16 := by omega
                  have hwr : IntKind.i64.wrap ((k : Int) - z - 1) = (k : Int) - z - 1 := IntWalk.i64_in _ (by have := HL.out; omega)
                  clear hcP hbP hq hz
                  by_cases h0 : 0 < q
                  · rw [if_pos h0] at HS
                    go_wp2
                    go_roundw
                    case rel => exact ⟨j + 1, by omega, by go_num, by rw [HS.out]; congr 1; omega, HBJ.out⟩
                    case measure => simp [intOf]; omega
                  · rw [if_neg h0] at HS
                    go_wp2
                    go_roundw
                    case rel => exact ⟨j + 1, by omega, by go_num, by rw [HS.out], HBJ.out⟩
                    case measure => simp [intOf]; omega
                · have hz0 : (k : Int) - S.cntP j = 0 := by
                    have h1 : S.cntP 16 = S.sv.length := Vst.count HOK.out.so
                    have h2 := HKE.out
                    have h3 : j = 16 := by omega
                    rw [h3, h1]
                    omega
                  have i1 : ¬ (j : Int) < 16 := by omega
                  rw [hz0]
                  clear hz0
                  go_wp2
                  go_ret
                  exact ⟨rfl, HB0.out.trans ((HB3.out.trans (HBJ.out.mono HB3.out.size)).mono HB0.out.size)⟩
end Go.Proofs.YtcgecalbgkkinaaGreat
