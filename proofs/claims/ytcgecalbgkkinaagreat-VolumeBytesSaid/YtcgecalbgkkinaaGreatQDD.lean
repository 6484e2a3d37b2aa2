/- One text of: Dsd Dse. -/
import Derived.Test.YtcgecalbgkkinaaGreatQDC
import Derived.Test.YtcgecalbgkkinaaGreatQDsc
namespace Go.Proofs.YtcgecalbgkkinaaGreat
open Go.ChangeShapes Go.WideShapes Go.ChangeAt Go.RowKit Go.Joins Go.Deep Go.Maps
set_option linter.unusedVariables false
set_option linter.unusedSimpArgs false
theorem zA40 {α : Type} (l : List α) (i : Nat) (a : α) : l.toArray.setIfInBounds i a = (l.set i a).toArray := by simp
theorem zB40 {α : Type} (x a : α) (l : List α) : (x :: l).set 0 a = a :: l := rfl
theorem zC40 {α : Type} (x a : α) (l : List α) (n : Nat) : (x :: l).set (n + 1) a = x :: l.set n a := rfl

/-- and its own volume -/
structure VSt (W v0 : World) (n0 : List Nat) (wr : World) (no av : List Nat) (x : DV) (S : Vst) (q : Cmd) (bs bc br bv : Nat) (y : VoM) : Prop where
  ch : ChIn W v0 n0 wr no (bv :: av) x S q bs bc br
  dv : Blk wr bv 43 y.cells
  sl : Sl wr (bs :: bc :: br :: bv :: av) y.A y.c y.v.ch
  ne : bv ∉ no ∧ bv ≠ bs ∧ bv ≠ bc ∧ bv ≠ br ∧ W.heap.size ≤ bv ∧ v0.heap.size ≤ bv
section
variable {W v0 w wr w' w8 : World} {n0 no av : List Nat} {x : DV} {S : Vst} {q : Cmd} {bs bc br bv : Nat} {y : VoM}
theorem VSt.below (h : VSt W v0 n0 wr no av x S q bs bc br bv y) (hb : Below wr.heap.size wr w') : VSt W v0 n0 w' no av x S q bs bc br bv y :=
  ⟨h.ch.below hb, h.dv.below hb, h.sl.below hb, h.ne⟩
theorem VSt.new (h : ChIn W v0 n0 wr no av x S q bs bc br) (y : VoM) (s1 : Sl wr (bs :: bc :: br :: av) y.A y.c y.v.ch) (hw : wr.alloc (.cells y.cells.toArray 43) = w') :
    VSt W v0 n0 w' no av x S q bs bc br wr.heap.size y := by
  subst hw
  have hb : Below wr.heap.size wr (wr.alloc (.cells y.cells.toArray 43)) := (Below.refl _ _).alloc (Nat.le_refl _) _
  have hp : ∀ z ∈ bs :: bc :: br :: wr.heap.size :: av, z ∈ bs :: bc :: br :: av ∨ wr.heap.size ≤ z := fun z hz => by
    simp only [List.mem_cons] at hz ⊢
    rcases hz with rfl | rfl | rfl | rfl | hz
    · exact Or.inl (Or.inl rfl)
    · exact Or.inl (Or.inr (Or.inl rfl))
    · exact Or.inl (Or.inr (Or.inr (Or.inl rfl)))
    · exact Or.inr (Nat.le_refl _)
    · exact Or.inl (Or.inr (Or.inr (Or.inr hz)))
  have hl := h.dd.lt
  have l1 := h.ds.lt
  have l2 := h.dc.lt
  have l3 := h.dr.lt
  refine ⟨⟨h.ds.below hb, h.dc.below hb, h.dr.below hb, h.dd.avoid hp (fun z hz => ?_) hb (fun z hz => ?_), h.out, h.ne, h.ge, h.bW.trans (hb.mono h.bW.size), h.cg.below hb, h.nn, h.gf⟩, Blk.new rfl, (s1.plus hp).below hb, ⟨fun hx => ?_, by omega, by omega, by omega, h.bW.size, h.cg.size⟩⟩
  · have := h.dd.sub z hz
    simp only [List.mem_cons] at this ⊢
    rcases this with e | e | e | e
    · exact Or.inl e
    · exact Or.inr (Or.inl e)
    · exact Or.inr (Or.inr (Or.inl e))
    · exact Or.inr (Or.inr (Or.inr (Or.inr e)))
  · have hs : (wr.alloc (.cells y.cells.toArray 43)).heap.size = wr.heap.size + 1 := by simp
    rw [hs]
    rcases hp z hz with hz' | hz'
    · have := hl z hz'; omega
    · simp only [List.mem_cons] at hz
      rcases hz with rfl | rfl | rfl | rfl | hz
      · omega
      · omega
      · omega
      · omega
      · have := hl z (by simp [hz]); omega
  · have := hl _ (h.dd.sub _ hx); omega
theorem VSt.set (h : VSt W v0 n0 wr no av x S q bs bc br bv y) (i : Nat) (u : Value) (y' : VoM) (e : y.cells.set i u = y'.cells) (s1 : Sl wr (bs :: bc :: br :: bv :: av) y'.A y'.c y'.v.ch) :
    VSt W v0 n0 (wr.setCell ⟨bv, i, none⟩ u) no av x S q bs bc br bv y' := by
  have hc : Chg [bv] wr (wr.setCell ⟨bv, i, none⟩ u) := (Chg.refl _ _).setCell (Or.inl (by simp)) _
  have hin : ∀ z ∈ [bv], z ∈ bs :: bc :: br :: bv :: av ∨ wr.heap.size ≤ z := fun z hz => Or.inl (by rw [List.mem_singleton.1 hz]; simp)
  obtain ⟨n1, n2, n3, n4, n5, n6⟩ := h.ne
  refine ⟨⟨h.ch.ds.chg hc (by simp; omega), h.ch.dc.chg hc (by simp; omega), h.ch.dr.chg hc (by simp; omega), h.ch.dd.chg hc hin (fun z hz hx => by rw [List.mem_singleton.1 hz] at hx; exact n1 hx), h.ch.out, h.ch.ne, h.ch.ge,
    Chg.onto h.ch.bW h.ch.bW.size hc (fun z hz => by rw [List.mem_singleton.1 hz]; exact n5), h.ch.cg.trans hc (fun z hz => Or.inr (by rw [List.mem_singleton.1 hz]; exact n6)), h.ch.nn, h.ch.gf⟩, e ▸ h.dv.set i u, s1.chg hc hin, h.ne⟩
/-- and s.Volumes[k] = it -/
theorem VSt.put (h : VSt W v0 n0 wr no av x S q bs bc br bv y) {k g : Nat} (hk : k < x.V.length) (hg : x.Av = some ⟨g, 0, none⟩) :
    ChIn W v0 n0 (setAtW wr g (k * 8) y.cells) no (bv :: av) { x with V := x.V.set k y } { S with vs := S.vs.set k y.v } q bs bc br := by
  obtain ⟨h1, hc, hgn, hgW⟩ := h.ch.dd.setV hk hg y h.sl
  have o := h.ch.out
  refine ⟨?_, h.ch.dc.chg hc (fun hx => ?_), h.ch.dr.chg hc (fun hx => ?_), h1, h.ch.out, h.ch.ne, h.ch.ge, Chg.onto h.ch.bW h.ch.bW.size hc (fun z hz => by rw [List.mem_singleton.1 hz]; exact hgW), h.ch.cg.trans hc (fun z hz => by rw [List.mem_singleton.1 hz]; exact h.ch.nn _ hgn), h.ch.nn, h.ch.gf⟩
  · have := h.ch.ds.chg hc (fun hx => o.1 (by rw [List.mem_singleton.1 hx]; exact hgn))
    unfold DV.cells at this ⊢
    simp only [List.length_set]
    exact this
  · exact o.2.1 (by rw [List.mem_singleton.1 hx]; exact hgn)
  · exact o.2.2 (by rw [List.mem_singleton.1 hx]; exact hgn)
/-- other chunks -/
theorem VSt.newC (h : VSt W v0 n0 wr no av x S q bs bc br bv y) {C : List CkM} {A : Option Addr} {c : Nat} {cs : List Ck} (hb : Below wr.heap.size wr w8)
    (ho : OwnR 47 5 CkM.cells wr w8 A c C) (hs : ∀ z ∈ C, z ∈ x.C) (hcs : C.map CkM.k = cs) :
    ∃ no' av', VSt W v0 n0 (w8.setCell ⟨bs, 2, none⟩ (.slice A C.length c)) no' av' { x with C := C, Ac := A, cc := c } { S with cs := cs } q bs bc br bv y ∧ (∀ z ∈ av, z ∈ av') := by
  obtain ⟨n1, n2, n3, n4, n5, n6⟩ := h.ne
  obtain ⟨no', av', h1, h2, h3, h4⟩ := h.ch.newC hb ho hs hcs
  have hc : Chg [bs] w8 (w8.setCell ⟨bs, 2, none⟩ (.slice A C.length c)) := (Chg.refl _ _).setCell (Or.inl (by simp)) _
  have hbv : bv ∈ av' := h2 bv (List.mem_cons_self ..)
  refine ⟨no', av', ⟨h1.avs (fun z hz => (List.mem_cons.1 hz).elim (fun e => by rw [e]; exact hbv) id) (fun z hz => List.mem_cons_of_mem _ hz), (h.dv.below hb).chg hc (by simp; omega), ?_, ⟨fun hx => ?_, n2, n3, n4, n5, n6⟩⟩, fun z hz => h2 z (List.mem_cons_of_mem _ hz)⟩
  · refine ((h.sl.plus (no' := bs :: bc :: br :: bv :: av') (fun z hz => ?_)).below hb).chg hc (fun z hz => Or.inl (by rw [List.mem_singleton.1 hz]; exact List.mem_cons_self ..))
    simp only [List.mem_cons] at hz
    rcases hz with e | e | e | e | e
    · exact Or.inl (by simp [e])
    · exact Or.inl (by simp [e])
    · exact Or.inl (by simp [e])
    · exact Or.inl (by simp [e])
    · rcases h3 z e with e2 | e2
      · rcases List.mem_cons.1 e2 with e2 | e2
        · exact Or.inl (by simp [e2])
        · exact Or.inl (by simp [e2])
      · exact Or.inr e2
  · rcases h4 bv hx with e | e
    · exact n1 e
    · have := h.dv.lt; omega
end
/-- the first chunk of a volume: its copies -/
theorem VOk.first {S : Vst} {n : Nat} (ho : VOk S n) (hi : VIn S) {v : Vo} (hv : v ∈ S.vs) : ∃ first : Int, v.ch[0]? = some first ∧ ∃ j, ∃ h : j < S.cs.length, S.cs[j].id = first ∧ copiesOf S.cs v.ch = (S.cs[j].me.length : Int) ∧ S.cs[j].me.length ≤ 4 := by
  have hva := ho.vsa v hv
  cases hch : v.ch with
  | nil => rw [hch] at hva; simp only [List.length_nil] at hva; omega
  | cons k rest =>
    obtain ⟨c, hc, e1, e2⟩ := hi.vc v hv k (by rw [hch]; exact List.mem_cons_self ..)
    obtain ⟨j, hj, rfl⟩ := List.getElem_of_mem hc
    have := ho.csa _ hc
    refine ⟨k, rfl, j, hj, e1, ?_, by omega⟩
    unfold copiesOf
    simp only []
    rw [← e1, fd_mem ho.csr hc]
theorem AtI.at_ {α : Type} {key : α → Int} {L : List α} {id i : Int} (h : AtI key L id i) (hr : Rise key L) {j : Nat} (hj : j < L.length) (e : key L[j] = id) : i = j := by
  rcases h with ⟨h1, _⟩ | ⟨k, hk, h1, h2⟩
  · rw [← e, fd_get hr hj] at h1; cases h1
  · rw [h2]
    have := hr.inj (List.getElem_mem hk) (List.getElem_mem hj) (by rw [h1, e])
    have h3 := (List.getElem_inj (List.Pairwise.imp (fun {a b} h e => by rw [e] at h; omega) hr : L.Nodup)).1 this
    rw [h3]
set_option maxHeartbeats 16000000 in
set_option maxRecDepth 100000 in
theorem do4_calls (W w : World) (no av : List Nat) (x : DV) (S : Vst) (n : Nat) (q : Cmd) (h : DO W w no av x S) (hbW : Below W.heap.size W w) (ho : VOk S n) (hi : VIn S) (hn : n ≤ 1000) (hq : q.ok) (hk : q.k = 4) (hl : x.V.length ≤ 900) (hlc : x.C.length ≤ 90000) :
    Calls Tryz.prog 20 #[x.val S.nx, q.val] w fun e w' => ChOut18 W w no av w' S (S.act q) e := by
  obtain ⟨i2, hi2, hv0, hv1, hv2⟩ := info_parts Tryz.infoVo
  have HVI := hide hi
  clear hi
  obtain ⟨i1, hi1, hp0, hp1, hp2⟩ := info_parts Tryz.infoI3
  have HO := hide ho
  have HQ := hide hq
  have hI := ChIn.start h hbW q
  obtain ⟨k0, a0, b0, c0, ⟨qr, qw, ql, qb⟩⟩ := q
  simp only [] at hk hq
  obtain ⟨Ap, cp, V, Av, cv, C, Ac, cc⟩ := x
  simp only [] at hl hlc
  simp only [DV.cells, Cmd.cells] at hI
  obtain ⟨w0, hw0⟩ : ∃ w0, ((w.alloc (.cells #[.slice Ap 16 cp, .slice Av V.length cv, .slice Ac C.length cc, .int .i64 S.nx] 31)).alloc (.cells #[.int .i64 k0, .int .i64 a0, .int .i64 b0, .int .i64 c0, .int .i64 qr, .int .i64 qw, .int .i64 ql, .int .i64 qb] 38)).alloc (.cells #[.slice none 0 0, .slice none 0 0, .slice none 0 0, .int .i64 0] 31) = w0 := ⟨_, rfl⟩
  have hI0 : ChIn W w no w0 no av ⟨Ap, cp, V, Av, cv, C, Ac, cc⟩ S ⟨k0, a0, b0, c0, ⟨qr, qw, ql, qb⟩⟩ w.heap.size (w.heap.size + 1) (w.heap.size + 1 + 1) := hw0 ▸ hI
  obtain ⟨bs, hbs⟩ : ∃ bs, w.heap.size = bs := ⟨_, rfl⟩
  obtain ⟨bc, hbc⟩ : ∃ bc, bs + 1 = bc := ⟨_, rfl⟩
  obtain ⟨br, hbr⟩ : ∃ br, bc + 1 = br := ⟨_, rfl⟩
  rw [hbs, hbc, hbr] at hI0
  have HI := hide hI0
  have HN := hide (And.intro hbs (And.intro hbc hbr))
  have HW := hide hw0
  have hCH := dvol_calls w0 (bs :: bc :: br :: av) ⟨Ap, cp, V, Av, cv, C, Ac, cc⟩ S S.nx a0 hI0.dd.dm (by simp only []; omega)
  have s0 := hI0.ds.cell 0
  have s1 := hI0.ds.cell 1
  have s2 := hI0.ds.cell 2
  have s3 := hI0.ds.cell 3
  have c1 := hI0.dc.cell 1
  simp only [DV.cells, Cmd.cells, List.getElem?_cons_succ, List.getElem?_cons_zero] at s0 s1 s2 s3 c1
  unfold DV.val DV.cells at hCH
  simp only [] at hCH
  have HCH := hide hCH
  unfold ChOut18 DV.val DV.cells Cmd.val Cmd.cells
  simp only []
  clear h hbW ho hI hI0 hCH hw0 hq hbs hbc hbr
  subst hk
  go_enter Tryz.func20, Tryz.ntmps20
  go_upto_region 1 with fail
  rw [HW.out, HN.out.1, HN.out.2.1, HN.out.2.2]
  go_wp2_with fail
  refine HCH.out.mono ?_
  rintro e w1 ⟨i, rfl, hat, hb1⟩
  have HI1 := hide (HI.out.below hb1)
  have HAT := hide hat
  clear s0 s1 s2 s3 c1 HCH hb1 hat
  have kc := HI1.out.dc.cell 0
  have k1 := HI1.out.dc.cell 1
  have k2 := HI1.out.dc.cell 2
  have k3 := HI1.out.dc.cell 3
  have k4 := HI1.out.dc.cell 4
  have k5 := HI1.out.dc.cell 5
  have k6 := HI1.out.dc.cell 6
  have k7 := HI1.out.dc.cell 7
  simp only [Cmd.cells, List.getElem?_cons_succ, List.getElem?_cons_zero] at kc k1 k2 k3 k4 k5 k6 k7
  by_cases h1 : b0 < 1
  · have HQ0 : Hid (S.act ⟨4, a0, b0, c0, ⟨qr, qw, ql, qb⟩⟩ = (S, 1)) := hide (by rw [act4 rfl]; exact resize_bad (by simp only []; omega))
    have a0' := HI1.out.ds.cell 0
    have a1' := HI1.out.ds.cell 1
    have a2' := HI1.out.ds.cell 2
    have a3' := HI1.out.ds.cell 3
    have r0' := HI1.out.dr.cell 0
    have r1' := HI1.out.dr.cell 1
    have r2' := HI1.out.dr.cell 2
    have r3' := HI1.out.dr.cell 3
    have rf' := HI1.out.dr.frozen
    simp only [DV.cells, List.getElem?_cons_succ, List.getElem?_cons_zero] at a0' a1' a2' a3' r0' r1' r2' r3'
    have HRT := hide (HI1.out.ret (a0 := av) (fun z hz => by first | exact hz | exact List.mem_cons_of_mem _ hz) (A1 := .slice Ap 16 cp) (A2 := .slice Av V.length cv) (A3 := .slice Ac C.length cc) (z := .int .i64 S.nx))
    go_wp2
    refine bodyPost_ret (v := .tuple #[.agg #[.slice Ap 16 cp, .slice Av V.length cv, .slice Ac C.length cc, .int .i64 S.nx], .int .i64 1]) (by simp [results, Tryz.results20, go_sem, r0', r1', r2', r3']) rfl ?_
    rw [HQ0.out]
    exact ⟨⟨Ap, cp, V, Av, cv, C, Ac, cc⟩, rfl, HRT.out.1, HRT.out.2⟩
  by_cases h2 : 512 < b0
  · have HQ0 : Hid (S.act ⟨4, a0, b0, c0, ⟨qr, qw, ql, qb⟩⟩ = (S, 1)) := hide (by rw [act4 rfl]; exact resize_bad (by simp only []; omega))
    have a0' := HI1.out.ds.cell 0
    have a1' := HI1.out.ds.cell 1
    have a2' := HI1.out.ds.cell 2
    have a3' := HI1.out.ds.cell 3
    have r0' := HI1.out.dr.cell 0
    have r1' := HI1.out.dr.cell 1
    have r2' := HI1.out.dr.cell 2
    have r3' := HI1.out.dr.cell 3
    have rf' := HI1.out.dr.frozen
    simp only [DV.cells, List.getElem?_cons_succ, List.getElem?_cons_zero] at a0' a1' a2' a3' r0' r1' r2' r3'
    have HRT := hide (HI1.out.ret (a0 := av) (fun z hz => by first | exact hz | exact List.mem_cons_of_mem _ hz) (A1 := .slice Ap 16 cp) (A2 := .slice Av V.length cv) (A3 := .slice Ac C.length cc) (z := .int .i64 S.nx))
    go_wp2
    refine bodyPost_ret (v := .tuple #[.agg #[.slice Ap 16 cp, .slice Av V.length cv, .slice Ac C.length cc, .int .i64 S.nx], .int .i64 1]) (by simp [results, Tryz.results20, go_sem, r0', r1', r2', r3']) rfl ?_
    rw [HQ0.out]
    exact ⟨⟨Ap, cp, V, Av, cv, C, Ac, cc⟩, rfl, HRT.out.1, HRT.out.2⟩
  rcases HAT.out with ⟨hno, rfl⟩ | ⟨at_, hat, hid, rfl⟩
  · have HQ0 : Hid (S.act ⟨4, a0, b0, c0, ⟨qr, qw, ql, qb⟩⟩ = (S, 7)) := hide (by rw [act4 rfl]; exact resize_none (by simp only []; omega) hno)
    clear hno HAT
    have a0' := HI1.out.ds.cell 0
    have a1' := HI1.out.ds.cell 1
    have a2' := HI1.out.ds.cell 2
    have a3' := HI1.out.ds.cell 3
    have r0' := HI1.out.dr.cell 0
    have r1' := HI1.out.dr.cell 1
    have r2' := HI1.out.dr.cell 2
    have r3' := HI1.out.dr.cell 3
    have rf' := HI1.out.dr.frozen
    simp only [DV.cells, List.getElem?_cons_succ, List.getElem?_cons_zero] at a0' a1' a2' a3' r0' r1' r2' r3'
    have HRT := hide (HI1.out.ret (a0 := av) (fun z hz => by first | exact hz | exact List.mem_cons_of_mem _ hz) (A1 := .slice Ap 16 cp) (A2 := .slice Av V.length cv) (A3 := .slice Ac C.length cc) (z := .int .i64 S.nx))
    go_wp2
    refine bodyPost_ret (v := .tuple #[.agg #[.slice Ap 16 cp, .slice Av V.length cv, .slice Ac C.length cc, .int .i64 S.nx], .int .i64 7]) (by simp [results, Tryz.results20, go_sem, r0', r1', r2', r3']) rfl ?_
    rw [HQ0.out]
    exact ⟨⟨Ap, cp, V, Av, cv, C, Ac, cc⟩, rfl, HRT.out.1, HRT.out.2⟩
  have hatV : at_ < V.length := by have := HI1.out.dd.lenV; simp only [] at this; omega
  obtain ⟨y, hy⟩ : ∃ y, V[at_] = y := ⟨_, rfl⟩
  have hyv : S.vs[at_] = y.v := by rw [← hy]; exact HI1.out.dd.dm.getV hatV
  have hmv : y.v ∈ S.vs := by rw [← hyv]; exact List.getElem_mem _
  obtain ⟨first, hf1, j, hj, hf2, hcp, hcp4⟩ := HO.out.first HVI.out hmv
  have hjC : j < C.length := by have := HI1.out.dd.lenC; simp only [] at this; omega
  obtain ⟨z, hz⟩ : ∃ z, C[j] = z := ⟨_, rfl⟩
  have hzk : S.cs[j] = z.k := by rw [← hz]; exact HI1.out.dd.dm.getC hjC
  rw [hzk] at hf2 hcp hcp4
  obtain ⟨ka, hka⟩ : ∃ ka : Nat, (b0 + 7) / 8 = ka := ⟨((b0 + 7) / 8).toNat, by omega⟩
  obtain ⟨km, hkm⟩ : ∃ km, min ((b0 + 7) / 8).toNat y.v.ch.length = km := ⟨_, rfl⟩
  obtain ⟨cs2, hcs2⟩ : ∃ cs2, (S.cs.filter fun c => !(y.v.ch.drop km).contains c.id) = cs2 := ⟨_, rfl⟩
  obtain ⟨vs2, hvs2⟩ : ∃ vs2, S.vs.set at_ { y.v with bl := b0, ch := y.v.ch.take km } = vs2 := ⟨_, rfl⟩
  have HQ0 := hide (resize_at (S := S) (q := ⟨4, a0, b0, c0, ⟨qr, qw, ql, qb⟩⟩) (by simp only []; omega) HO.out.vsr hat hyv (by rw [← hyv]; exact hid) hkm hvs2 hcs2 hcp)
  rw [← act4 rfl] at HQ0
  have HSL := hide (HI1.out.dd.sV y (by rw [← hy]; exact List.getElem_mem _))
  have HCS := hide (HI1.out.dd.sC z (by rw [← hz]; exact List.getElem_mem _))
  obtain ⟨g, eV, hgn, hgW, hog⟩ := HI1.out.dd.ov.2 (show 0 < V.length by omega)
  simp only [] at eV
  subst eV
  obtain ⟨b', o', e', hbb', hcell⟩ := HI1.out.dd.dm.atV (k := at_) hatV
  simp only [Option.some.injEq, Addr.mk.injEq] at e'
  obtain ⟨rfl, rfl, _⟩ := e'
  simp only [] at hcell
  rw [hy] at hcell
  obtain ⟨⟨vid, vbl, ⟨vr, vw, vl, vb⟩, vver, vch⟩, yA, yc⟩ := y
  simp only [] at hf1 hkm hcs2 hvs2 HQ0 hyv
  have hw := hcell w1 (Below.refl _ _)
  simp only [Nat.zero_add] at hw
  have p0 : w1.cell? ⟨g, at_ * 8, none⟩ = some (.int .i64 vid) := hw 0 (by omega)
  have p1 : w1.cell? ⟨g, at_ * 8 + 1, none⟩ = some (.int .i64 vbl) := hw 1 (by omega)
  have p2 : w1.cell? ⟨g, at_ * 8 + 2, none⟩ = some (.int .i64 vr) := hw 2 (by omega)
  have p3 : w1.cell? ⟨g, at_ * 8 + 3, none⟩ = some (.int .i64 vw) := hw 3 (by omega)
  have p4 : w1.cell? ⟨g, at_ * 8 + 4, none⟩ = some (.int .i64 vl) := hw 4 (by omega)
  have p5 : w1.cell? ⟨g, at_ * 8 + 5, none⟩ = some (.int .i64 vb) := hw 5 (by omega)
  have p6 : w1.cell? ⟨g, at_ * 8 + 6, none⟩ = some (.int .i64 vver) := hw 6 (by omega)
  have p7 : w1.cell? ⟨g, at_ * 8 + 7, none⟩ = some (.slice yA vch.length yc) := hw 7 (by omega)
  have s1 := HI1.out.ds.cell 1
  simp only [DV.cells, List.getElem?_cons_succ, List.getElem?_cons_zero] at s1
  have kV : (at_ : Int) < V.length := by omega
  have hz1 : C[j]? = some z := by rw [List.getElem?_eq_getElem hjC, hz]
  have hzk1 : S.cs[j]? = some z.k := by rw [List.getElem?_eq_getElem hj, hzk]
  have hy1 : V[at_]? = some ⟨⟨vid, vbl, ⟨vr, vw, vl, vb⟩, vver, vch⟩, yA, yc⟩ := by rw [List.getElem?_eq_getElem hatV, hy]
  have HF := hide (And.intro hf1 (And.intro hf2 (And.intro hcp4 (And.intro hjC (And.intro hz1 (And.intro hj hzk1))))))
  have HV := hide (And.intro hatV (And.intro hat hy1))
  have HVA := hide (HO.out.vsa _ hmv)
  have HKM := hide (And.intro hkm (And.intro hka (And.intro hcs2 hvs2)))
  clear hcell hw hog hf1 hf2 hcp hcp4 hjC hz hj hzk hz1 hzk1 hy hy1 hyv hmv hid hat hatV hkm hka hcs2 hvs2 hbb'
  go_upto_region 33 with fail
  obtain ⟨w2, hw2⟩ : ∃ w2, w1.alloc (.cells #[.int .i64 vid, .int .i64 vbl, .int .i64 vr, .int .i64 vw, .int .i64 vl, .int .i64 vb, .int .i64 vver, .slice yA vch.length yc] 43) = w2 := ⟨_, rfl⟩
  have hV2 := VSt.new HI1.out ⟨⟨vid, vbl, ⟨vr, vw, vl, vb⟩, vver, vch⟩, yA, yc⟩ HSL.out hw2
  obtain ⟨bv, hbv⟩ : ∃ bv, w1.heap.size = bv := ⟨_, rfl⟩
  rw [hbv] at hV2
  have HV2 := hide hV2
  rw [hw2, hbv]
  clear p0 p1 p2 p3 p4 p5 p6 p7 s1 kc k1 k2 k3 k4 k5 k6 k7 hV2 hw2 hbv
  obtain ⟨⟨zid, zvol, zep, zme, zjo⟩, zA, zc, zB, zd⟩ := z
  have hf1 : vch[0]? = some first := HF.out.1
  have hvl : 0 < vch.length := by
    rcases Nat.eq_zero_or_pos vch.length with h0 | h0
    · rw [List.getElem?_eq_none (by omega)] at hf1; cases hf1
    · exact h0
  have hjC : j < C.length := HF.out.2.2.2.1
  obtain ⟨bA, oA, eA, hbA, hcA⟩ := HV2.out.sl.rd.rule hvl
  simp only [] at eA
  subst eA
  have g0 : ∀ w', Below w2.heap.size w2 w' → w'.cell? ⟨bA, oA, none⟩ = some (.int .i64 first) := fun w' hb => by
    have := hcA 0 (.int .i64 first) (by rw [List.getElem?_map, hf1]; rfl) w' hb
    simpa using this
  have l0 : (0 : Int) < vch.length := by omega
  have HCHK := hide (fun w' (hb : Below w2.heap.size w2 w') => (dchunk_calls w' (bs :: bc :: br :: bv :: av) ⟨Ap, cp, V, some ⟨g, 0, none⟩, cv, C, Ac, cc⟩ S S.nx first (HV2.out.ch.dd.dm.below hb) (by simp only []; omega)).mono
    fun e w'' (h : ∃ i, e = .returned (.int .i64 i) ∧ AtI Ck.id S.cs first i ∧ Below w'.heap.size w' w'') => (show e = .returned (.int .i64 (j : Int)) ∧ Below w'.heap.size w' w'' from by
      obtain ⟨i, he, hat, hb'⟩ := h
      have hj : j < S.cs.length := HF.out.2.2.2.2.2.1
      have hj2 : S.cs[j].id = first := by
        have h1 := HF.out.2.2.2.2.2.2
        rw [List.getElem?_eq_getElem hj] at h1
        rw [Option.some.inj h1]
        exact HF.out.2.1
      rw [he, hat.at_ HO.out.csr hj hj2]
      exact ⟨rfl, hb'⟩))
  unfold DV.val DV.cells at HCHK
  simp only [] at HCHK
  obtain ⟨gC, oC, eC, hbC, hcC⟩ := HV2.out.ch.dd.dm.atC (k := j) hjC
  simp only [] at eC
  subst eC
  have m3 : ∀ w', Below w2.heap.size w2 w' → w'.cell? ⟨gC, oC + j * 5 + 3, none⟩ = some (.slice zA zme.length zc) := fun w' hb => by
    have h1 := hcC w' hb 3 (by omega)
    have h2 := HF.out.2.2.2.2.1
    rw [List.getElem?_eq_getElem hjC] at h2
    simp only [] at h1
    rw [Option.some.inj h2] at h1
    exact h1
  have kC : (j : Int) < C.length := by omega
  have z0 := HV2.out.ch.ds.rule 0 _ rfl
  have z1 := HV2.out.ch.ds.rule 1 _ rfl
  have z2 := HV2.out.ch.ds.rule 2 _ rfl
  have z3 := HV2.out.ch.ds.rule 3 _ rfl
  have v7 := HV2.out.dv.rule 7 _ rfl
  simp only [] at z0 z1 z2 z3 v7
  have r2 := Below.refl w2.heap.size w2
  have HVL := hide hvl
  have HCA := hide hbA
  clear hcC hcA hf1 hbA hbC hjC
  refine lxR (fun w' => Below w2.heap.size w2 w') [] 0 [(2, 0), (0, 1), (0, 2), (2, 3), (0, 4), (2, 5), (0, 6), (1, 7), (2, 8), (2, 9), (0, 10), (2, 11), (2, 12)] #[true, true, true, true, true, true, true, true, true, true, true, true, true] (by kernel_rfl) (by kernel_rfl) (by decide) (by kernel_rfl) (by kernel_rfl) (fun _ _ _ _ _ h => h) (by (first | assumption | exact r2.drew)) (fun hS0 => ?_)
  simp only [List.map_cons, List.map_nil, List.getElem?_toArray, List.getElem?_cons_succ, List.getElem?_cons_zero]
  (apply lxP (by rfl); (focus (intro w; go_simp; (try with_reducible rfl); done)); simp only [Act.put, zA40, zB40, zC40]); (iterate 2 ((apply lxT (by rfl); (focus (intro w hw; (try dsimp only at hw); go_simp; (try with_reducible rfl); done)); simp only [Act.put, zA40, zB40, zC40]))); (apply lxP (by rfl); (focus (intro w; go_simp; (try with_reducible rfl); done)); simp only [Act.put, zA40, zB40, zC40]); (apply lxT (by rfl); (focus (intro w hw; (try dsimp only at hw); go_simp; (try with_reducible rfl); done)); simp only [Act.put, zA40, zB40, zC40]); (apply lxP (by rfl); (focus (intro w; go_simp; (try with_reducible rfl); done)); simp only [Act.put, zA40, zB40, zC40]); (apply lxT (by rfl); (focus (intro w hw; (try dsimp only at hw); go_simp; (try with_reducible rfl); done)); simp only [Act.put, zA40, zB40, zC40]); (refine lxE (by rfl) ?_; go_simp; ((go_at_call 51; refine (HCHK.out _ (by assumption)).mono ?_; rintro e w3 ⟨rfl, hb3⟩; have hb3q : Below w2.heap.size w2 w3 := bwP hb3 (by assumption); clear hb3)); refine lxB (by (first | assumption | exact r2.drew)) (fun hS1 => ?_)); (iterate 2 ((apply lxP (by rfl); (focus (intro w; go_simp; (try with_reducible rfl); done)); simp only [Act.put, zA40, zB40, zC40]))); (apply lxT (by rfl); (focus (intro w hw; (try dsimp only at hw); go_simp; (try with_reducible rfl); done)); simp only [Act.put, zA40, zB40, zC40]); (iterate 2 ((apply lxP (by rfl); (focus (intro w; go_simp; (try with_reducible rfl); done)); simp only [Act.put, zA40, zB40, zC40])))
  refine lxN (fun _ => wqD (by kernel_rfl) ?_ _)
  rename_i hunm
  clear hunm
  have HV3 := hide (HV2.out.below hb3q)
  clear z0 z1 z2 z3 v7 r2 m3 kC g0 l0 hvl hb3q hS0 hS1 HCHK
  have k2 := HV3.out.ch.dc.cell 2
  have v7 := HV3.out.dv.cell 7
  simp only [VoM.cells, Cmd.cells, List.getElem?_cons_succ, List.getElem?_cons_zero] at k2 v7
  have hka : (b0 + 7) / 8 = ka := HKM.out.2.1
  have hkl : km ≤ vch.length := by have := HKM.out.1; omega
  have hmin : (if (vch.length : Int) < ka then (vch.length : Int) else ka) = (km : Int) := by have := HKM.out.1; split <;> omega
  have hmin2 : min (ka : Int) (vch.length : Int) = (km : Int) := by have := HKM.out.1; omega
  have i1' : (0 : Int) ≤ b0 + 7 := by omega
  go_upto_region 35 with fail
  clear k2 v7 hka hmin hmin2 i1'
  have hle : vch.length ≤ yc := HV3.out.sl.le
  have hln : vch.length ≤ 1024 := HV3.out.sl.ln
  obtain ⟨A3, hA3⟩ : ∃ A3 : Option Addr, (if yc = km then some (⟨bA, oA, none⟩ : Addr) else (some (⟨bA, oA, none⟩ : Addr)).map (·.add (km * 1))) = A3 := ⟨_, rfl⟩
  have hsl := run_cut (P := Tryz.prog) (t := 27) Tryz.underlying27 (fun _ => by kernel_rfl) hkl hA3
  obtain ⟨dr, hdr⟩ : ∃ dr, vch.drop km = dr := ⟨_, rfl⟩
  obtain ⟨tk, htk⟩ : ∃ tk, vch.take km = tk := ⟨_, rfl⟩
  have hdl : dr.length = vch.length - km := by rw [← hdr, List.length_drop]
  have htl : km = tk.length := by rw [← htk, List.length_take]; omega
  rw [← hdl] at hsl
  have HDRD := hide ((HV3.out.sl.rd.cut (k := km) (cap := yc) hkl hle))
  simp only [] at HDRD
  rw [hA3, ← hdl, Nat.mul_one, ← List.map_drop, hdr] at HDRD
  have HTK := hide (HV3.out.sl.take hkl)
  simp only [] at HTK
  rw [htk] at HTK
  have HT := hide (And.intro hdr (And.intro htk htl))
  obtain ⟨C2, hC2⟩ : ∃ C2, (C.filter fun y => !dr.contains y.k.id) = C2 := ⟨_, rfl⟩
  have HOUT : Hid (∀ w', Below w3.heap.size w3 w' → Calls Tryz.prog 50 #[.slice (some ⟨gC, oC, none⟩) C.length cc, .slice A3 dr.length (yc - km)] w' fun e w'' => ∃ A c, e = .returned (.slice A C2.length c) ∧ OwnR 47 5 CkM.cells w' w'' A c C2 ∧ Below w'.heap.size w' w'') :=
    hide (fun w' hb => by
      rw [← hC2]
      exact dout_calls w' (some ⟨gC, oC, none⟩) A3 cc (yc - km) C dr ((HV3.out.ch.dd.oc.rd.below hb).more hb.size) ((HDRD.out.below hb).more hb.size) (by omega) (by omega))
  have hm : C2.map CkM.k = cs2 := by
    rw [← hC2, ← HKM.out.2.2.1, ← HV3.out.ch.dd.eC, List.filter_map, hdr]
    rfl
  have hmem : ∀ y ∈ C2, y ∈ C := fun y hy => by rw [← hC2] at hy; exact (List.mem_filter.1 hy).1
  have HM := hide (And.intro hm hmem)
  have z2 := HV3.out.ch.ds.rule 2 _ rfl
  have zf : ∀ w', Below w3.heap.size w3 w' → ∀ i, w'.frozen? ⟨bs, i, none⟩ = false := fun w' hb => (HV3.out.ch.ds.below hb).frozen
  have v7 := HV3.out.dv.rule 7 _ rfl
  simp only [] at z2 v7
  have r3 := Below.refl w3.heap.size w3
  have kkm : (0 : Int) ≤ km := by omega
  clear hA3 hdr htk htl hdl hC2 hm hmem hln
  refine lxR (fun w' => Below w3.heap.size w3 w') [8] 0 [(2, 0), (0, 1), (2, 2), (0, 3), (2, 4), (2, 5), (1, 6), (2, 7), (3, 8)] #[true, true, true, true, true, true, true, true, true] (by kernel_rfl) (by kernel_rfl) (by decide) (by kernel_rfl) (by kernel_rfl) (fun _ _ _ _ _ h => h) (by (first | assumption | exact r3.drew)) (fun hS0 => ?_)
  simp only [List.map_cons, List.map_nil, List.getElem?_toArray, List.getElem?_cons_succ, List.getElem?_cons_zero]
  (apply lxP (by rfl); (focus (intro w; go_simp; (try with_reducible rfl); done)); simp only [Act.put, zA40, zB40, zC40]); (apply lxT (by rfl); (focus (intro w hw; (try dsimp only at hw); go_simp; (try with_reducible rfl); done)); simp only [Act.put, zA40, zB40, zC40]); (apply lxP (by rfl); (focus (intro w; go_simp; (try with_reducible rfl); done)); simp only [Act.put, zA40, zB40, zC40]); (apply lxT (by rfl); (focus (intro w hw; (try dsimp only at hw); go_simp; (try with_reducible rfl); done)); simp only [Act.put, zA40, zB40, zC40]); (iterate 2 ((apply lxP (by rfl); (focus (intro w; go_simp; (try with_reducible rfl); done)); simp only [Act.put, zA40, zB40, zC40]))); (refine lxE (by rfl) ?_; go_simp; ((go_at_call 50; refine (HOUT.out _ (by assumption)).mono ?_; rintro e w4 ⟨A4, c4, rfl, ho4, hb4⟩; have hb4q : Below w3.heap.size w3 w4 := bwP hb4 (by assumption); have HO4 := hide (And.intro ho4 hb4); clear ho4 hb4)); refine lxB (by (first | assumption | exact r3.drew)) (fun hS1 => ?_)); (apply lxP (by rfl); (focus (intro w; go_simp; (try with_reducible rfl); done)); simp only [Act.put, zA40, zB40, zC40]); (refine lxF (by rfl) ?_; go_simp)
  refine lxN (fun _ => wqD (by kernel_rfl) ?_ _)
  rename_i hunm
  clear hunm
  obtain ⟨no5, av5, hV5, hav5⟩ := HV3.out.newC (C := C2) (A := A4) (c := c4) (cs := cs2) hb4q (HO4.out.1.back (Nat.le_refl _)) HM.out.2 HM.out.1
  obtain ⟨w5, hw5⟩ : ∃ w5, w4.setCell ⟨bs, 2, none⟩ (.slice A4 C2.length c4) = w5 := ⟨_, rfl⟩
  rw [hw5] at hV5
  simp only [] at hV5
  have HV5 := hide hV5
  have HAV5 := hide hav5
  rw [hw5]
  clear hV5 hav5 hw5 z2 zf v7 r3 hb4q hS0 hS1 hsl
  have v7 := HV5.out.dv.cell 7
  have f7 := HV5.out.dv.frozen 7
  simp only [VoM.cells, List.getElem?_cons_succ, List.getElem?_cons_zero] at v7
  have hV6 := HV5.out.set 7 (.slice (some ⟨bA, oA, none⟩) km yc) ⟨⟨vid, vbl, ⟨vr, vw, vl, vb⟩, vver, tk⟩, some ⟨bA, oA, none⟩, yc⟩ (by unfold VoM.cells; simp only [List.set_cons_succ, List.set_cons_zero]; rw [HT.out.2.2]) (by
    have h5 := HV5.out.sl.take hkl
    simp only [] at h5
    rw [HT.out.2.1] at h5
    exact h5)
  have kle : (km : Int) ≤ yc := by omega
  obtain ⟨w6, hw6⟩ : ∃ w6, w5.setCell ⟨bv, 7, none⟩ (.slice (some ⟨bA, oA, none⟩) km yc) = w6 := ⟨_, rfl⟩
  rw [hw6] at hV6
  have HV6 := hide hV6
  go_upto_region 37 with fail
  (try rw [hw6])
  clear hV6 hw6 v7 f7
  have k2 := HV6.out.ch.dc.cell 2
  have v1 := HV6.out.dv.cell 1
  have f1 := HV6.out.dv.frozen 1
  simp only [VoM.cells, Cmd.cells, List.getElem?_cons_succ, List.getElem?_cons_zero] at k2 v1
  have hV7 := HV6.out.set 1 (.int .i64 b0) ⟨⟨vid, b0, ⟨vr, vw, vl, vb⟩, vver, tk⟩, some ⟨bA, oA, none⟩, yc⟩ (by unfold VoM.cells; simp only [List.set_cons_succ, List.set_cons_zero]) HV6.out.sl
  obtain ⟨w7, hw7⟩ : ∃ w7, w6.setCell ⟨bv, 1, none⟩ (.int .i64 b0) = w7 := ⟨_, rfl⟩
  rw [hw7] at hV7
  have HV7 := hide hV7
  go_upto_region 38 with fail
  (try rw [hw7])
  clear hV7 hw7 k2 v1 f1
  have hatV : at_ < V.length := HV.out.1
  have hI8 := HV7.out.put (k := at_) (g := g) hatV rfl
  simp only [] at hI8
  obtain ⟨w8, hw8⟩ : ∃ w8, setAtW w7 g (at_ * 8) (VoM.cells ⟨⟨vid, b0, ⟨vr, vw, vl, vb⟩, vver, tk⟩, some ⟨bA, oA, none⟩, yc⟩) = w8 := ⟨_, rfl⟩
  rw [hw8] at hI8
  have hch8 : ((((((((w7.setCell ⟨g, at_ * 8, none⟩ (.int .i64 vid)).setCell ⟨g, at_ * 8 + 1, none⟩ (.int .i64 b0)).setCell ⟨g, at_ * 8 + 2, none⟩ (.int .i64 vr)).setCell ⟨g, at_ * 8 + 3, none⟩ (.int .i64 vw)).setCell ⟨g, at_ * 8 + 4, none⟩ (.int .i64 vl)).setCell ⟨g, at_ * 8 + 5, none⟩ (.int .i64 vb)).setCell ⟨g, at_ * 8 + 6, none⟩ (.int .i64 vver)).setCell ⟨g, at_ * 8 + 7, none⟩ (.slice (some ⟨bA, oA, none⟩) tk.length yc)) = w8 := hw8
  obtain ⟨b', o', e', hbb', hcell'⟩ := HV7.out.ch.dd.dm.atV (k := at_) hatV
  simp only [Option.some.injEq, Addr.mk.injEq] at e'
  obtain ⟨rfl, rfl, _⟩ := e'
  have hw := hcell' w7 (Below.refl _ _)
  simp only [Nat.zero_add] at hw
  obtain ⟨y9, hy9⟩ : ∃ y9, V[at_] = y9 := ⟨_, rfl⟩
  rw [hy9] at hw
  have p0 : w7.cell? ⟨g, at_ * 8, none⟩ = y9.cells[0]? := hw 0 (by omega)
  have p1 : w7.cell? ⟨g, at_ * 8 + 1, none⟩ = y9.cells[1]? := hw 1 (by omega)
  have p2 : w7.cell? ⟨g, at_ * 8 + 2, none⟩ = y9.cells[2]? := hw 2 (by omega)
  have p3 : w7.cell? ⟨g, at_ * 8 + 3, none⟩ = y9.cells[3]? := hw 3 (by omega)
  have p4 : w7.cell? ⟨g, at_ * 8 + 4, none⟩ = y9.cells[4]? := hw 4 (by omega)
  have p5 : w7.cell? ⟨g, at_ * 8 + 5, none⟩ = y9.cells[5]? := hw 5 (by omega)
  have p6 : w7.cell? ⟨g, at_ * 8 + 6, none⟩ = y9.cells[6]? := hw 6 (by omega)
  have p7 : w7.cell? ⟨g, at_ * 8 + 7, none⟩ = y9.cells[7]? := hw 7 (by omega)
  simp only [VoM.cells, List.getElem?_cons_succ, List.getElem?_cons_zero] at p0 p1 p2 p3 p4 p5 p6 p7
  have pf := HV7.out.ch.dd.ov.frz (g := g) (by simp only []; omega) rfl w7 (Below.refl _ _)
  have s1 := HV7.out.ch.ds.cell 1
  have t0 := HV7.out.dv.cell 0
  have t1 := HV7.out.dv.cell 1
  have t2 := HV7.out.dv.cell 2
  have t3 := HV7.out.dv.cell 3
  have t4 := HV7.out.dv.cell 4
  have t5 := HV7.out.dv.cell 5
  have t6 := HV7.out.dv.cell 6
  have t7 := HV7.out.dv.cell 7
  simp only [VoM.cells, DV.cells, List.getElem?_cons_succ, List.getElem?_cons_zero] at s1 t0 t1 t2 t3 t4 t5 t6 t7
  have HIZ := hide hI8
  have HC8 := hide hch8
  clear hcell' hw hy9 hbb' hI8 hw8 hch8
  go_upto_region 39 with fail
  rw [HC8.out]
  clear p0 p1 p2 p3 p4 p5 p6 p7 pf s1 t0 t1 t2 t3 t4 t5 t6 t7
  have hva := HVA.out
  (try simp only [] at hva)
  have hlen := HO.out.lens (by omega)
  have hk2 : at_ < (V.set at_ (⟨⟨vid, b0, ⟨vr, vw, vl, vb⟩, vver, tk⟩, some ⟨bA, oA, none⟩, yc⟩ : VoM)).length := by rw [List.length_set]; exact hatV
  have HFILL := hide (dfill_calls W w8 no5 (bs :: bc :: br :: bv :: av5) ⟨Ap, cp, V.set at_ ⟨⟨vid, b0, ⟨vr, vw, vl, vb⟩, vver, tk⟩, some ⟨bA, oA, none⟩, yc⟩, some ⟨g, 0, none⟩, cv, C2, A4, c4⟩ ⟨S.sv, S.vs.set at_ ⟨vid, b0, ⟨vr, vw, vl, vb⟩, vver, tk⟩, cs2, S.nx⟩ at_ zme.length ⟨⟨vid, b0, ⟨vr, vw, vl, vb⟩, vver, tk⟩, some ⟨bA, oA, none⟩, yc⟩
    HIZ.out.dd HIZ.out.bW hk2 (by simp only [List.getElem_set_self]) ⟨HO.out.svr, HO.out.sva⟩ (fun z hz => by
      have hz' : z ∈ S.cs := by
        simp only [] at hz
        rw [← HKM.out.2.2.1] at hz
        exact (List.mem_filter.1 hz).1
      exact (HO.out.csa z hz').2.1) (by simp only []; omega) HO.out.nx1 (by simp only []; omega) (by simp only []; omega) (by simp only [List.length_set]; omega) (by
      simp only []
      have h1 : C2.length = cs2.length := by rw [← HM.out.1, List.length_map]
      have h2 : cs2.length ≤ S.cs.length := by rw [← HKM.out.2.2.1]; exact List.length_filter_le _ _
      omega) (by have := HF.out.2.2.1; simp only [] at this; omega) (by
      simp only []
      have h1 := HKM.out.1
      have h2 := HT.out.2.2
      omega))
  simp only [] at HFILL
  have HQ0b := hide HQ0.out
  rw [HT.out.2.1] at HQ0b
  simp only [] at HQ0b
  have hvs : S.vs.set at_ ⟨vid, b0, ⟨vr, vw, vl, vb⟩, vver, tk⟩ = vs2 := by rw [← HKM.out.2.2.2, HT.out.2.1]
  rw [hvs] at HIZ HFILL
  clear HQ0
  have HQ0 := hide HQ0b.out
  clear hva hlen hk2 hvs HQ0b
  unfold DV.val DV.cells at HFILL
  simp only [List.length_set] at HFILL
  have e0 := HIZ.out.ds.cell 0
  have e1 := HIZ.out.ds.cell 1
  have e2 := HIZ.out.ds.cell 2
  have e3 := HIZ.out.ds.cell 3
  simp only [DV.cells, List.length_set, List.getElem?_cons_succ, List.getElem?_cons_zero] at e0 e1 e2 e3
  go_wp2_with fail
  with_reducible refine HFILL.out.mono ?_
  rintro e wf ⟨⟨A1, c1, V1, B1, d1, C1, D1, e1'⟩, rfl, ⟨no', av', hD, hn', ha'⟩, hW2, hC2⟩
  have HRT := hide (HIZ.out.retF hD hn' ha' (a0 := av) (fun z hz => List.mem_cons_of_mem _ (HAV5.out z hz)) hW2 hC2)
  obtain ⟨R, hR⟩ : ∃ R, growN (lack b0 tk) ⟨S.sv, vs2, cs2, S.nx⟩ vid tk zme.length = R := ⟨_, rfl⟩
  rw [hR] at HRT HQ0 ⊢
  have r0' := HRT.out.1.cell 0
  have r1' := HRT.out.1.cell 1
  have r2' := HRT.out.1.cell 2
  have r3' := HRT.out.1.cell 3
  have rf' := HRT.out.1.frozen
  simp only [List.getElem?_cons_succ, List.getElem?_cons_zero] at r0' r1' r2' r3'
  clear hR hD hn' ha' hW2 hC2 e0 e1 e2 e3 HFILL
  go_wp2
  refine bodyPost_ret (v := .tuple #[.agg #[.slice A1 16 c1, .slice B1 V1.length d1, .slice D1 C1.length e1', .int .i64 R.1.nx], .int .i64 0]) (by simp [results, Tryz.results20, go_sem, r0', r1', r2', r3']) rfl ?_
  rw [HQ0.out]
  exact ⟨⟨A1, c1, V1, B1, d1, C1, D1, e1'⟩, rfl, (HRT.out.2 _ _ _ _).1, (HRT.out.2 _ _ _ _).2⟩
end Go.Proofs.YtcgecalbgkkinaaGreat

namespace Go.Proofs.YtcgecalbgkkinaaGreat
open Go.ChangeShapes Go.WideShapes Go.ChangeAt Go.RowKit Go.Joins Go.Deep Go.Maps
set_option linter.unusedVariables false
set_option linter.unusedSimpArgs false

theorem act6 {S : Vst} {q : Cmd} (h : q.k = 6 ∨ q.k = 7 ∨ q.k = 8) : S.act q = S.chunkQ q := by
  unfold Vst.act Vst.chunkQ
  rw [if_neg (by omega), if_neg (by omega), if_neg (by omega), if_neg (by omega), if_neg (by omega)]
  rcases h with h | h | h
  · rw [if_pos h, if_pos h]
  · rw [if_neg (by omega), if_pos h, if_neg (by omega), if_pos h]
  · rw [if_neg (by omega), if_neg (by omega), if_pos h, if_neg (by omega), if_neg (by omega)]
set_option maxHeartbeats 8000000 in
set_option maxRecDepth 100000 in
theorem do6_calls (W w : World) (no av : List Nat) (x : DV) (S : Vst) (n : Nat) (q : Cmd) (h : DO W w no av x S) (hbW : Below W.heap.size W w) (ho : VOk S n) (hn : n ≤ 1000) (hq : q.ok) (hk : q.k = 6) (hl : x.V.length ≤ 900) (hlc : x.C.length ≤ 90000) :
    Calls Tryz.prog 20 #[x.val S.nx, q.val] w fun e w' => ChOut18 W w no av w' S (S.act q) e := by
  obtain ⟨i1, hi1, hp0, hp1, hp2⟩ := info_parts Tryz.infoI3
  have HO := hide ho
  have HQ := hide hq
  have hI := ChIn.start h hbW q
  obtain ⟨k0, a0, b0, c0, ⟨qr, qw, ql, qb⟩⟩ := q
  simp only [] at hk hq
  obtain ⟨Ap, cp, V, Av, cv, C, Ac, cc⟩ := x
  simp only [] at hl hlc
  simp only [DV.cells, Cmd.cells] at hI
  obtain ⟨w0, hw0⟩ : ∃ w0, ((w.alloc (.cells #[.slice Ap 16 cp, .slice Av V.length cv, .slice Ac C.length cc, .int .i64 S.nx] 31)).alloc (.cells #[.int .i64 k0, .int .i64 a0, .int .i64 b0, .int .i64 c0, .int .i64 qr, .int .i64 qw, .int .i64 ql, .int .i64 qb] 38)).alloc (.cells #[.slice none 0 0, .slice none 0 0, .slice none 0 0, .int .i64 0] 31) = w0 := ⟨_, rfl⟩
  have hI0 : ChIn W w no w0 no av ⟨Ap, cp, V, Av, cv, C, Ac, cc⟩ S ⟨k0, a0, b0, c0, ⟨qr, qw, ql, qb⟩⟩ w.heap.size (w.heap.size + 1) (w.heap.size + 1 + 1) := hw0 ▸ hI
  obtain ⟨bs, hbs⟩ : ∃ bs, w.heap.size = bs := ⟨_, rfl⟩
  obtain ⟨bc, hbc⟩ : ∃ bc, bs + 1 = bc := ⟨_, rfl⟩
  obtain ⟨br, hbr⟩ : ∃ br, bc + 1 = br := ⟨_, rfl⟩
  rw [hbs, hbc, hbr] at hI0
  have HI := hide hI0
  have HN := hide (And.intro hbs (And.intro hbc hbr))
  have HW := hide hw0
  have hCH := dvol_calls w0 (bs :: bc :: br :: av) ⟨Ap, cp, V, Av, cv, C, Ac, cc⟩ S S.nx a0 hI0.dd.dm (by simp only []; omega)
  have s0 := hI0.ds.cell 0
  have s1 := hI0.ds.cell 1
  have s2 := hI0.ds.cell 2
  have s3 := hI0.ds.cell 3
  have c1 := hI0.dc.cell 1
  simp only [DV.cells, Cmd.cells, List.getElem?_cons_succ, List.getElem?_cons_zero] at s0 s1 s2 s3 c1
  unfold DV.val DV.cells at hCH
  simp only [] at hCH
  have HCH := hide hCH
  unfold ChOut18 DV.val DV.cells Cmd.val Cmd.cells
  simp only []
  clear h hbW ho hI hI0 hCH hw0 hq hbs hbc hbr
  subst hk
  go_enter Tryz.func20, Tryz.ntmps20
  go_upto_region 1 with fail
  rw [HW.out, HN.out.1, HN.out.2.1, HN.out.2.2]
  go_wp2_with fail
  refine HCH.out.mono ?_
  rintro e w1 ⟨i, rfl, hat, hb1⟩
  have HI1 := hide (HI.out.below hb1)
  have HAT := hide hat
  clear s0 s1 s2 s3 c1 HCH hb1 hat
  have kc := HI1.out.dc.cell 0
  have k1 := HI1.out.dc.cell 1
  have k2 := HI1.out.dc.cell 2
  have k3 := HI1.out.dc.cell 3
  have k4 := HI1.out.dc.cell 4
  have k5 := HI1.out.dc.cell 5
  have k6 := HI1.out.dc.cell 6
  have k7 := HI1.out.dc.cell 7
  simp only [Cmd.cells, List.getElem?_cons_succ, List.getElem?_cons_zero] at kc k1 k2 k3 k4 k5 k6 k7
  have HCQ := hide (dchunkq_calls W w1 no (bs :: bc :: br :: av) ⟨Ap, cp, V, Av, cv, C, Ac, cc⟩ S n ⟨6, a0, b0, c0, ⟨qr, qw, ql, qb⟩⟩ HI1.out.dd HI1.out.bW HO.out HQ.out (by simp) hn (by simp only []; omega))
  unfold ChOut18 DV.val DV.cells Cmd.val Cmd.cells at HCQ
  simp only [] at HCQ
  have e0 := HI1.out.ds.cell 0
  have e1 := HI1.out.ds.cell 1
  have e2 := HI1.out.ds.cell 2
  have e3 := HI1.out.ds.cell 3
  simp only [DV.cells, List.getElem?_cons_succ, List.getElem?_cons_zero] at e0 e1 e2 e3
  clear HAT
  go_wp2_with fail
  refine HCQ.out.mono ?_
  rintro e w2 ⟨⟨A1, c1, V1, B1, d1, C1, D1, e1'⟩, rfl, ⟨no', av', hD, hn', ha'⟩, hW2, hC2⟩
  have HRT := hide (HI1.out.retF hD hn' ha' (a0 := av) (fun z hz => hz) hW2 hC2)
  have HQ0 : Hid (S.act ⟨6, a0, b0, c0, ⟨qr, qw, ql, qb⟩⟩ = S.chunkQ ⟨6, a0, b0, c0, ⟨qr, qw, ql, qb⟩⟩) := hide (act6 (by simp))
  obtain ⟨R, hR⟩ : ∃ R, S.chunkQ ⟨6, a0, b0, c0, ⟨qr, qw, ql, qb⟩⟩ = R := ⟨_, rfl⟩
  rw [hR] at HRT HQ0 ⊢
  have r0' := HRT.out.1.cell 0
  have r1' := HRT.out.1.cell 1
  have r2' := HRT.out.1.cell 2
  have r3' := HRT.out.1.cell 3
  have rf' := HRT.out.1.frozen
  simp only [List.getElem?_cons_succ, List.getElem?_cons_zero] at r0' r1' r2' r3'
  clear hR hD hn' ha' hW2 hC2 e0 e1 e2 e3 kc k1 k2 k3 k4 k5 k6 k7 HCQ
  go_wp2
  refine bodyPost_ret (v := .tuple #[.agg #[.slice A1 16 c1, .slice B1 V1.length d1, .slice D1 C1.length e1', .int .i64 R.1.nx], .int .i64 R.2]) (by simp [results, Tryz.results20, go_sem, r0', r1', r2', r3']) rfl ?_
  rw [HQ0.out]
  exact ⟨⟨A1, c1, V1, B1, d1, C1, D1, e1'⟩, rfl, (HRT.out.2 _ _ _ _).1, (HRT.out.2 _ _ _ _).2⟩
set_option maxHeartbeats 8000000 in
set_option maxRecDepth 100000 in
theorem do7_calls (W w : World) (no av : List Nat) (x : DV) (S : Vst) (n : Nat) (q : Cmd) (h : DO W w no av x S) (hbW : Below W.heap.size W w) (ho : VOk S n) (hn : n ≤ 1000) (hq : q.ok) (hk : q.k = 7) (hl : x.V.length ≤ 900) (hlc : x.C.length ≤ 90000) :
    Calls Tryz.prog 20 #[x.val S.nx, q.val] w fun e w' => ChOut18 W w no av w' S (S.act q) e := by
  obtain ⟨i1, hi1, hp0, hp1, hp2⟩ := info_parts Tryz.infoI3
  have HO := hide ho
  have HQ := hide hq
  have hI := ChIn.start h hbW q
  obtain ⟨k0, a0, b0, c0, ⟨qr, qw, ql, qb⟩⟩ := q
  simp only [] at hk hq
  obtain ⟨Ap, cp, V, Av, cv, C, Ac, cc⟩ := x
  simp only [] at hl hlc
  simp only [DV.cells, Cmd.cells] at hI
  obtain ⟨w0, hw0⟩ : ∃ w0, ((w.alloc (.cells #[.slice Ap 16 cp, .slice Av V.length cv, .slice Ac C.length cc, .int .i64 S.nx] 31)).alloc (.cells #[.int .i64 k0, .int .i64 a0, .int .i64 b0, .int .i64 c0, .int .i64 qr, .int .i64 qw, .int .i64 ql, .int .i64 qb] 38)).alloc (.cells #[.slice none 0 0, .slice none 0 0, .slice none 0 0, .int .i64 0] 31) = w0 := ⟨_, rfl⟩
  have hI0 : ChIn W w no w0 no av ⟨Ap, cp, V, Av, cv, C, Ac, cc⟩ S ⟨k0, a0, b0, c0, ⟨qr, qw, ql, qb⟩⟩ w.heap.size (w.heap.size + 1) (w.heap.size + 1 + 1) := hw0 ▸ hI
  obtain ⟨bs, hbs⟩ : ∃ bs, w.heap.size = bs := ⟨_, rfl⟩
  obtain ⟨bc, hbc⟩ : ∃ bc, bs + 1 = bc := ⟨_, rfl⟩
  obtain ⟨br, hbr⟩ : ∃ br, bc + 1 = br := ⟨_, rfl⟩
  rw [hbs, hbc, hbr] at hI0
  have HI := hide hI0
  have HN := hide (And.intro hbs (And.intro hbc hbr))
  have HW := hide hw0
  have hCH := dvol_calls w0 (bs :: bc :: br :: av) ⟨Ap, cp, V, Av, cv, C, Ac, cc⟩ S S.nx a0 hI0.dd.dm (by simp only []; omega)
  have s0 := hI0.ds.cell 0
  have s1 := hI0.ds.cell 1
  have s2 := hI0.ds.cell 2
  have s3 := hI0.ds.cell 3
  have c1 := hI0.dc.cell 1
  simp only [DV.cells, Cmd.cells, List.getElem?_cons_succ, List.getElem?_cons_zero] at s0 s1 s2 s3 c1
  unfold DV.val DV.cells at hCH
  simp only [] at hCH
  have HCH := hide hCH
  unfold ChOut18 DV.val DV.cells Cmd.val Cmd.cells
  simp only []
  clear h hbW ho hI hI0 hCH hw0 hq hbs hbc hbr
  subst hk
  go_enter Tryz.func20, Tryz.ntmps20
  go_upto_region 1 with fail
  rw [HW.out, HN.out.1, HN.out.2.1, HN.out.2.2]
  go_wp2_with fail
  refine HCH.out.mono ?_
  rintro e w1 ⟨i, rfl, hat, hb1⟩
  have HI1 := hide (HI.out.below hb1)
  have HAT := hide hat
  clear s0 s1 s2 s3 c1 HCH hb1 hat
  have kc := HI1.out.dc.cell 0
  have k1 := HI1.out.dc.cell 1
  have k2 := HI1.out.dc.cell 2
  have k3 := HI1.out.dc.cell 3
  have k4 := HI1.out.dc.cell 4
  have k5 := HI1.out.dc.cell 5
  have k6 := HI1.out.dc.cell 6
  have k7 := HI1.out.dc.cell 7
  simp only [Cmd.cells, List.getElem?_cons_succ, List.getElem?_cons_zero] at kc k1 k2 k3 k4 k5 k6 k7
  have HCQ := hide (dchunkq_calls W w1 no (bs :: bc :: br :: av) ⟨Ap, cp, V, Av, cv, C, Ac, cc⟩ S n ⟨7, a0, b0, c0, ⟨qr, qw, ql, qb⟩⟩ HI1.out.dd HI1.out.bW HO.out HQ.out (by simp) hn (by simp only []; omega))
  unfold ChOut18 DV.val DV.cells Cmd.val Cmd.cells at HCQ
  simp only [] at HCQ
  have e0 := HI1.out.ds.cell 0
  have e1 := HI1.out.ds.cell 1
  have e2 := HI1.out.ds.cell 2
  have e3 := HI1.out.ds.cell 3
  simp only [DV.cells, List.getElem?_cons_succ, List.getElem?_cons_zero] at e0 e1 e2 e3
  clear HAT
  go_wp2_with fail
  refine HCQ.out.mono ?_
  rintro e w2 ⟨⟨A1, c1, V1, B1, d1, C1, D1, e1'⟩, rfl, ⟨no', av', hD, hn', ha'⟩, hW2, hC2⟩
  have HRT := hide (HI1.out.retF hD hn' ha' (a0 := av) (fun z hz => hz) hW2 hC2)
  have HQ0 : Hid (S.act ⟨7, a0, b0, c0, ⟨qr, qw, ql, qb⟩⟩ = S.chunkQ ⟨7, a0, b0, c0, ⟨qr, qw, ql, qb⟩⟩) := hide (act6 (by simp))
  obtain ⟨R, hR⟩ : ∃ R, S.chunkQ ⟨7, a0, b0, c0, ⟨qr, qw, ql, qb⟩⟩ = R := ⟨_, rfl⟩
  rw [hR] at HRT HQ0 ⊢
  have r0' := HRT.out.1.cell 0
  have r1' := HRT.out.1.cell 1
  have r2' := HRT.out.1.cell 2
  have r3' := HRT.out.1.cell 3
  have rf' := HRT.out.1.frozen
  simp only [List.getElem?_cons_succ, List.getElem?_cons_zero] at r0' r1' r2' r3'
  clear hR hD hn' ha' hW2 hC2 e0 e1 e2 e3 kc k1 k2 k3 k4 k5 k6 k7 HCQ
  go_wp2
  refine bodyPost_ret (v := .tuple #[.agg #[.slice A1 16 c1, .slice B1 V1.length d1, .slice D1 C1.length e1', .int .i64 R.1.nx], .int .i64 R.2]) (by simp [results, Tryz.results20, go_sem, r0', r1', r2', r3']) rfl ?_
  rw [HQ0.out]
  exact ⟨⟨A1, c1, V1, B1, d1, C1, D1, e1'⟩, rfl, (HRT.out.2 _ _ _ _).1, (HRT.out.2 _ _ _ _).2⟩
set_option maxHeartbeats 8000000 in
set_option maxRecDepth 100000 in
theorem do8_calls (W w : World) (no av : List Nat) (x : DV) (S : Vst) (n : Nat) (q : Cmd) (h : DO W w no av x S) (hbW : Below W.heap.size W w) (ho : VOk S n) (hn : n ≤ 1000) (hq : q.ok) (hk : q.k = 8) (hl : x.V.length ≤ 900) (hlc : x.C.length ≤ 90000) :
    Calls Tryz.prog 20 #[x.val S.nx, q.val] w fun e w' => ChOut18 W w no av w' S (S.act q) e := by
  obtain ⟨i1, hi1, hp0, hp1, hp2⟩ := info_parts Tryz.infoI3
  have HO := hide ho
  have HQ := hide hq
  have hI := ChIn.start h hbW q
  obtain ⟨k0, a0, b0, c0, ⟨qr, qw, ql, qb⟩⟩ := q
  simp only [] at hk hq
  obtain ⟨Ap, cp, V, Av, cv, C, Ac, cc⟩ := x
  simp only [] at hl hlc
  simp only [DV.cells, Cmd.cells] at hI
  obtain ⟨w0, hw0⟩ : ∃ w0, ((w.alloc (.cells #[.slice Ap 16 cp, .slice Av V.length cv, .slice Ac C.length cc, .int .i64 S.nx] 31)).alloc (.cells #[.int .i64 k0, .int .i64 a0, .int .i64 b0, .int .i64 c0, .int .i64 qr, .int .i64 qw, .int .i64 ql, .int .i64 qb] 38)).alloc (.cells #[.slice none 0 0, .slice none 0 0, .slice none 0 0, .int .i64 0] 31) = w0 := ⟨_, rfl⟩
  have hI0 : ChIn W w no w0 no av ⟨Ap, cp, V, Av, cv, C, Ac, cc⟩ S ⟨k0, a0, b0, c0, ⟨qr, qw, ql, qb⟩⟩ w.heap.size (w.heap.size + 1) (w.heap.size + 1 + 1) := hw0 ▸ hI
  obtain ⟨bs, hbs⟩ : ∃ bs, w.heap.size = bs := ⟨_, rfl⟩
  obtain ⟨bc, hbc⟩ : ∃ bc, bs + 1 = bc := ⟨_, rfl⟩
  obtain ⟨br, hbr⟩ : ∃ br, bc + 1 = br := ⟨_, rfl⟩
  rw [hbs, hbc, hbr] at hI0
  have HI := hide hI0
  have HN := hide (And.intro hbs (And.intro hbc hbr))
  have HW := hide hw0
  have hCH := dvol_calls w0 (bs :: bc :: br :: av) ⟨Ap, cp, V, Av, cv, C, Ac, cc⟩ S S.nx a0 hI0.dd.dm (by simp only []; omega)
  have s0 := hI0.ds.cell 0
  have s1 := hI0.ds.cell 1
  have s2 := hI0.ds.cell 2
  have s3 := hI0.ds.cell 3
  have c1 := hI0.dc.cell 1
  simp only [DV.cells, Cmd.cells, List.getElem?_cons_succ, List.getElem?_cons_zero] at s0 s1 s2 s3 c1
  unfold DV.val DV.cells at hCH
  simp only [] at hCH
  have HCH := hide hCH
  unfold ChOut18 DV.val DV.cells Cmd.val Cmd.cells
  simp only []
  clear h hbW ho hI hI0 hCH hw0 hq hbs hbc hbr
  subst hk
  go_enter Tryz.func20, Tryz.ntmps20
  go_upto_region 1 with fail
  rw [HW.out, HN.out.1, HN.out.2.1, HN.out.2.2]
  go_wp2_with fail
  refine HCH.out.mono ?_
  rintro e w1 ⟨i, rfl, hat, hb1⟩
  have HI1 := hide (HI.out.below hb1)
  have HAT := hide hat
  clear s0 s1 s2 s3 c1 HCH hb1 hat
  have kc := HI1.out.dc.cell 0
  have k1 := HI1.out.dc.cell 1
  have k2 := HI1.out.dc.cell 2
  have k3 := HI1.out.dc.cell 3
  have k4 := HI1.out.dc.cell 4
  have k5 := HI1.out.dc.cell 5
  have k6 := HI1.out.dc.cell 6
  have k7 := HI1.out.dc.cell 7
  simp only [Cmd.cells, List.getElem?_cons_succ, List.getElem?_cons_zero] at kc k1 k2 k3 k4 k5 k6 k7
  have HCQ := hide (dchunkq_calls W w1 no (bs :: bc :: br :: av) ⟨Ap, cp, V, Av, cv, C, Ac, cc⟩ S n ⟨8, a0, b0, c0, ⟨qr, qw, ql, qb⟩⟩ HI1.out.dd HI1.out.bW HO.out HQ.out (by simp) hn (by simp only []; omega))
  unfold ChOut18 DV.val DV.cells Cmd.val Cmd.cells at HCQ
  simp only [] at HCQ
  have e0 := HI1.out.ds.cell 0
  have e1 := HI1.out.ds.cell 1
  have e2 := HI1.out.ds.cell 2
  have e3 := HI1.out.ds.cell 3
  simp only [DV.cells, List.getElem?_cons_succ, List.getElem?_cons_zero] at e0 e1 e2 e3
  clear HAT
  go_wp2_with fail
  refine HCQ.out.mono ?_
  rintro e w2 ⟨⟨A1, c1, V1, B1, d1, C1, D1, e1'⟩, rfl, ⟨no', av', hD, hn', ha'⟩, hW2, hC2⟩
  have HRT := hide (HI1.out.retF hD hn' ha' (a0 := av) (fun z hz => hz) hW2 hC2)
  have HQ0 : Hid (S.act ⟨8, a0, b0, c0, ⟨qr, qw, ql, qb⟩⟩ = S.chunkQ ⟨8, a0, b0, c0, ⟨qr, qw, ql, qb⟩⟩) := hide (act6 (by simp))
  obtain ⟨R, hR⟩ : ∃ R, S.chunkQ ⟨8, a0, b0, c0, ⟨qr, qw, ql, qb⟩⟩ = R := ⟨_, rfl⟩
  rw [hR] at HRT HQ0 ⊢
  have r0' := HRT.out.1.cell 0
  have r1' := HRT.out.1.cell 1
  have r2' := HRT.out.1.cell 2
  have r3' := HRT.out.1.cell 3
  have rf' := HRT.out.1.frozen
  simp only [List.getElem?_cons_succ, List.getElem?_cons_zero] at r0' r1' r2' r3'
  clear hR hD hn' ha' hW2 hC2 e0 e1 e2 e3 kc k1 k2 k3 k4 k5 k6 k7 HCQ
  go_wp2
  refine bodyPost_ret (v := .tuple #[.agg #[.slice A1 16 c1, .slice B1 V1.length d1, .slice D1 C1.length e1', .int .i64 R.1.nx], .int .i64 R.2]) (by simp [results, Tryz.results20, go_sem, r0', r1', r2', r3']) rfl ?_
  rw [HQ0.out]
  exact ⟨⟨A1, c1, V1, B1, d1, C1, D1, e1'⟩, rfl, (HRT.out.2 _ _ _ _).1, (HRT.out.2 _ _ _ _).2⟩
theorem do_calls (W w : World) (no av : List Nat) (x : DV) (S : Vst) (n : Nat) (q : Cmd) (h : DO W w no av x S) (hbW : Below W.heap.size W w) (ho : VOk S n) (hi : VIn S) (hn : n ≤ 1000) (hq : q.ok) (hk : 1 ≤ q.k ∧ q.k ≤ 8) (hl : x.V.length ≤ 900) (hlc : x.C.length ≤ 90000) :
    Calls Tryz.prog 20 #[x.val S.nx, q.val] w fun e w' => ChOut18 W w no av w' S (S.act q) e := by
  have : q.k = 1 ∨ q.k = 2 ∨ q.k = 3 ∨ q.k = 4 ∨ q.k = 5 ∨ q.k = 6 ∨ q.k = 7 ∨ q.k = 8 := by omega
  rcases this with h1 | h1 | h1 | h1 | h1 | h1 | h1 | h1
  · exact do1_calls W w no av x S n q h hbW ho hq h1 (by omega) (by omega)
  · exact do2_calls W w no av x S n q h hbW ho hn hq h1 hl hlc
  · exact do3_calls W w no av x S n q h hbW ho hn hq h1 (by omega) (by omega)
  · exact do4_calls W w no av x S n q h hbW ho hi hn hq h1 hl hlc
  · exact do5_calls W w no av x S n q h hbW ho hn hq h1 (by omega) (by omega)
  · exact do6_calls W w no av x S n q h hbW ho hn hq h1 hl hlc
  · exact do7_calls W w no av x S n q h hbW ho hn hq h1 hl hlc
  · exact do8_calls W w no av x S n q h hbW ho hn hq h1 hl hlc
end Go.Proofs.YtcgecalbgkkinaaGreat
