/- One text of: Ds9 Ref2 Dsa Dsb. -/
import Derived.Test.YtcgecalbgkkinaaGreatQDs8
import Derived.Test.YtcgecalbgkkinaaGreatQRef
namespace Go.Proofs.YtcgecalbgkkinaaGreat
open Go.ChangeShapes Go.WideShapes Go.ChangeAt Go.RowKit Go.Joins Go.Deep Go.Maps
set_option linter.unusedVariables false
set_option linter.unusedSimpArgs false
theorem zA38 {α : Type} (l : List α) (i : Nat) (a : α) : l.toArray.setIfInBounds i a = (l.set i a).toArray := by simp
theorem zB38 {α : Type} (x a : α) (l : List α) : (x :: l).set 0 a = a :: l := rfl
theorem zC38 {α : Type} (x a : α) (l : List α) (n : Nat) : (x :: l).set (n + 1) a = x :: l.set n a := rfl

theorem pick_ins {S : Vst} (h : Rise Prod.fst S.sv) (x : Int × Int) (j : Int) : ({ S with sv := ins Prod.fst x S.sv } : Vst).pick j = if j = x.1 then x.2 else S.pick j := by
  unfold Vst.pick
  simp only []
  rw [fd_ins h]
  by_cases e : j = x.1
  · rw [if_pos e, if_pos e]
  · rw [if_neg e, if_neg e]
theorem picks_ins {S : Vst} (h : Rise Prod.fst S.sv) (k : Nat) (hk : k < 16) (z : Int) : ({ S with sv := ins Prod.fst ((k : Int), z) S.sv } : Vst).picks = S.picks.set k (.int .i64 z) := by
  apply List.ext_getElem?
  intro i
  rw [List.getElem?_set]
  unfold Vst.picks
  by_cases hi : i < 16
  · simp only [List.getElem?_map, List.getElem?_range hi, Option.map_some, List.length_map, List.length_range, pick_ins h]
    by_cases e : k = i
    · subst e
      simp [hk]
    · have e2 : ¬ ((i : Int) = (k : Int)) := by omega
      simp [e, e2]
  · have h1 : ∀ f : Nat → Value, ((List.range 16).map f)[i]? = none := fun f => List.getElem?_eq_none (by simp; omega)
    rw [h1, h1, if_neg (by omega)]
theorem flatC_setPart {α : Type} {f : α → List Value} {n : Nat} (hf : ∀ x, (f x).length = n) (L : List α) (k : Nat) (hk : k < L.length) (y : α) (j : Nat) (cs : List Value) (hj : j + cs.length ≤ n) (hy : setAt (f L[k]) j cs = f y) : setAt (flatC f L) (k * n + j) cs = flatC f (L.set k y) := by
  have hl := flatC_length hf L
  have hn : k * n + n ≤ L.length * n := by
    have := Nat.mul_le_mul_right n (Nat.succ_le_of_lt hk)
    rw [Nat.succ_mul] at this
    exact this
  apply List.ext_getElem?
  intro i
  rw [setAt_get _ _ _ _ (by rw [hl]; omega)]
  by_cases hi : i < L.length * n
  · rcases Nat.eq_zero_or_pos n with h0 | h0
    · subst h0; omega
    · have hq : i / n < L.length := Nat.div_lt_of_lt_mul (by rw [Nat.mul_comm]; exact hi)
      have hr : i % n < n := Nat.mod_lt _ h0
      have e : i / n * n + i % n = i := by rw [Nat.mul_comm]; exact Nat.div_add_mod i n
      have h1 := flatC_get hf (L.set k y) (i / n) (i % n) (by simpa using hq) hr
      have h2 := flatC_get hf L (i / n) (i % n) hq hr
      rw [e] at h1 h2
      rw [h1]
      by_cases hc : i / n = k
      · have hyr := setAt_get cs (f L[k]) j (i % n) (by rw [hf]; exact hj)
        rw [hy] at hyr
        have e2 : (L.set k y)[i / n]'(by simpa using hq) = y := by simp [List.getElem_set, hc]
        have e3 : L[i / n] = L[k] := by simp only [hc]
        have e4 : k * n + i % n = i := by rw [← hc]; exact e
        rw [e2, hyr, h2, e3]
        by_cases hm : j ≤ i % n ∧ i % n < j + cs.length
        · rw [if_pos hm, if_pos (by omega), show i - (k * n + j) = i % n - j by omega]
        · rw [if_neg hm, if_neg (by omega)]
      · rw [if_neg, h2]
        · simp [List.getElem_set, Ne.symm hc]
        · rintro ⟨h3, h4⟩
          apply hc
          have a1 : k ≤ i / n := (Nat.le_div_iff_mul_le h0).2 (by omega)
          have a2 : i / n < k + 1 := Nat.div_lt_of_lt_mul (by rw [Nat.mul_comm, Nat.succ_mul]; omega)
          omega
  · rw [if_neg (by omega), List.getElem?_eq_none (by omega), List.getElem?_eq_none (by rw [flatC_length hf, List.length_set]; omega)]
section
variable {W v0 w wr w' : World} {n0 no av : List Nat} {x x' : DV} {S S' : Vst} {q : Cmd} {bs bc br g : Nat}
theorem DO.setVp (h : DO W w no av x S) {k g : Nat} (hk : k < x.V.length) (hg : x.Av = some ⟨g, 0, none⟩) (y : VoM) (j : Nat) (cs : List Value) (hj : j + cs.length ≤ 8) (he : setAt x.V[k].cells j cs = y.cells) (hy : Sl w av y.A y.c y.v.ch) :
    DO W (setAtW w g (k * 8 + j) cs) no av { x with V := x.V.set k y } { S with vs := S.vs.set k y.v } ∧ Chg [g] w (setAtW w g (k * 8 + j) cs) ∧ g ∈ no ∧ W.heap.size ≤ g := by
  have hc := setAtW_chg cs w g (k * 8 + j)
  have hV : 0 < x.V.length := by omega
  obtain ⟨g', e, hgn, hgW, ho⟩ := h.ov.2 hV
  rw [hg] at e
  cases e
  have hin : ∀ z ∈ [g], z ∈ av ∨ w.heap.size ≤ z := fun z hz => Or.inl (by rw [List.mem_singleton.1 hz]; exact h.sub _ hgn)
  refine ⟨⟨?_, h.eC, fun z hz => ?_, fun z hz => ⟨(h.sC z hz).1.chg hc hin, (h.sC z hz).2.chg hc hin⟩, fun z hz => Nat.lt_of_lt_of_le (h.lt z hz) hc.size, h.sub, ?_, ?_, ?_⟩, hc, hgn, hgW⟩
  · rw [List.map_set, h.eV]
  · rcases List.mem_or_eq_of_mem_set hz with hz | rfl
    · exact (h.sV z hz).chg hc hin
    · exact hy.chg hc hin
  · exact h.op.chg hc (fun g2 e2 hm => by
      have := h.ov.ne h.op (by decide) hV (by omega) hg
      rw [e2] at this
      simpa using fun e => this (by rw [e]))
  · refine ⟨by rw [flatC_length voLen, List.length_set], fun _ => ⟨g, hg, hgn, hgW, ?_⟩⟩
    rw [hg] at ho ⊢
    rw [← flatC_setPart voLen x.V k hk y j cs hj he, List.length_set]
    exact own_setAt cs ho hV (by have := Nat.mul_le_mul_right 8 (Nat.succ_le_of_lt hk); rw [Nat.succ_mul] at this; omega)
  · exact h.oc.chg hc (fun g2 e2 hm => by
      have := h.ov.ne h.oc (by decide) hV hm hg
      rw [e2] at this
      simpa using fun e => this (by rw [e]))
theorem OwnA.frz {t : TypeId} {n m c g : Nat} {A : Option Addr} {news : List Value} (h : OwnA W w no t n A m c news) (hm : 0 < m) (e : A = some ⟨g, 0, none⟩) : ∀ w', Below w.heap.size w w' → ∀ i, w'.frozen? ⟨g, i, none⟩ = false := by
  intro w' hb i
  obtain ⟨g', e', _, _, ho⟩ := h.2 hm
  rw [e] at e'
  cases e'
  subst e
  rcases ho.2 with ⟨x, _⟩ | ⟨g', cap, cur, e, _, hgg, _⟩
  · cases x
  · cases e
    have : w'.heap[g]? = some (.cells cur t) := (hb.block g (heap_lt hgg)).trans hgg
    simp [World.frozen?, this]
/-- one of its own blocks turned -/
theorem ChIn.step (h : ChIn W v0 n0 wr no av x S q bs bc br) (hd : DO W w' no (bs :: bc :: br :: av) x' S') (hc : Chg [g] wr w') (hg : g ∈ no) (hgW : W.heap.size ≤ g) (hx : x'.cells S'.nx = x.cells S.nx) : ChIn W v0 n0 w' no av x' S' q bs bc br := by
  have o := h.out
  refine ⟨?_, h.dc.chg hc (fun hx => ?_), h.dr.chg hc (fun hx => ?_), hd, h.out, h.ne, h.ge, Chg.onto h.bW h.bW.size hc (fun z hz => by rw [List.mem_singleton.1 hz]; exact hgW), h.cg.trans hc (fun z hz => by rw [List.mem_singleton.1 hz]; exact h.nn _ hg), h.nn, h.gf⟩
  · rw [hx]
    exact h.ds.chg hc (fun hx => o.1 (by rw [List.mem_singleton.1 hx]; exact hg))
  · exact o.2.1 (by rw [List.mem_singleton.1 hx]; exact hg)
  · exact o.2.2 (by rw [List.mem_singleton.1 hx]; exact hg)
end
/-- where the volume stands -/
theorem act1 {S : Vst} {q : Cmd} (h : q.k = 1) : S.act q = S.server q := by unfold Vst.act; rw [if_pos h]
theorem act5 {S : Vst} {q : Cmd} (h : q.k = 5) : S.act q = S.policy q := by unfold Vst.act; rw [if_neg (by omega), if_neg (by omega), if_neg (by omega), if_neg (by omega), if_pos h]
set_option maxHeartbeats 8000000 in
set_option maxRecDepth 100000 in
theorem do1_calls (W w : World) (no av : List Nat) (x : DV) (S : Vst) (n : Nat) (q : Cmd) (h : DO W w no av x S) (hbW : Below W.heap.size W w) (ho : VOk S n) (hq : q.ok) (hk : q.k = 1) (hl : x.V.length ≤ 1000) (hlc : x.C.length ≤ 100000) :
    Calls Tryz.prog 20 #[x.val S.nx, q.val] w fun e w' => ChOut18 W w no av w' S (S.act q) e := by
  obtain ⟨i1, hi1, hp0, hp1, hp2⟩ := info_parts Tryz.infoI3
  have HO := hide ho
  have HQ := hide hq
  have hI := ChIn.start h hbW q
  obtain ⟨k0, a0, b0, c0, ⟨qr, qw, ql, qb⟩⟩ := q
  simp only [] at hk hq
  obtain ⟨Ap, cp, V, Av, cv, C, Ac, cc⟩ := x
  simp only [] at hl hlc
  simp only [DV.cells, Cmd.cells] at hI
  obtain ⟨w0, hw0⟩ : ∃ w0, ((w.alloc (.cells #[.slice Ap 16 cp, .slice Av V.length cv, .slice Ac C.length cc, .int .i64 S.nx] 31)).alloc (.cells #[.int .i64 k0, .int .i64 a0, .int .i64 b0, .int .i64 c0, .int .i64 qr, .int .i64 qw, .int .i64 ql, .int .i64 qb] 38)).alloc (.cells #[.slice none 0 0, .slice none 0 0, .slice none 0 0, .int .i64 0] 31) = w0 := ⟨_, rfl⟩
  have hI0 : ChIn W w no w0 no av ⟨Ap, cp, V, Av, cv, C, Ac, cc⟩ S ⟨k0, a0, b0, c0, ⟨qr, qw, ql, qb⟩⟩ w.heap.size (w.heap.size + 1) (w.heap.size + 1 + 1) := hw0 ▸ hI
  obtain ⟨bs, hbs⟩ : ∃ bs, w.heap.size = bs := ⟨_, rfl⟩
  obtain ⟨bc, hbc⟩ : ∃ bc, bs + 1 = bc := ⟨_, rfl⟩
  obtain ⟨br, hbr⟩ : ∃ br, bc + 1 = br := ⟨_, rfl⟩
  rw [hbs, hbc, hbr] at hI0
  have HI := hide hI0
  have HN := hide (And.intro hbs (And.intro hbc hbr))
  have HW := hide hw0
  have hCH := dvol_calls w0 (bs :: bc :: br :: av) ⟨Ap, cp, V, Av, cv, C, Ac, cc⟩ S S.nx a0 hI0.dd.dm (by simp only []; omega)
  have s0 := hI0.ds.cell 0
  have s1 := hI0.ds.cell 1
  have s2 := hI0.ds.cell 2
  have s3 := hI0.ds.cell 3
  have c1 := hI0.dc.cell 1
  simp only [DV.cells, Cmd.cells, List.getElem?_cons_succ, List.getElem?_cons_zero] at s0 s1 s2 s3 c1
  unfold DV.val DV.cells at hCH
  simp only [] at hCH
  have HCH := hide hCH
  unfold ChOut18 DV.val DV.cells Cmd.val Cmd.cells
  simp only []
  clear h hbW ho hI hI0 hCH hw0 hq hbs hbc hbr
  subst hk
  go_enter Tryz.func20, Tryz.ntmps20
  go_upto_region 1 with fail
  rw [HW.out, HN.out.1, HN.out.2.1, HN.out.2.2]
  go_wp2_with fail
  refine HCH.out.mono ?_
  rintro e w1 ⟨i, rfl, hat, hb1⟩
  have HI1 := hide (HI.out.below hb1)
  have HAT := hide hat
  clear s0 s1 s2 s3 c1 HCH hb1 hat
  have kc := HI1.out.dc.cell 0
  have k1 := HI1.out.dc.cell 1
  have k2 := HI1.out.dc.cell 2
  have k3 := HI1.out.dc.cell 3
  have k4 := HI1.out.dc.cell 4
  have k5 := HI1.out.dc.cell 5
  have k6 := HI1.out.dc.cell 6
  have k7 := HI1.out.dc.cell 7
  simp only [Cmd.cells, List.getElem?_cons_succ, List.getElem?_cons_zero] at kc k1 k2 k3 k4 k5 k6 k7
  by_cases h1 : a0 < 0
  · skip
    have HQ0 : Hid (S.act ⟨1, a0, b0, c0, ⟨qr, qw, ql, qb⟩⟩ = (S, 1)) := hide (by rw [act1 rfl]; unfold Vst.server; rw [if_neg (by simp only []; omega)])
    have a0' := HI1.out.ds.cell 0
    have a1' := HI1.out.ds.cell 1
    have a2' := HI1.out.ds.cell 2
    have a3' := HI1.out.ds.cell 3
    have r0' := HI1.out.dr.cell 0
    have r1' := HI1.out.dr.cell 1
    have r2' := HI1.out.dr.cell 2
    have r3' := HI1.out.dr.cell 3
    have rf' := HI1.out.dr.frozen
    simp only [DV.cells, List.getElem?_cons_succ, List.getElem?_cons_zero] at a0' a1' a2' a3' r0' r1' r2' r3'
    have HRT := hide (HI1.out.ret (a0 := av) (fun z hz => by first | exact hz | exact List.mem_cons_of_mem _ hz) (A1 := .slice Ap 16 cp) (A2 := .slice Av V.length cv) (A3 := .slice Ac C.length cc) (z := .int .i64 S.nx))
    go_wp2
    refine bodyPost_ret (v := .tuple #[.agg #[.slice Ap 16 cp, .slice Av V.length cv, .slice Ac C.length cc, .int .i64 S.nx], .int .i64 1]) (by simp [results, Tryz.results20, go_sem, r0', r1', r2', r3']) rfl ?_
    rw [HQ0.out]
    exact ⟨⟨Ap, cp, V, Av, cv, C, Ac, cc⟩, rfl, HRT.out.1, HRT.out.2⟩
  · by_cases h2 : 15 < a0
    · skip
      have HQ0 : Hid (S.act ⟨1, a0, b0, c0, ⟨qr, qw, ql, qb⟩⟩ = (S, 1)) := hide (by rw [act1 rfl]; unfold Vst.server; rw [if_neg (by simp only []; omega)])
      have a0' := HI1.out.ds.cell 0
      have a1' := HI1.out.ds.cell 1
      have a2' := HI1.out.ds.cell 2
      have a3' := HI1.out.ds.cell 3
      have r0' := HI1.out.dr.cell 0
      have r1' := HI1.out.dr.cell 1
      have r2' := HI1.out.dr.cell 2
      have r3' := HI1.out.dr.cell 3
      have rf' := HI1.out.dr.frozen
      simp only [DV.cells, List.getElem?_cons_succ, List.getElem?_cons_zero] at a0' a1' a2' a3' r0' r1' r2' r3'
      have HRT := hide (HI1.out.ret (a0 := av) (fun z hz => by first | exact hz | exact List.mem_cons_of_mem _ hz) (A1 := .slice Ap 16 cp) (A2 := .slice Av V.length cv) (A3 := .slice Ac C.length cc) (z := .int .i64 S.nx))
      go_wp2
      refine bodyPost_ret (v := .tuple #[.agg #[.slice Ap 16 cp, .slice Av V.length cv, .slice Ac C.length cc, .int .i64 S.nx], .int .i64 1]) (by simp [results, Tryz.results20, go_sem, r0', r1', r2', r3']) rfl ?_
      rw [HQ0.out]
      exact ⟨⟨Ap, cp, V, Av, cv, C, Ac, cc⟩, rfl, HRT.out.1, HRT.out.2⟩
    · by_cases h3 : b0 < 1
      · skip
        have HQ0 : Hid (S.act ⟨1, a0, b0, c0, ⟨qr, qw, ql, qb⟩⟩ = (S, 1)) := hide (by rw [act1 rfl]; unfold Vst.server; rw [if_neg (by simp only []; omega)])
        have a0' := HI1.out.ds.cell 0
        have a1' := HI1.out.ds.cell 1
        have a2' := HI1.out.ds.cell 2
        have a3' := HI1.out.ds.cell 3
        have r0' := HI1.out.dr.cell 0
        have r1' := HI1.out.dr.cell 1
        have r2' := HI1.out.dr.cell 2
        have r3' := HI1.out.dr.cell 3
        have rf' := HI1.out.dr.frozen
        simp only [DV.cells, List.getElem?_cons_succ, List.getElem?_cons_zero] at a0' a1' a2' a3' r0' r1' r2' r3'
        have HRT := hide (HI1.out.ret (a0 := av) (fun z hz => by first | exact hz | exact List.mem_cons_of_mem _ hz) (A1 := .slice Ap 16 cp) (A2 := .slice Av V.length cv) (A3 := .slice Ac C.length cc) (z := .int .i64 S.nx))
        go_wp2
        refine bodyPost_ret (v := .tuple #[.agg #[.slice Ap 16 cp, .slice Av V.length cv, .slice Ac C.length cc, .int .i64 S.nx], .int .i64 1]) (by simp [results, Tryz.results20, go_sem, r0', r1', r2', r3']) rfl ?_
        rw [HQ0.out]
        exact ⟨⟨Ap, cp, V, Av, cv, C, Ac, cc⟩, rfl, HRT.out.1, HRT.out.2⟩
      · by_cases h4 : 64 < b0
        · skip
          have HQ0 : Hid (S.act ⟨1, a0, b0, c0, ⟨qr, qw, ql, qb⟩⟩ = (S, 1)) := hide (by rw [act1 rfl]; unfold Vst.server; rw [if_neg (by simp only []; omega)])
          have a0' := HI1.out.ds.cell 0
          have a1' := HI1.out.ds.cell 1
          have a2' := HI1.out.ds.cell 2
          have a3' := HI1.out.ds.cell 3
          have r0' := HI1.out.dr.cell 0
          have r1' := HI1.out.dr.cell 1
          have r2' := HI1.out.dr.cell 2
          have r3' := HI1.out.dr.cell 3
          have rf' := HI1.out.dr.frozen
          simp only [DV.cells, List.getElem?_cons_succ, List.getElem?_cons_zero] at a0' a1' a2' a3' r0' r1' r2' r3'
          have HRT := hide (HI1.out.ret (a0 := av) (fun z hz => by first | exact hz | exact List.mem_cons_of_mem _ hz) (A1 := .slice Ap 16 cp) (A2 := .slice Av V.length cv) (A3 := .slice Ac C.length cc) (z := .int .i64 S.nx))
          go_wp2
          refine bodyPost_ret (v := .tuple #[.agg #[.slice Ap 16 cp, .slice Av V.length cv, .slice Ac C.length cc, .int .i64 S.nx], .int .i64 1]) (by simp [results, Tryz.results20, go_sem, r0', r1', r2', r3']) rfl ?_
          rw [HQ0.out]
          exact ⟨⟨Ap, cp, V, Av, cv, C, Ac, cc⟩, rfl, HRT.out.1, HRT.out.2⟩
        · obtain ⟨an, ha⟩ : ∃ an : Nat, a0 = an := ⟨a0.toNat, by omega⟩
          have hQ0 : S.act ⟨1, a0, b0, c0, ⟨qr, qw, ql, qb⟩⟩ = ({ S with sv := ins Prod.fst ((an : Int), b0) S.sv }, 0) := by
            rw [act1 rfl]; unfold Vst.server; rw [if_pos (by simp only []; omega), ha]
          have HQ0 := hide hQ0
          obtain ⟨g, eP, hgn, hgW, hog⟩ := HI1.out.dd.op.2 (by omega)
          simp only [] at eP
          subst eP
          subst ha
          have i1' : (an : Int) < 16 := by omega
          have i2' : an < 16 := by omega
          have s0 := HI1.out.ds.cell 0
          simp only [DV.cells, List.getElem?_cons_succ, List.getElem?_cons_zero] at s0
          obtain ⟨hS, hcg, _, _⟩ := HI1.out.dd.setP (k := an) (g := g) i2' rfl b0 (picks_ins HO.out.svr an i2' b0)
          have hI2 := HI1.out.step hS hcg hgn hgW rfl
          have hpc : ∃ u, w1.cell? ⟨g, an, none⟩ = some u := by
            obtain ⟨bP, oP, eP, hbP, hcP⟩ := HI1.out.dd.dm.atP
            simp only [Option.some.injEq, Addr.mk.injEq] at eP
            obtain ⟨rfl, rfl, _⟩ := eP
            have := hcP w1 (Below.refl _ _) an i2'
            rw [Nat.zero_add] at this
            exact ⟨_, this⟩
          obtain ⟨pu, hpu⟩ := hpc
          have pf : ∀ i, w1.frozen? ⟨g, i, none⟩ = false := by
            intro i
            rcases hog.2 with ⟨x, _⟩ | ⟨g', cap, cur, e, _, hgg, _⟩
            · cases x
            · cases e
              simp [World.frozen?, hgg]
          obtain ⟨w2, hw2⟩ : ∃ w2, w1.setCell ⟨g, an, none⟩ (.int .i64 b0) = w2 := ⟨_, rfl⟩
          rw [hw2] at hI2
          have HI2 := hide hI2
          have HW2 := hide hw2
          clear hQ0 hS hcg hI2 hog hw2
          go_upto_region 47 with fail
          rw [HW2.out]
          clear s0 hpu pf kc k1 k2 k3 k4 k5 k6 k7
          have a0' := HI2.out.ds.cell 0
          have a1' := HI2.out.ds.cell 1
          have a2' := HI2.out.ds.cell 2
          have a3' := HI2.out.ds.cell 3
          have r0' := HI2.out.dr.cell 0
          have r1' := HI2.out.dr.cell 1
          have r2' := HI2.out.dr.cell 2
          have r3' := HI2.out.dr.cell 3
          have rf' := HI2.out.dr.frozen
          simp only [DV.cells, List.getElem?_cons_succ, List.getElem?_cons_zero] at a0' a1' a2' a3' r0' r1' r2' r3'
          have HRT := hide (HI2.out.ret (a0 := av) (fun z hz => by first | exact hz | exact List.mem_cons_of_mem _ hz) (A1 := .slice (some ⟨g, 0, none⟩) 16 cp) (A2 := .slice Av V.length cv) (A3 := .slice Ac C.length cc) (z := .int .i64 S.nx))
          go_wp2
          refine bodyPost_ret (v := .tuple #[.agg #[.slice (some ⟨g, 0, none⟩) 16 cp, .slice Av V.length cv, .slice Ac C.length cc, .int .i64 S.nx], .int .i64 0]) (by simp [results, Tryz.results20, go_sem, r0', r1', r2', r3']) rfl ?_
          rw [HQ0.out]
          exact ⟨⟨(some ⟨g, 0, none⟩), cp, V, Av, cv, C, Ac, cc⟩, rfl, HRT.out.1, HRT.out.2⟩
theorem policy_bad {S : Vst} {q : Cmd} (h : q.p.ok = false) : S.policy q = (S, 1) := by unfold Vst.policy; rw [if_neg (by rw [h]; decide)]
theorem policy_none {S : Vst} {q : Cmd} (h : q.p.ok = true) (hf : fd Vo.id S.vs q.a = none) : S.policy q = (S, 7) := by unfold Vst.policy; rw [if_pos h, hf]
theorem policy_set {S : Vst} {q : Cmd} (h : q.p.ok = true) (hr : Rise Vo.id S.vs) {i : Nat} (hi : i < S.vs.length) {v : Vo} (hv : S.vs[i] = v) (e : v.id = q.a) : S.policy q = ({ S with vs := S.vs.set i { v with p := q.p, ver := v.ver + 1 } }, 0) := by
  have hf : fd Vo.id S.vs q.a = some v := by rw [← e, ← hv]; exact fd_get hr hi
  unfold Vst.policy
  rw [if_pos h, hf]
  simp only []
  rw [ins_set hr hi (by rw [hv])]
set_option maxHeartbeats 8000000 in
set_option maxRecDepth 100000 in
theorem do5_calls (W w : World) (no av : List Nat) (x : DV) (S : Vst) (n : Nat) (q : Cmd) (h : DO W w no av x S) (hbW : Below W.heap.size W w) (ho : VOk S n) (hn : n ≤ 1000) (hq : q.ok) (hk : q.k = 5) (hl : x.V.length ≤ 1000) (hlc : x.C.length ≤ 100000) :
    Calls Tryz.prog 20 #[x.val S.nx, q.val] w fun e w' => ChOut18 W w no av w' S (S.act q) e := by
  obtain ⟨i1, hi1, hp0, hp1, hp2⟩ := info_parts Tryz.infoI3
  have HO := hide ho
  have HQ := hide hq
  have hI := ChIn.start h hbW q
  obtain ⟨k0, a0, b0, c0, ⟨qr, qw, ql, qb⟩⟩ := q
  simp only [] at hk hq
  obtain ⟨Ap, cp, V, Av, cv, C, Ac, cc⟩ := x
  simp only [] at hl hlc
  simp only [DV.cells, Cmd.cells] at hI
  obtain ⟨w0, hw0⟩ : ∃ w0, ((w.alloc (.cells #[.slice Ap 16 cp, .slice Av V.length cv, .slice Ac C.length cc, .int .i64 S.nx] 31)).alloc (.cells #[.int .i64 k0, .int .i64 a0, .int .i64 b0, .int .i64 c0, .int .i64 qr, .int .i64 qw, .int .i64 ql, .int .i64 qb] 38)).alloc (.cells #[.slice none 0 0, .slice none 0 0, .slice none 0 0, .int .i64 0] 31) = w0 := ⟨_, rfl⟩
  have hI0 : ChIn W w no w0 no av ⟨Ap, cp, V, Av, cv, C, Ac, cc⟩ S ⟨k0, a0, b0, c0, ⟨qr, qw, ql, qb⟩⟩ w.heap.size (w.heap.size + 1) (w.heap.size + 1 + 1) := hw0 ▸ hI
  obtain ⟨bs, hbs⟩ : ∃ bs, w.heap.size = bs := ⟨_, rfl⟩
  obtain ⟨bc, hbc⟩ : ∃ bc, bs + 1 = bc := ⟨_, rfl⟩
  obtain ⟨br, hbr⟩ : ∃ br, bc + 1 = br := ⟨_, rfl⟩
  rw [hbs, hbc, hbr] at hI0
  have HI := hide hI0
  have HN := hide (And.intro hbs (And.intro hbc hbr))
  have HW := hide hw0
  have hCH := dvol_calls w0 (bs :: bc :: br :: av) ⟨Ap, cp, V, Av, cv, C, Ac, cc⟩ S S.nx a0 hI0.dd.dm (by simp only []; omega)
  have s0 := hI0.ds.cell 0
  have s1 := hI0.ds.cell 1
  have s2 := hI0.ds.cell 2
  have s3 := hI0.ds.cell 3
  have c1 := hI0.dc.cell 1
  simp only [DV.cells, Cmd.cells, List.getElem?_cons_succ, List.getElem?_cons_zero] at s0 s1 s2 s3 c1
  unfold DV.val DV.cells at hCH
  simp only [] at hCH
  have HCH := hide hCH
  unfold ChOut18 DV.val DV.cells Cmd.val Cmd.cells
  simp only []
  clear h hbW ho hI hI0 hCH hw0 hq hbs hbc hbr
  subst hk
  go_enter Tryz.func20, Tryz.ntmps20
  go_upto_region 1 with fail
  rw [HW.out, HN.out.1, HN.out.2.1, HN.out.2.2]
  go_wp2_with fail
  refine HCH.out.mono ?_
  rintro e w1 ⟨i, rfl, hat, hb1⟩
  have HI1 := hide (HI.out.below hb1)
  have HAT := hide hat
  clear s0 s1 s2 s3 c1 HCH hb1 hat
  have kc := HI1.out.dc.cell 0
  have k1 := HI1.out.dc.cell 1
  have k2 := HI1.out.dc.cell 2
  have k3 := HI1.out.dc.cell 3
  have k4 := HI1.out.dc.cell 4
  have k5 := HI1.out.dc.cell 5
  have k6 := HI1.out.dc.cell 6
  have k7 := HI1.out.dc.cell 7
  simp only [Cmd.cells, List.getElem?_cons_succ, List.getElem?_cons_zero] at kc k1 k2 k3 k4 k5 k6 k7
  obtain ⟨pk, hpk⟩ : ∃ pk, right qr qw ql qb = pk := ⟨_, rfl⟩
  have HPK := hide hpk
  go_wp2_with fail
  refine (rRight_calls qr qw ql qb w1).mono ?_
  rintro e w2 ⟨rfl, hb2⟩
  have HI2 := hide (HI1.out.below hb2)
  rw [hpk]
  clear hpk hb2 kc k1 k2 k3 k4 k5 k6 k7
  cases pk with
  | false =>
    have HQ0 : Hid (S.act ⟨5, a0, b0, c0, ⟨qr, qw, ql, qb⟩⟩ = (S, 1)) := hide (by rw [act5 rfl]; exact policy_bad (q := ⟨5, a0, b0, c0, ⟨qr, qw, ql, qb⟩⟩) HPK.out)
    have a0' := HI2.out.ds.cell 0
    have a1' := HI2.out.ds.cell 1
    have a2' := HI2.out.ds.cell 2
    have a3' := HI2.out.ds.cell 3
    have r0' := HI2.out.dr.cell 0
    have r1' := HI2.out.dr.cell 1
    have r2' := HI2.out.dr.cell 2
    have r3' := HI2.out.dr.cell 3
    have rf' := HI2.out.dr.frozen
    simp only [DV.cells, List.getElem?_cons_succ, List.getElem?_cons_zero] at a0' a1' a2' a3' r0' r1' r2' r3'
    have HRT := hide (HI2.out.ret (a0 := av) (fun z hz => by first | exact hz | exact List.mem_cons_of_mem _ hz) (A1 := .slice Ap 16 cp) (A2 := .slice Av V.length cv) (A3 := .slice Ac C.length cc) (z := .int .i64 S.nx))
    go_wp2
    refine bodyPost_ret (v := .tuple #[.agg #[.slice Ap 16 cp, .slice Av V.length cv, .slice Ac C.length cc, .int .i64 S.nx], .int .i64 1]) (by simp [results, Tryz.results20, go_sem, r0', r1', r2', r3']) rfl ?_
    rw [HQ0.out]
    exact ⟨⟨Ap, cp, V, Av, cv, C, Ac, cc⟩, rfl, HRT.out.1, HRT.out.2⟩
  | true =>
    rcases HAT.out with ⟨hno, rfl⟩ | ⟨at_, hat, hid, rfl⟩
    · have HQ0 : Hid (S.act ⟨5, a0, b0, c0, ⟨qr, qw, ql, qb⟩⟩ = (S, 7)) := hide (by rw [act5 rfl]; exact policy_none (q := ⟨5, a0, b0, c0, ⟨qr, qw, ql, qb⟩⟩) HPK.out hno)
      clear hno HAT
      have a0' := HI2.out.ds.cell 0
      have a1' := HI2.out.ds.cell 1
      have a2' := HI2.out.ds.cell 2
      have a3' := HI2.out.ds.cell 3
      have r0' := HI2.out.dr.cell 0
      have r1' := HI2.out.dr.cell 1
      have r2' := HI2.out.dr.cell 2
      have r3' := HI2.out.dr.cell 3
      have rf' := HI2.out.dr.frozen
      simp only [DV.cells, List.getElem?_cons_succ, List.getElem?_cons_zero] at a0' a1' a2' a3' r0' r1' r2' r3'
      have HRT := hide (HI2.out.ret (a0 := av) (fun z hz => by first | exact hz | exact List.mem_cons_of_mem _ hz) (A1 := .slice Ap 16 cp) (A2 := .slice Av V.length cv) (A3 := .slice Ac C.length cc) (z := .int .i64 S.nx))
      go_wp2
      refine bodyPost_ret (v := .tuple #[.agg #[.slice Ap 16 cp, .slice Av V.length cv, .slice Ac C.length cc, .int .i64 S.nx], .int .i64 7]) (by simp [results, Tryz.results20, go_sem, r0', r1', r2', r3']) rfl ?_
      rw [HQ0.out]
      exact ⟨⟨Ap, cp, V, Av, cv, C, Ac, cc⟩, rfl, HRT.out.1, HRT.out.2⟩
    · have hatV : at_ < V.length := by have := HI2.out.dd.lenV; simp only [] at this; omega
      obtain ⟨y, hy⟩ : ∃ y, V[at_] = y := ⟨_, rfl⟩
      have hyv : S.vs[at_] = y.v := by rw [← hy]; exact HI2.out.dd.dm.getV hatV
      have HQ0 : Hid (S.act ⟨5, a0, b0, c0, ⟨qr, qw, ql, qb⟩⟩ = ({ S with vs := S.vs.set at_ { y.v with p := ⟨qr, qw, ql, qb⟩, ver := y.v.ver + 1 } }, 0)) := hide (by rw [act5 rfl]; exact policy_set (q := ⟨5, a0, b0, c0, ⟨qr, qw, ql, qb⟩⟩) HPK.out HO.out.vsr hat hyv (by rw [← hyv]; exact hid))
      have hver : 1 ≤ y.v.ver ∧ y.v.ver ≤ 1001 := by
        have := HO.out.vsa y.v (by rw [← hyv]; exact List.getElem_mem _)
        omega
      have HVER := hide hver
      have hsl := HI2.out.dd.sV y (by rw [← hy]; exact List.getElem_mem _)
      have HSL := hide hsl
      obtain ⟨g, eV, hgn, hgW, hog⟩ := HI2.out.dd.ov.2 (show 0 < V.length by omega)
      simp only [] at eV
      subst eV
      obtain ⟨⟨vid, vbl, ⟨vr, vw, vl, vb⟩, vver, vch⟩, yA, yc⟩ := y
      obtain ⟨b', o', e', hbb', hcell'⟩ := HI2.out.dd.dm.atV (k := at_) hatV
      simp only [Option.some.injEq, Addr.mk.injEq] at e'
      obtain ⟨rfl, rfl, _⟩ := e'
      have hw := hcell' w2 (Below.refl _ _)
      simp only [Nat.zero_add] at hw
      rw [hy] at hw
      have p2 : w2.cell? ⟨g, at_ * 8 + 2, none⟩ = some (.int .i64 vr) := hw 2 (by omega)
      have p3 : w2.cell? ⟨g, at_ * 8 + 3, none⟩ = some (.int .i64 vw) := hw 3 (by omega)
      have p4 : w2.cell? ⟨g, at_ * 8 + 4, none⟩ = some (.int .i64 vl) := hw 4 (by omega)
      have p5 : w2.cell? ⟨g, at_ * 8 + 5, none⟩ = some (.int .i64 vb) := hw 5 (by omega)
      have pf : ∀ i, w2.frozen? ⟨g, i, none⟩ = false := by
        intro i
        rcases hog.2 with ⟨x, _⟩ | ⟨g', cap, cur, e, _, hgg, _⟩
        · cases x
        · cases e
          simp [World.frozen?, hgg]
      obtain ⟨hS, hcg, _, _⟩ := HI2.out.dd.setVp (k := at_) (g := g) hatV rfl ⟨⟨vid, vbl, ⟨qr, qw, ql, qb⟩, vver, vch⟩, yA, yc⟩ 2 [.int .i64 qr, .int .i64 qw, .int .i64 ql, .int .i64 qb] (by simp) (by simp only []; rw [hy]; rfl) HSL.out
      have hI3 := HI2.out.step hS hcg hgn hgW (by unfold DV.cells; simp only [List.length_set])
      simp only [] at hI3
      obtain ⟨w3, hw3⟩ : ∃ w3, setAtW w2 g (at_ * 8 + 2) [.int .i64 qr, .int .i64 qw, .int .i64 ql, .int .i64 qb] = w3 := ⟨_, rfl⟩
      rw [hw3] at hI3
      have hch3 : ((((w2.setCell ⟨g, at_ * 8 + 2, none⟩ (.int .i64 qr)).setCell ⟨g, at_ * 8 + 2 + 1, none⟩ (.int .i64 qw)).setCell ⟨g, at_ * 8 + 2 + 2, none⟩ (.int .i64 ql)).setCell ⟨g, at_ * 8 + 2 + 3, none⟩ (.int .i64 qb)) = w3 := hw3
      have HI3 := hide hI3
      have HC3 := hide hch3
      have k4 := HI2.out.dc.cell 4
      have k5 := HI2.out.dc.cell 5
      have k6 := HI2.out.dc.cell 6
      have k7 := HI2.out.dc.cell 7
      have z1 := HI2.out.ds.cell 1
      simp only [DV.cells, Cmd.cells, List.getElem?_cons_succ, List.getElem?_cons_zero] at k4 k5 k6 k7 z1
      have kV : (at_ : Int) < V.length := by omega
      clear hS hcg hw3 hch3 hI3 hog hcell' hw hsl hver hyv hid
      go_upto_region 46 with fail
      rw [HC3.out]
      clear p2 p3 p4 p5 pf z1 k4 k5 k6 k7
      have r3 := Below.refl w3.heap.size w3
      have z1 := HI3.out.ds.rule 1 _ rfl
      have zf := HI3.out.dd.ov.frz (g := g) (by simp only [List.length_set]; omega) rfl
      obtain ⟨b', o', e', hbb', hcell'⟩ := HI3.out.dd.dm.atV (k := at_) (by simp only [List.length_set]; omega)
      simp only [Option.some.injEq, Addr.mk.injEq] at e'
      obtain ⟨rfl, rfl, _⟩ := e'
      have hw := fun w' hb => hcell' w' hb 6 (by omega)
      have p6 : ∀ w', Below w3.heap.size w3 w' → w'.cell? ⟨g, at_ * 8 + 6, none⟩ = some (.int .i64 vver) := fun w' hb => by
        have := hw w' hb
        simp only [Nat.zero_add, List.getElem_set_self] at this
        exact this
      simp only [List.length_set] at z1
      have hvw : IntKind.i64.wrap (vver + 1) = vver + 1 := IntWalk.i64_in _ (by have e1 : 1 ≤ vver := HVER.out.1; have e2 : vver ≤ 1001 := HVER.out.2; omega)
      clear hw hcell' hbb'
      refine lxR (fun w' => Below w3.heap.size w3 w') [12] 0 [(2, 0), (0, 1), (2, 2), (2, 3), (0, 4), (2, 5), (2, 6), (2, 7), (0, 8), (2, 9), (2, 10), (2, 11), (3, 12)] #[true, true, true, true, true, true, true, true, true, true, true, true, true] (by kernel_rfl) (by kernel_rfl) (by decide) (by kernel_rfl) (by kernel_rfl) (fun _ _ _ _ _ h => h) (by (exact r3.drew)) (fun hS0 => ?_)
      simp only [List.map_cons, List.map_nil, List.getElem?_toArray, List.getElem?_cons_succ, List.getElem?_cons_zero]
      (apply lxP (by rfl); (focus (intro w; go_simp; (try with_reducible rfl); done)); simp only [Act.put, zA38, zB38, zC38]); (apply lxT (by rfl); (focus (intro w hw; (try dsimp only at hw); go_simp; (try with_reducible rfl); done)); simp only [Act.put, zA38, zB38, zC38]); (iterate 2 ((apply lxP (by rfl); (focus (intro w; go_simp; (try with_reducible rfl); done)); simp only [Act.put, zA38, zB38, zC38]))); (apply lxT (by rfl); (focus (intro w hw; (try dsimp only at hw); go_simp; (try with_reducible rfl); done)); simp only [Act.put, zA38, zB38, zC38]); (iterate 3 ((apply lxP (by rfl); (focus (intro w; go_simp; (try with_reducible rfl); done)); simp only [Act.put, zA38, zB38, zC38]))); (apply lxT (by rfl); (focus (intro w hw; (try dsimp only at hw); go_simp; (try with_reducible rfl); done)); simp only [Act.put, zA38, zB38, zC38]); (iterate 3 ((apply lxP (by rfl); (focus (intro w; go_simp; (try with_reducible rfl); done)); simp only [Act.put, zA38, zB38, zC38]))); (refine lxF (by rfl) ?_; go_simp)
      refine lxN (fun _ => wqD (by kernel_rfl) ?_ _)
      rename_i hunm
      clear hunm
      have hsl3 := HI3.out.dd.sV ⟨⟨vid, vbl, ⟨qr, qw, ql, qb⟩, vver, vch⟩, yA, yc⟩ (List.mem_iff_getElem.2 ⟨at_, by simp only [List.length_set]; omega, by simp only [List.getElem_set_self]⟩)
      obtain ⟨hS, hcg, hgn4, hgW4⟩ := HI3.out.dd.setVp (k := at_) (g := g) (by simp only [List.length_set]; omega) rfl ⟨⟨vid, vbl, ⟨qr, qw, ql, qb⟩, vver + 1, vch⟩, yA, yc⟩ 6 [.int .i64 (vver + 1)] (by simp) (by simp only [List.getElem_set_self]; rfl) hsl3
      have hI4 := (HI3.out.step hS hcg hgn4 hgW4 (by unfold DV.cells; simp only [List.length_set])).below (Below.refl _ _).drew
      obtain ⟨w4, hw4⟩ : ∃ w4, (w3.setCell ⟨g, at_ * 8 + 6, none⟩ (.int .i64 (vver + 1))).drew = w4 := ⟨_, rfl⟩
      have hw4' : (setAtW w3 g (at_ * 8 + 6) [.int .i64 (vver + 1)]).drew = w4 := hw4
      rw [hw4'] at hI4
      simp only [List.set_set] at hI4
      rw [hw4]
      have HI4 := hide hI4
      clear hS hcg hgn4 hgW4 hI4 hw4 hw4' hsl3 z1 zf p6 hvw r3 hS0
      have a0' := HI4.out.ds.cell 0
      have a1' := HI4.out.ds.cell 1
      have a2' := HI4.out.ds.cell 2
      have a3' := HI4.out.ds.cell 3
      have r0' := HI4.out.dr.cell 0
      have r1' := HI4.out.dr.cell 1
      have r2' := HI4.out.dr.cell 2
      have r3' := HI4.out.dr.cell 3
      have rf' := HI4.out.dr.frozen
      simp only [DV.cells, List.length_set, List.getElem?_cons_succ, List.getElem?_cons_zero] at a0' a1' a2' a3' r0' r1' r2' r3'
      have HRT := hide (HI4.out.ret (a0 := av) (fun z hz => by first | exact hz | exact List.mem_cons_of_mem _ hz) (A1 := .slice Ap 16 cp) (A2 := .slice (some ⟨g, 0, none⟩) V.length cv) (A3 := .slice Ac C.length cc) (z := .int .i64 S.nx))
      go_wp2
      refine bodyPost_ret (v := .tuple #[.agg #[.slice Ap 16 cp, .slice (some ⟨g, 0, none⟩) V.length cv, .slice Ac C.length cc, .int .i64 S.nx], .int .i64 0]) (by simp [results, Tryz.results20, go_sem, r0', r1', r2', r3']) rfl ?_
      rw [HQ0.out]
      refine ⟨⟨Ap, cp, V.set at_ ⟨⟨vid, vbl, ⟨qr, qw, ql, qb⟩, vver + 1, vch⟩, yA, yc⟩, some ⟨g, 0, none⟩, cv, C, Ac, cc⟩, ?_, HRT.out.1, HRT.out.2⟩
      simp only [List.length_set]
end Go.Proofs.YtcgecalbgkkinaaGreat

namespace Go.Proofs.YtcgecalbgkkinaaGreat
open Go.RowKit Go.Proofs Go.Maps
set_option linter.unusedVariables false
/-- chunks that are made don't ask for the volumes -/
theorem growN_vs (V : List Vo) : ∀ (n : Nat) (S : Vst) (id : Int) (ch : List Int) (cp : Int), growN n { S with vs := V } id ch cp = ({ (growN n S id ch cp).1 with vs := V }, (growN n S id ch cp).2)
  | 0, S, id, ch, cp => rfl
  | n + 1, S, id, ch, cp => by
    unfold growN
    exact growN_vs V n { S with cs := ins Ck.id ⟨S.nx, id, 1, chosen S.loads (min cp S.sv.length), []⟩ S.cs, nx := S.nx + 1 } id (ch ++ [S.nx]) cp
/-- a volume in its place, with all its chunks -/
theorem grow_in {S : Vst} {v : Vo} {cp : Int} {V : List Vo} {k : Nat} (h : ∀ c : List Int, ins Vo.id { v with ch := c } S.vs = V.set k { v with ch := c }) :
    S.grow v cp = { (growN (lack v.bl v.ch) { S with vs := V } v.id v.ch cp).1 with vs := V.set k { v with ch := (growN (lack v.bl v.ch) { S with vs := V } v.id v.ch cp).2 } } := by
  have g := growN_sv (lack v.bl v.ch) S v.id v.ch cp
  unfold Vst.grow
  rw [growN_vs V]
  simp only []
  rw [g.2.1, h]
theorem create_in {S : Vst} {q : Cmd} {k : Nat} (hk : k ≤ S.vs.length) (h1 : ∀ y ∈ S.vs.take k, y.id < q.a) (h2 : ∀ h : k < S.vs.length, q.a < S.vs[k].id)
    {V : List Vo} (hV : S.vs.take k ++ ⟨q.a, q.b, q.p, 1, []⟩ :: S.vs.drop k = V) :
    S.grow ⟨q.a, q.b, q.p, 1, []⟩ q.c = { (growN (lack q.b []) { S with vs := V } q.a [] q.c).1 with vs := V.set k { (⟨q.a, q.b, q.p, 1, []⟩ : Vo) with ch := (growN (lack q.b []) { S with vs := V } q.a [] q.c).2 } } := by
  refine grow_in (v := ⟨q.a, q.b, q.p, 1, []⟩) (fun c => ?_)
  rw [ins_at (i := k) hk h1 h2, ← hV, List.append_assoc, List.set_append_right _ _ (by rw [List.length_take]; omega), List.length_take, Nat.min_eq_left hk, Nat.sub_self]
  rfl
theorem create_bad {S : Vst} {q : Cmd} (h : ¬ (0 ≤ q.a ∧ q.a ≤ 63 ∧ 1 ≤ q.b ∧ q.b ≤ 512 ∧ 1 ≤ q.c ∧ q.c ≤ 3 ∧ q.p.ok)) : S.create q = (S, 1) := by unfold Vst.create; rw [if_neg h]
theorem create_there {S : Vst} {q : Cmd} (h : 0 ≤ q.a ∧ q.a ≤ 63 ∧ 1 ≤ q.b ∧ q.b ≤ 512 ∧ 1 ≤ q.c ∧ q.c ≤ 3 ∧ q.p.ok) (hf : (fd Vo.id S.vs q.a).isSome = true) : S.create q = (S, 8) := by unfold Vst.create; rw [if_pos h, if_pos hf]
theorem create_few {S : Vst} {q : Cmd} (h : 0 ≤ q.a ∧ q.a ≤ 63 ∧ 1 ≤ q.b ∧ q.b ≤ 512 ∧ 1 ≤ q.c ∧ q.c ≤ 3 ∧ q.p.ok) (hf : fd Vo.id S.vs q.a = none) (hl : S.sv.length < q.c) : S.create q = (S, 7) := by
  unfold Vst.create; rw [if_pos h, hf, if_neg (by simp), if_pos hl]
theorem create_yes {S : Vst} {q : Cmd} (h : 0 ≤ q.a ∧ q.a ≤ 63 ∧ 1 ≤ q.b ∧ q.b ≤ 512 ∧ 1 ≤ q.c ∧ q.c ≤ 3 ∧ q.p.ok) (hf : fd Vo.id S.vs q.a = none) (hl : ¬ S.sv.length < q.c) : S.create q = (S.grow ⟨q.a, q.b, q.p, 1, []⟩ q.c, 0) := by
  unfold Vst.create; rw [if_pos h, hf, if_neg (by simp), if_neg hl]
theorem remove_none {S : Vst} {q : Cmd} (hf : fd Vo.id S.vs q.a = none) : S.remove q = (S, 7) := by unfold Vst.remove; rw [hf]
theorem remove_at {S : Vst} {q : Cmd} (hr : Rise Vo.id S.vs) {i : Nat} (hi : i < S.vs.length) {v : Vo} (hv : S.vs[i] = v) (e : v.id = q.a) :
    S.remove q = ({ S with cs := S.cs.filter fun c => !v.ch.contains c.id, vs := S.vs.take i ++ S.vs.drop (i + 1) }, 0) := by
  have hf : fd Vo.id S.vs q.a = some v := by rw [← e, ← hv]; exact fd_get hr hi
  have ho := out_at hr hi
  unfold Vst.remove
  rw [hf]
  simp only []
  rw [outs_filter, ← ho, hv, e]
theorem resize_bad {S : Vst} {q : Cmd} (h : ¬ (1 ≤ q.b ∧ q.b ≤ 512)) : S.resize q = (S, 1) := by unfold Vst.resize; rw [if_neg h]
theorem resize_none {S : Vst} {q : Cmd} (h : 1 ≤ q.b ∧ q.b ≤ 512) (hf : fd Vo.id S.vs q.a = none) : S.resize q = (S, 7) := by unfold Vst.resize; rw [if_pos h, hf]
theorem resize_at {S : Vst} {q : Cmd} (h : 1 ≤ q.b ∧ q.b ≤ 512) (hr : Rise Vo.id S.vs) {i : Nat} (hi : i < S.vs.length) {v : Vo} (hv : S.vs[i] = v) (e : v.id = q.a) {keep : Nat} (hk : min ((q.b + 7) / 8).toNat v.ch.length = keep)
    {V : List Vo} (hV : S.vs.set i { v with bl := q.b, ch := v.ch.take keep } = V) {cs : List Ck} (hcs : (S.cs.filter fun c => !(v.ch.drop keep).contains c.id) = cs) {cp : Int} (hcp : copiesOf S.cs v.ch = cp) :
    S.resize q = ({ (growN (lack q.b (v.ch.take keep)) ⟨S.sv, V, cs, S.nx⟩ v.id (v.ch.take keep) cp).1 with vs := V.set i { v with bl := q.b, ch := (growN (lack q.b (v.ch.take keep)) ⟨S.sv, V, cs, S.nx⟩ v.id (v.ch.take keep) cp).2 } }, 0) := by
  have hf : fd Vo.id S.vs q.a = some v := by rw [← e, ← hv]; exact fd_get hr hi
  have e1 : v.ch.drop ((q.b + 7) / 8).toNat = v.ch.drop keep := by
    rw [← hk]
    rcases Nat.le_total ((q.b + 7) / 8).toNat v.ch.length with h | h
    · rw [Nat.min_eq_left h]
    · rw [Nat.min_eq_right h, List.drop_of_length_le h, List.drop_of_length_le (Nat.le_refl _)]
  have e2 : v.ch.take ((q.b + 7) / 8).toNat = v.ch.take keep := by
    rw [← hk]
    rcases Nat.le_total ((q.b + 7) / 8).toNat v.ch.length with h | h
    · rw [Nat.min_eq_left h]
    · rw [Nat.min_eq_right h, List.take_of_length_le h, List.take_of_length_le (Nat.le_refl _)]
  unfold Vst.resize
  rw [if_pos h, hf]
  simp only []
  rw [e1, e2, hcp, outs_filter, hcs]
  rw [grow_in (S := { S with cs := cs }) (v := { v with bl := q.b, ch := v.ch.take keep }) (V := V) (k := i) (fun c => by
    simp only []
    rw [ins_set hr hi (by rw [hv]), ← hV, List.set_set])]
end Go.Proofs.YtcgecalbgkkinaaGreat

namespace Go.Proofs.YtcgecalbgkkinaaGreat
open Go.ChangeShapes Go.WideShapes Go.ChangeAt Go.RowKit Go.Joins Go.Deep Go.Maps
set_option linter.unusedVariables false
set_option linter.unusedSimpArgs false

/-- append of whatever is read, to a row of one's own -/
theorem app_wpR {P : Program} {o : Oper} {a : Act} {K : Act → World → Prop} {Q : Exit → Act → World → Prop} {w : World} (s x : Operand) (t : TypeId)
    (ho : o.op = .call { callee := .builtin .append, args := #[s, x], argTypes := #[t, t] })
    (e : TypeId) (i : TypeInfo) (z : Value) (size bytes : Nat) (ht : P.underlying t = some (.slice e)) (hi : P.info? e = some i) (hz : i.zero = some z)
    (hsize : i.size = size) (hby : i.bytes = bytes) (hzs : z.cells.size = size) (hsz : 0 < size)
    (g0 n c0 : Nat) (xs : List Value) (hs : a.eval s = .slice (some ⟨g0, 0, none⟩) n c0) (hown : w.ownsRow 0 e size (.slice (some ⟨g0, 0, none⟩) n c0) n xs)
    (A : Option Addr) (m c B : Nat) (news : List Value) (hx : a.eval x = .slice A m c) (hR : Reads w B size A m news) (h1 : ∀ u ∈ news, u.oneCell' = true)
    (h63 : n + m ≤ maxLen) (hbytes : (n + m) * bytes ≤ 140737488355328)
    (h : ∀ g cap w', w'.ownsRow 0 e size (.slice (some ⟨g, 0, none⟩) (n + m) cap) (n + m) (xs ++ news) → Chg [g0] w w' → (g0 = g ∨ g = w.heap.size) → g < w'.heap.size →
      K (a.put o.dst (.slice (some ⟨g, 0, none⟩) (n + m) cap)) w') : o.wp P a w K Q := by
  rcases Nat.eq_zero_or_pos m with h0 | h0
  · subst h0
    have hn : news = [] := List.eq_nil_of_length_eq_zero (by simpa using hR.1)
    subst hn
    obtain ⟨A2, c2, e2, hle, _, _, _, _⟩ := own_view hown
    cases e2
    have hsrc : Src P i.size t (.slice A 0 c) 0 [] w := by
      cases A with
      | none => exact Src.ofNil w ht c
      | some a => exact Src.ofSlice w ht a 0 c [] (by simp) (by simp) (by simp)
    have hr := run_append_nothing w t t o.type e i ht hi (some ⟨g0, 0, none⟩) n c0 hle _ hsrc
    unfold Oper.wp execOp
    simp only [ho, resolve, invoke, builtin, Sem.run_bind, Sem.run_pure, Result.andThen_ok, List.map_toArray, List.map_cons, List.map_nil, hs, hx, hr]
    exact h g0 c0 w (by simpa using hown) (Chg.refl _ _) (Or.inl rfl) (own_lt hown rfl)
  · obtain ⟨b, o', rfl, _, hc⟩ := hR.at_ h0
    refine wp_append_lies w s x t ho 0 e i z size bytes ht hi hz hsize hby hzs hsz _ n xs hs hown ⟨b, o', none⟩ m c news hx hR.1 (fun j u hu => by rw [add_addr]; exact hc j u hu) h1 h0 h63 hbytes (Nat.zero_le _) _ rfl
      fun g cap w' h2 h3 h4 h5 => h g cap w' h2 (Chg.of_grown h3) (by simpa [Value.ownBlock] using h4) h5
theorem app_lawR {P : Program} {ops : Array Oper} {rest : List Oper} {o : Oper} {a : Act} {Q : Exit → Act → World → Prop} {w : World} (hgd : o.guard = none) (s x : Operand) (t : TypeId)
    (ho : o.op = .call { callee := .builtin .append, args := #[s, x], argTypes := #[t, t] })
    (e : TypeId) (i : TypeInfo) (z : Value) (size bytes : Nat) (ht : P.underlying t = some (.slice e)) (hi : P.info? e = some i) (hz : i.zero = some z)
    (hsize : i.size = size) (hby : i.bytes = bytes) (hzs : z.cells.size = size) (hsz : 0 < size)
    (g0 n c0 : Nat) (xs : List Value) (hs : a.eval s = .slice (some ⟨g0, 0, none⟩) n c0) (hown : w.ownsRow 0 e size (.slice (some ⟨g0, 0, none⟩) n c0) n xs)
    (A : Option Addr) (m c B : Nat) (news : List Value) (hx : a.eval x = .slice A m c) (hR : Reads w B size A m news) (h1 : ∀ u ∈ news, u.oneCell' = true)
    (h63 : n + m ≤ maxLen) (hbytes : (n + m) * bytes ≤ 140737488355328)
    (h : ∀ g cap w', w'.ownsRow 0 e size (.slice (some ⟨g, 0, none⟩) (n + m) cap) (n + m) (xs ++ news) → Chg [g0] w w' → (g0 = g ∨ g = w.heap.size) → g < w'.heap.size →
      wpList P ops Q rest (a.put o.dst (.slice (some ⟨g, 0, none⟩) (n + m) cap)) w') : wpList P ops Q (o :: rest) a w :=
  wpList_plain hgd fun _ hK => app_wpR s x t ho e i z size bytes ht hi hz hsize hby hzs hsz g0 n c0 xs hs hown A m c B news hx hR h1 h63 hbytes fun g cap w' h2 h3 h4 h5 => hK _ _ (h g cap w' h2 h3 h4 h5)
theorem flatC_take {α : Type} {f : α → List Value} {n : Nat} (hf : ∀ x, (f x).length = n) : ∀ (L : List α) (k : Nat), flatC f (L.take k) = (flatC f L).take (k * n)
  | L, 0 => by simp [flatC]
  | [], k + 1 => by simp [flatC]
  | x :: t, k + 1 => by
    have h : (k + 1) * n = (f x).length + k * n := by rw [hf, Nat.succ_mul]; omega
    simp only [List.take_succ_cons, flatC]
    rw [h, List.take_length_add_append, flatC_take hf t k]
theorem flatC_drop {α : Type} {f : α → List Value} {n : Nat} (hf : ∀ x, (f x).length = n) : ∀ (L : List α) (k : Nat), flatC f (L.drop k) = (flatC f L).drop (k * n)
  | L, 0 => by simp
  | [], k + 1 => by simp [flatC]
  | x :: t, k + 1 => by
    have h : (k + 1) * n = (f x).length + k * n := by rw [hf, Nat.succ_mul]; omega
    simp only [List.drop_succ_cons, flatC]
    rw [h, List.drop_length_add_append, flatC_drop hf t k]
section
variable {W v0 w wr w' w8 : World} {n0 no av : List Nat} {x x' : DV} {S S' : Vst} {q : Cmd} {bs bc br g : Nat}
/-- other volumes -/
theorem ChIn.newV (h : ChIn W v0 n0 wr no av x S q bs bc br) {V : List VoM} {g c : Nat} {vs : List Vo} (hb : Below wr.heap.size wr w8)
    (ho : w8.ownsRow 0 43 8 (.slice (some ⟨g, 0, none⟩) V.length c) V.length (flatC VoM.cells V)) (hg : wr.heap.size ≤ g)
    (hs : ∀ y ∈ V, y ∈ x.V ∨ (y.A = none ∧ y.v.ch = [])) (hcs : V.map VoM.v = vs) :
    ChIn W v0 n0 (w8.setCell ⟨bs, 1, none⟩ (.slice (some ⟨g, 0, none⟩) V.length c)) (g :: no) (g :: av) { x with V := V, Av := some ⟨g, 0, none⟩, cv := c } { S with vs := vs } q bs bc br := by
  have l1 := h.ds.lt
  have l2 := h.dc.lt
  have l3 := h.dr.lt
  obtain ⟨n1, n2, n3⟩ := h.ne
  have hgl := own_lt ho (g := g) rfl
  have hc : Chg [bs] w8 (w8.setCell ⟨bs, 1, none⟩ (.slice (some ⟨g, 0, none⟩) V.length c)) := (Chg.refl _ _).setCell (Or.inl (by simp)) _
  have hD := h.dd.newV (vs := vs) h.bW.size hb ho hg hgl (fun y hy => by
    rcases hs y hy with hy | ⟨e1, e2⟩
    · exact Or.inl hy
    · rw [e1, e2]; exact Or.inr (Sl.nil _ _ _)) hcs
  have hm : ∀ z ∈ bs :: bc :: br :: g :: av, z ∈ g :: bs :: bc :: br :: av := fun z hz => by
    simp only [List.mem_cons] at hz ⊢
    rcases hz with e | e | e | e | e <;> simp [e]
  have hm' : ∀ z ∈ g :: bs :: bc :: br :: av, z ∈ bs :: bc :: br :: g :: av := fun z hz => by
    simp only [List.mem_cons] at hz ⊢
    rcases hz with e | e | e | e | e <;> simp [e]
  have hD2 := hD.avoid (av' := bs :: bc :: br :: g :: av) (fun z hz => Or.inl (hm z hz)) (fun z hz => hm' z (hD.sub z hz)) (Below.refl _ _) (fun z hz => hD.lt z (hm z hz))
  have ho' := h.out
  refine ⟨?_, (h.dc.below hb).chg hc (by simp; omega), (h.dr.below hb).chg hc (by simp; omega), hD2.chg hc (fun z hz => Or.inl (by rw [List.mem_singleton.1 hz]; exact List.mem_cons_self ..)) (fun z hz hx => ?_), ?_, h.ne, h.ge,
    Chg.onto (h.bW.trans (hb.mono h.bW.size)) (Nat.le_trans h.bW.size hb.size) hc (fun z hz => by rw [List.mem_singleton.1 hz]; exact h.ge.1),
    (h.cg.below hb).trans hc (fun z hz => Or.inr (by rw [List.mem_singleton.1 hz]; exact h.gf.1)), fun z hz => (List.mem_cons.1 hz).elim (fun e => Or.inr (by rw [e]; exact Nat.le_trans h.cg.size hg)) (h.nn z), h.gf⟩
  · have := (h.ds.below hb).set 1 (.slice (some ⟨g, 0, none⟩) V.length c)
    unfold DV.cells at this ⊢
    exact this
  · rw [List.mem_singleton.1 hz] at hx
    rcases List.mem_cons.1 hx with e | hx
    · omega
    · exact ho'.1 hx
  · refine ⟨fun hx => ?_, fun hx => ?_, fun hx => ?_⟩ <;> rcases List.mem_cons.1 hx with e | hx
    · omega
    · exact ho'.1 hx
    · omega
    · exact ho'.2.1 hx
    · omega
    · exact ho'.2.2 hx
/-- other chunks -/
theorem ChIn.newC (h : ChIn W v0 n0 wr no av x S q bs bc br) {C : List CkM} {A : Option Addr} {c : Nat} {cs : List Ck} (hb : Below wr.heap.size wr w8)
    (ho : OwnR 47 5 CkM.cells wr w8 A c C) (hs : ∀ y ∈ C, y ∈ x.C) (hcs : C.map CkM.k = cs) :
    ∃ no' av', ChIn W v0 n0 (w8.setCell ⟨bs, 2, none⟩ (.slice A C.length c)) no' av' { x with C := C, Ac := A, cc := c } { S with cs := cs } q bs bc br ∧ (∀ z ∈ av, z ∈ av') ∧ (∀ z ∈ av', z ∈ av ∨ wr.heap.size ≤ z) ∧ (∀ z ∈ no', z ∈ no ∨ wr.heap.size ≤ z) := by
  have l1 := h.ds.lt
  have l2 := h.dc.lt
  have l3 := h.dr.lt
  obtain ⟨n1, n2, n3⟩ := h.ne
  have ho' := h.out
  have hc : Chg [bs] w8 (w8.setCell ⟨bs, 2, none⟩ (.slice A C.length c)) := (Chg.refl _ _).setCell (Or.inl (by simp)) _
  have hds : Blk (w8.setCell ⟨bs, 2, none⟩ (.slice A C.length c)) bs 31 (DV.cells { x with C := C, Ac := A, cc := c } S.nx) := by
    have := (h.ds.below hb).set 2 (.slice A C.length c)
    unfold DV.cells at this ⊢
    exact this
  have hbW := Chg.onto (h.bW.trans (hb.mono h.bW.size)) (Nat.le_trans h.bW.size hb.size) hc (fun z hz => by rw [List.mem_singleton.1 hz]; exact h.ge.1)
  have hcg := (h.cg.below hb).trans hc (fun z hz => Or.inr (by rw [List.mem_singleton.1 hz]; exact h.gf.1))
  rcases Nat.eq_zero_or_pos C.length with h0 | h0
  · have hn : C = [] := List.eq_nil_of_length_eq_zero h0
    subst hn
    have hD : DO W w8 no (bs :: bc :: br :: av) { x with C := [], Ac := A, cc := c } { S with cs := cs } :=
      have hB := h.dd.below hb
      ⟨hB.eV, hcs, hB.sV, (fun y hy => by cases hy), hB.lt, hB.sub, hB.op, hB.ov, ⟨by simp [flatC], fun hm => absurd hm (by simp)⟩⟩
    refine ⟨no, av, ⟨hds, (h.dc.below hb).chg hc (by simp; omega), (h.dr.below hb).chg hc (by simp; omega), hD.chg hc (fun z hz => Or.inl (by rw [List.mem_singleton.1 hz]; exact List.mem_cons_self ..)) (fun z hz hx => by rw [List.mem_singleton.1 hz] at hx; exact ho'.1 hx), h.out, h.ne, h.ge, hbW, hcg, h.nn, h.gf⟩, fun z hz => hz, fun z hz => Or.inl hz, fun z hz => Or.inl hz⟩
  · obtain ⟨hown, hge⟩ := ho
    rcases hown.2 with ⟨_, hx⟩ | ⟨g, cap, cur, e, _, _, _⟩
    · omega
    cases e
    have hg : wr.heap.size ≤ g := hge g rfl
    have hgl := own_lt hown (g := g) rfl
    have hD := h.dd.newC (cs := cs) h.bW.size hb hown hg hgl (fun y hy => Or.inl (hs y hy)) hcs
    have hm : ∀ z ∈ bs :: bc :: br :: g :: av, z ∈ g :: bs :: bc :: br :: av := fun z hz => by
      simp only [List.mem_cons] at hz ⊢
      rcases hz with e | e | e | e | e <;> simp [e]
    have hm' : ∀ z ∈ g :: bs :: bc :: br :: av, z ∈ bs :: bc :: br :: g :: av := fun z hz => by
      simp only [List.mem_cons] at hz ⊢
      rcases hz with e | e | e | e | e <;> simp [e]
    have hD2 := hD.avoid (av' := bs :: bc :: br :: g :: av) (fun z hz => Or.inl (hm z hz)) (fun z hz => hm' z (hD.sub z hz)) (Below.refl _ _) (fun z hz => hD.lt z (hm z hz))
    refine ⟨g :: no, g :: av, ⟨hds, (h.dc.below hb).chg hc (by simp; omega), (h.dr.below hb).chg hc (by simp; omega), hD2.chg hc (fun z hz => Or.inl (by rw [List.mem_singleton.1 hz]; exact List.mem_cons_self ..)) (fun z hz hx => ?_), ?_, h.ne, h.ge, hbW, hcg,
      fun z hz => (List.mem_cons.1 hz).elim (fun e => Or.inr (by rw [e]; exact Nat.le_trans h.cg.size hg)) (h.nn z), h.gf⟩, fun z hz => List.mem_cons_of_mem _ hz, fun z hz => (List.mem_cons.1 hz).elim (fun e => Or.inr (by rw [e]; exact hg)) Or.inl, fun z hz => (List.mem_cons.1 hz).elim (fun e => Or.inr (by rw [e]; exact hg)) Or.inl⟩
    · rw [List.mem_singleton.1 hz] at hx
      rcases List.mem_cons.1 hx with e | hx
      · omega
      · exact ho'.1 hx
    · refine ⟨fun hx => ?_, fun hx => ?_, fun hx => ?_⟩ <;> rcases List.mem_cons.1 hx with e | hx
      · omega
      · exact ho'.1 hx
      · omega
      · exact ho'.2.1 hx
      · omega
      · exact ho'.2.2 hx
/-- the same blocks avoided, in another list -/
theorem ChIn.avs (h : ChIn W v0 n0 wr no av x S q bs bc br) {av' : List Nat} (h1 : ∀ z ∈ av', z ∈ av) (h2 : ∀ z ∈ av, z ∈ av') : ChIn W v0 n0 wr no av' x S q bs bc br := by
  have m1 : ∀ z ∈ bs :: bc :: br :: av', z ∈ bs :: bc :: br :: av := fun z hz => by
    simp only [List.mem_cons] at hz ⊢
    rcases hz with e | e | e | e
    · simp [e]
    · simp [e]
    · simp [e]
    · simp [h1 z e]
  have m2 : ∀ z ∈ bs :: bc :: br :: av, z ∈ bs :: bc :: br :: av' := fun z hz => by
    simp only [List.mem_cons] at hz ⊢
    rcases hz with e | e | e | e
    · simp [e]
    · simp [e]
    · simp [e]
    · simp [h2 z e]
  exact ⟨h.ds, h.dc, h.dr, h.dd.avoid (fun z hz => Or.inl (m1 z hz)) (fun z hz => m2 z (h.dd.sub z hz)) (Below.refl _ _) (fun z hz => h.dd.lt z (m1 z hz)), h.out, h.ne, h.ge, h.bW, h.cg, h.nn, h.gf⟩
/-- what fill has made is handed back -/
theorem ChIn.retF (h : ChIn W v0 n0 wr no av x S q bs bc br) {no' av' : List Nat} (hd : DO W w' no' av' x' S') (hn : ∀ z ∈ no', z ∈ no ∨ wr.heap.size ≤ z) (ha : ∀ z ∈ bs :: bc :: br :: av, z ∈ av') {a0 : List Nat} (ha0 : ∀ z ∈ a0, z ∈ av) (hW : Below W.heap.size W w') (hc : Chg no wr w') :
    Blk w' br 31 [.slice none 0 0, .slice none 0 0, .slice none 0 0, .int .i64 0] ∧ ∀ A1 A2 A3 z : Value,
      (∃ no' av', DO W ((((w'.setCell ⟨br, 0, none⟩ A1).setCell ⟨br, 1, none⟩ A2).setCell ⟨br, 2, none⟩ A3).setCell ⟨br, 3, none⟩ z) no' av' x' S' ∧ (∀ z ∈ no', z ∈ n0 ∨ v0.heap.size ≤ z) ∧ (∀ z ∈ a0, z ∈ av')) ∧ Below W.heap.size W ((((w'.setCell ⟨br, 0, none⟩ A1).setCell ⟨br, 1, none⟩ A2).setCell ⟨br, 2, none⟩ A3).setCell ⟨br, 3, none⟩ z) ∧ Chg n0 v0 ((((w'.setCell ⟨br, 0, none⟩ A1).setCell ⟨br, 1, none⟩ A2).setCell ⟨br, 2, none⟩ A3).setCell ⟨br, 3, none⟩ z) := by
  refine ⟨h.dr.chg hc h.out.2.2, fun A1 A2 A3 z => ?_⟩
  have hc2 : Chg [br] w' ((((w'.setCell ⟨br, 0, none⟩ A1).setCell ⟨br, 1, none⟩ A2).setCell ⟨br, 2, none⟩ A3).setCell ⟨br, 3, none⟩ z) :=
    ((((Chg.refl _ _).setCell (Or.inl (by simp)) _).setCell (Or.inl (by simp)) _).setCell (Or.inl (by simp)) _).setCell (Or.inl (by simp)) _
  refine ⟨⟨no', av', hd.chg hc2 (fun z hz => Or.inl (by rw [List.mem_singleton.1 hz]; exact ha br (by simp))) (fun z hz hx => ?_), fun z hz => (hn z hz).elim (h.nn z) (fun h1 => Or.inr (Nat.le_trans h.cg.size h1)), fun z hz => ha z (List.mem_cons_of_mem _ (List.mem_cons_of_mem _ (List.mem_cons_of_mem _ (ha0 z hz))))⟩, Chg.onto hW hW.size hc2 (fun z hz => by rw [List.mem_singleton.1 hz]; exact h.ge.2.2),
    (h.cg.trans hc (fun z hz => h.nn z hz)).trans hc2 (fun z hz => Or.inr (by rw [List.mem_singleton.1 hz]; exact h.gf.2.2))⟩
  rw [List.mem_singleton.1 hz] at hx
  rcases hn br hx with h1 | h1
  · exact h.out.2.2 h1
  · have := h.dr.lt; omega
end
end Go.Proofs.YtcgecalbgkkinaaGreat

namespace Go.Proofs.YtcgecalbgkkinaaGreat
open Go.ChangeShapes Go.WideShapes Go.ChangeAt Go.RowKit Go.Joins Go.Deep Go.Maps
set_option linter.unusedVariables false
set_option linter.unusedSimpArgs false

theorem act2 {S : Vst} {q : Cmd} (h : q.k = 2) : S.act q = S.create q := by unfold Vst.act; rw [if_neg (by omega), if_pos h]
theorem act3 {S : Vst} {q : Cmd} (h : q.k = 3) : S.act q = S.remove q := by unfold Vst.act; rw [if_neg (by omega), if_neg (by omega), if_pos h]
theorem act4 {S : Vst} {q : Cmd} (h : q.k = 4) : S.act q = S.resize q := by unfold Vst.act; rw [if_neg (by omega), if_neg (by omega), if_neg (by omega), if_pos h]
set_option maxHeartbeats 8000000 in
set_option maxRecDepth 100000 in
theorem do3_calls (W w : World) (no av : List Nat) (x : DV) (S : Vst) (n : Nat) (q : Cmd) (h : DO W w no av x S) (hbW : Below W.heap.size W w) (ho : VOk S n) (hn : n ≤ 1000) (hq : q.ok) (hk : q.k = 3) (hl : x.V.length ≤ 1000) (hlc : x.C.length ≤ 100000) :
    Calls Tryz.prog 20 #[x.val S.nx, q.val] w fun e w' => ChOut18 W w no av w' S (S.act q) e := by
  obtain ⟨i2, hi2, hv0, hv1, hv2⟩ := info_parts Tryz.infoVo
  obtain ⟨i1, hi1, hp0, hp1, hp2⟩ := info_parts Tryz.infoI3
  have HO := hide ho
  have HQ := hide hq
  have hI := ChIn.start h hbW q
  obtain ⟨k0, a0, b0, c0, ⟨qr, qw, ql, qb⟩⟩ := q
  simp only [] at hk hq
  obtain ⟨Ap, cp, V, Av, cv, C, Ac, cc⟩ := x
  simp only [] at hl hlc
  simp only [DV.cells, Cmd.cells] at hI
  obtain ⟨w0, hw0⟩ : ∃ w0, ((w.alloc (.cells #[.slice Ap 16 cp, .slice Av V.length cv, .slice Ac C.length cc, .int .i64 S.nx] 31)).alloc (.cells #[.int .i64 k0, .int .i64 a0, .int .i64 b0, .int .i64 c0, .int .i64 qr, .int .i64 qw, .int .i64 ql, .int .i64 qb] 38)).alloc (.cells #[.slice none 0 0, .slice none 0 0, .slice none 0 0, .int .i64 0] 31) = w0 := ⟨_, rfl⟩
  have hI0 : ChIn W w no w0 no av ⟨Ap, cp, V, Av, cv, C, Ac, cc⟩ S ⟨k0, a0, b0, c0, ⟨qr, qw, ql, qb⟩⟩ w.heap.size (w.heap.size + 1) (w.heap.size + 1 + 1) := hw0 ▸ hI
  obtain ⟨bs, hbs⟩ : ∃ bs, w.heap.size = bs := ⟨_, rfl⟩
  obtain ⟨bc, hbc⟩ : ∃ bc, bs + 1 = bc := ⟨_, rfl⟩
  obtain ⟨br, hbr⟩ : ∃ br, bc + 1 = br := ⟨_, rfl⟩
  rw [hbs, hbc, hbr] at hI0
  have HI := hide hI0
  have HN := hide (And.intro hbs (And.intro hbc hbr))
  have HW := hide hw0
  have hCH := dvol_calls w0 (bs :: bc :: br :: av) ⟨Ap, cp, V, Av, cv, C, Ac, cc⟩ S S.nx a0 hI0.dd.dm (by simp only []; omega)
  have s0 := hI0.ds.cell 0
  have s1 := hI0.ds.cell 1
  have s2 := hI0.ds.cell 2
  have s3 := hI0.ds.cell 3
  have c1 := hI0.dc.cell 1
  simp only [DV.cells, Cmd.cells, List.getElem?_cons_succ, List.getElem?_cons_zero] at s0 s1 s2 s3 c1
  unfold DV.val DV.cells at hCH
  simp only [] at hCH
  have HCH := hide hCH
  unfold ChOut18 DV.val DV.cells Cmd.val Cmd.cells
  simp only []
  clear h hbW ho hI hI0 hCH hw0 hq hbs hbc hbr
  subst hk
  go_enter Tryz.func20, Tryz.ntmps20
  go_upto_region 1 with fail
  rw [HW.out, HN.out.1, HN.out.2.1, HN.out.2.2]
  go_wp2_with fail
  refine HCH.out.mono ?_
  rintro e w1 ⟨i, rfl, hat, hb1⟩
  have HI1 := hide (HI.out.below hb1)
  have HAT := hide hat
  clear s0 s1 s2 s3 c1 HCH hb1 hat
  have kc := HI1.out.dc.cell 0
  have k1 := HI1.out.dc.cell 1
  have k2 := HI1.out.dc.cell 2
  have k3 := HI1.out.dc.cell 3
  have k4 := HI1.out.dc.cell 4
  have k5 := HI1.out.dc.cell 5
  have k6 := HI1.out.dc.cell 6
  have k7 := HI1.out.dc.cell 7
  simp only [Cmd.cells, List.getElem?_cons_succ, List.getElem?_cons_zero] at kc k1 k2 k3 k4 k5 k6 k7
  rcases HAT.out with ⟨hno, rfl⟩ | ⟨at_, hat, hid, rfl⟩
  · have HQ0 : Hid (S.act ⟨3, a0, b0, c0, ⟨qr, qw, ql, qb⟩⟩ = (S, 7)) := hide (by rw [act3 rfl]; exact remove_none (q := ⟨3, a0, b0, c0, ⟨qr, qw, ql, qb⟩⟩) hno)
    clear hno HAT
    have a0' := HI1.out.ds.cell 0
    have a1' := HI1.out.ds.cell 1
    have a2' := HI1.out.ds.cell 2
    have a3' := HI1.out.ds.cell 3
    have r0' := HI1.out.dr.cell 0
    have r1' := HI1.out.dr.cell 1
    have r2' := HI1.out.dr.cell 2
    have r3' := HI1.out.dr.cell 3
    have rf' := HI1.out.dr.frozen
    simp only [DV.cells, List.getElem?_cons_succ, List.getElem?_cons_zero] at a0' a1' a2' a3' r0' r1' r2' r3'
    have HRT := hide (HI1.out.ret (a0 := av) (fun z hz => by first | exact hz | exact List.mem_cons_of_mem _ hz) (A1 := .slice Ap 16 cp) (A2 := .slice Av V.length cv) (A3 := .slice Ac C.length cc) (z := .int .i64 S.nx))
    go_wp2
    refine bodyPost_ret (v := .tuple #[.agg #[.slice Ap 16 cp, .slice Av V.length cv, .slice Ac C.length cc, .int .i64 S.nx], .int .i64 7]) (by simp [results, Tryz.results20, go_sem, r0', r1', r2', r3']) rfl ?_
    rw [HQ0.out]
    exact ⟨⟨Ap, cp, V, Av, cv, C, Ac, cc⟩, rfl, HRT.out.1, HRT.out.2⟩
  · have hatV : at_ < V.length := by have := HI1.out.dd.lenV; simp only [] at this; omega
    obtain ⟨y, hy⟩ : ∃ y, V[at_] = y := ⟨_, rfl⟩
    have hyv : S.vs[at_] = y.v := by rw [← hy]; exact HI1.out.dd.dm.getV hatV
    have HQ0 : Hid (S.act ⟨3, a0, b0, c0, ⟨qr, qw, ql, qb⟩⟩ = ({ S with cs := S.cs.filter fun c => !y.v.ch.contains c.id, vs := S.vs.take at_ ++ S.vs.drop (at_ + 1) }, 0)) :=
      hide (by rw [act3 rfl]; exact remove_at (q := ⟨3, a0, b0, c0, ⟨qr, qw, ql, qb⟩⟩) HO.out.vsr hat hyv (by rw [← hyv]; exact hid))
    have HSL := hide (HI1.out.dd.sV y (by rw [← hy]; exact List.getElem_mem _))
    obtain ⟨g, eV, hgn, hgW, hog⟩ := HI1.out.dd.ov.2 (show 0 < V.length by omega)
    simp only [] at eV
    subst eV
    obtain ⟨A9, c9, e9, hcv, _, _, _, _⟩ := own_view hog
    cases e9
    have HVC := hide (And.intro hatV hcv)
    obtain ⟨b', o', e', hbb', hcell⟩ := HI1.out.dd.dm.atV (k := at_) hatV
    simp only [Option.some.injEq, Addr.mk.injEq] at e'
    obtain ⟨rfl, rfl, _⟩ := e'
    simp only [] at hcell
    rw [hy] at hcell
    obtain ⟨⟨vid, vbl, ⟨vr, vw, vl, vb⟩, vver, vch⟩, yA, yc⟩ := y
    have p7 : ∀ w', Below w1.heap.size w1 w' → w'.cell? ⟨g, at_ * 8 + 7, none⟩ = some (.slice yA vch.length yc) := fun w' hb => by
      have := hcell w' hb 7 (by omega)
      simp only [Nat.zero_add] at this
      exact this
    have z1 := HI1.out.ds.rule 1 _ rfl
    have z2 := HI1.out.ds.rule 2 _ rfl
    have zf : ∀ w', Below w1.heap.size w1 w' → ∀ i, w'.frozen? ⟨bs, i, none⟩ = false := fun w' hb => (HI1.out.ds.below hb).frozen
    have r1 := Below.refl w1.heap.size w1
    have kV : (at_ : Int) < V.length := by omega
    obtain ⟨C2, hC2⟩ : ∃ C2, (C.filter fun y => !vch.contains y.k.id) = C2 := ⟨_, rfl⟩
    obtain ⟨V2, hV2⟩ : ∃ V2, V.take at_ ++ V.drop (at_ + 1) = V2 := ⟨_, rfl⟩
    have HOUT : Hid (∀ w', Below w1.heap.size w1 w' → Calls Tryz.prog 50 #[.slice Ac C.length cc, .slice yA vch.length yc] w' fun e w'' => ∃ A c, e = .returned (.slice A C2.length c) ∧ OwnR 47 5 CkM.cells w' w'' A c C2 ∧ Below w'.heap.size w' w'') :=
      hide (fun w' hb => by
        rw [← hC2]
        exact dout_calls w' Ac yA cc yc C vch ((HI1.out.dd.oc.rd.below hb).more hb.size) ((HSL.out.rd.below hb).more hb.size) (by omega) (by have := HSL.out.ln; simp only [] at this; omega))
    have hm : C2.map CkM.k = S.cs.filter fun c => !vch.contains c.id := by
      rw [← hC2, ← HI1.out.dd.eC, List.filter_map]
      rfl
    have hmem : ∀ y ∈ C2, y ∈ C := fun y hy => by rw [← hC2] at hy; exact (List.mem_filter.1 hy).1
    have hmV : V2.map VoM.v = S.vs.take at_ ++ S.vs.drop (at_ + 1) := by
      rw [← hV2, ← HI1.out.dd.eV, List.map_append, List.map_take, List.map_drop]
    have hmemV : ∀ y ∈ V2, y ∈ V := fun y hy => by
      rw [← hV2] at hy
      exact (List.mem_append.1 hy).elim List.mem_of_mem_take List.mem_of_mem_drop
    have hlV : V2.length = at_ + (V.length - (at_ + 1)) := by
      rw [← hV2, List.length_append, List.length_take, List.length_drop]; omega
    have hfV : flatC VoM.cells V2 = flatC VoM.cells (V.take at_) ++ flatC VoM.cells (V.drop (at_ + 1)) := by rw [← hV2, flatC_app]
    have HM := hide (And.intro hm (And.intro hmem (And.intro hmV (And.intro hmemV (And.intro hlV hfV)))))
    clear hcell hog hm hmem hmV hmemV hlV hfV hC2 hV2 hyv hid hy hat hatV hcv
    go_upto_region 25 with fail
    clear kc k1 k2 k3 k4 k5 k6 k7
    refine lxR (fun w' => Below w1.heap.size w1 w') [10] 0 [(2, 0), (0, 1), (2, 2), (0, 3), (2, 4), (2, 5), (2, 6), (0, 7), (1, 8), (2, 9), (3, 10)] #[true, true, true, true, true, true, true, true, true, true, true] (by kernel_rfl) (by kernel_rfl) (by decide) (by kernel_rfl) (by kernel_rfl) (fun _ _ _ _ _ h => h) (by (first | assumption | exact r1.drew)) (fun hS0 => ?_)
    simp only [List.map_cons, List.map_nil, List.getElem?_toArray, List.getElem?_cons_succ, List.getElem?_cons_zero]
    (apply lxP (by rfl); (focus (intro w; go_simp; (try with_reducible rfl); done)); simp only [Act.put, zA38, zB38, zC38]); (apply lxT (by rfl); (focus (intro w hw; (try dsimp only at hw); go_simp; (try with_reducible rfl); done)); simp only [Act.put, zA38, zB38, zC38]); (apply lxP (by rfl); (focus (intro w; go_simp; (try with_reducible rfl); done)); simp only [Act.put, zA38, zB38, zC38]); (apply lxT (by rfl); (focus (intro w hw; (try dsimp only at hw); go_simp; (try with_reducible rfl); done)); simp only [Act.put, zA38, zB38, zC38]); (iterate 3 ((apply lxP (by rfl); (focus (intro w; go_simp; (try with_reducible rfl); done)); simp only [Act.put, zA38, zB38, zC38]))); (apply lxT (by rfl); (focus (intro w hw; (try dsimp only at hw); go_simp; (try with_reducible rfl); done)); simp only [Act.put, zA38, zB38, zC38]); (refine lxE (by rfl) ?_; go_simp; ((go_at_call 50; refine (HOUT.out _ (by assumption)).mono ?_; rintro e w2 ⟨A2, c2, rfl, ho2, hb2⟩; have hb2q : Below w1.heap.size w1 w2 := bwP hb2 (by assumption); have HO2 := hide (And.intro ho2 hb2); clear ho2 hb2)); refine lxB (by (first | assumption | exact r1.drew)) (fun hS1 => ?_)); (apply lxP (by rfl); (focus (intro w; go_simp; (try with_reducible rfl); done)); simp only [Act.put, zA38, zB38, zC38]); (refine lxF (by rfl) ?_; go_simp)
    refine lxN (fun _ => wqD (by kernel_rfl) ?_ _)
    rename_i hunm
    clear hunm
    obtain ⟨no3, av3, hI3, hav3, _⟩ := HI1.out.newC (C := C2) (A := A2) (c := c2) (cs := S.cs.filter fun c => !vch.contains c.id) hb2q (HO2.out.1.back (Nat.le_refl _)) HM.out.2.1 HM.out.1
    obtain ⟨w3, hw3⟩ : ∃ w3, w2.setCell ⟨bs, 2, none⟩ (.slice A2 C2.length c2) = w3 := ⟨_, rfl⟩
    rw [hw3] at hI3
    simp only [] at hI3
    have HI3 := hide hI3
    have HAV3 := hide hav3
    rw [hw3]
    clear hI3 hav3 hw3 p7 z1 z2 zf r1 hb2q hS0 hS1
    have z1 := HI3.out.ds.rule 1 _ rfl
    have zf : ∀ w', Below w3.heap.size w3 w' → ∀ i, w'.frozen? ⟨bs, i, none⟩ = false := fun w' hb => (HI3.out.ds.below hb).frozen
    have r3 := Below.refl w3.heap.size w3
    have hk1 : at_ + 1 ≤ V.length := by have := HVC.out.1; omega
    have kcv : (at_ : Int) ≤ cv := by have := HVC.out; omega
    have wa1 : IntKind.i64.wrap ((at_ : Int) + 1) = (at_ : Int) + 1 := IntWalk.i64_in _ (by omega)
    have ka1 : (0 : Int) ≤ (at_ : Int) + 1 := by omega
    obtain ⟨A3, hA3⟩ : ∃ A3, (if cv = at_ + 1 then some (⟨g, 0, none⟩ : Addr) else (some (⟨g, 0, none⟩ : Addr)).map (·.add ((at_ + 1) * 8))) = A3 := ⟨_, rfl⟩
    have hsl := run_cut (P := Tryz.prog) (t := 28) Tryz.underlying28 (fun _ => by kernel_rfl) hk1 hA3
    have HRT := hide (fun w' (hb : Below w3.heap.size w3 w') => (((HI3.out.dd.ov.rd.below hb).more hb.size).take (k := at_) (Nat.le_of_lt HVC.out.1)))
    have HRC := hide (fun w' (hb : Below w3.heap.size w3 w') => (((HI3.out.dd.ov.rd.below hb).more hb.size).cut (k := at_ + 1) (cap := cv) hk1 HVC.out.2))
    simp only [] at HRT HRC
    rw [hA3] at HRC
    rw [← flatC_take voLen V at_] at HRT
    rw [← flatC_drop voLen V (at_ + 1)] at HRC
    obtain ⟨nd, hnd⟩ : ∃ nd, V.length - (at_ + 1) = nd := ⟨_, rfl⟩
    rw [hnd] at hsl HRC
    replace hsl : ∀ w : World, (Instr.slice 28 (.slice (some ⟨g, 0, none⟩) V.length cv) (some (.int .i64 ((at_ : Int) + 1))) none none).run Tryz.prog w = .ok (.slice A3 nd (cv - (at_ + 1))) w := hsl
    have HND := hide hnd
    have hle : at_ + nd ≤ 1000 := by omega
    have HLE := hide hle
    clear hnd hA3 hk1 hle
    go_upto_region 26 with fail
    refine lxR (fun w' => Below w3.heap.size w3 w') [13] 0 [(2, 1), (0, 2), (2, 3), (2, 4), (2, 6), (0, 7), (2, 8), (2, 9), (2, 10), (1, 0), (1, 5), (1, 11), (2, 12), (3, 13)] #[true, true, true, true, true, true, true, true, true, true, true, true, true, true] (by kernel_rfl) (by kernel_rfl) (by decide) (by kernel_rfl) (by kernel_rfl) (fun _ _ _ _ _ h => h) (by (first | assumption | exact r3.drew | exact bwA (by assumption) _ | exact (bwA r3 _).drew)) (fun hS0 => ?_)
    simp only [List.map_cons, List.map_nil, List.getElem?_toArray, List.getElem?_cons_succ, List.getElem?_cons_zero]
    (apply lxP (by rfl); (focus (intro w; go_simp; (try with_reducible rfl); done)); simp only [Act.put, zA38, zB38, zC38]); (apply lxT (by rfl); (focus (intro w hw; (try dsimp only at hw); go_simp; (try with_reducible rfl); done)); simp only [Act.put, zA38, zB38, zC38]); (iterate 3 ((apply lxP (by rfl); (focus (intro w; go_simp; (try with_reducible rfl); done)); simp only [Act.put, zA38, zB38, zC38]))); (apply lxT (by rfl); (focus (intro w hw; (try dsimp only at hw); go_simp; (try with_reducible rfl); done)); simp only [Act.put, zA38, zB38, zC38]); (iterate 3 ((apply lxP (by rfl); (focus (intro w; go_simp; (try with_reducible rfl); done)); simp only [Act.put, zA38, zB38, zC38]))); (refine lxE (by rfl) ?_; go_simp; refine lxB (by (first | assumption | exact r3.drew | exact bwA (by assumption) _ | exact (bwA r3 _).drew)) (fun hS1 => ?_)); (refine lxE (by rfl) ?_; (refine wp_app1 _ _ _ 28 rfl 43 i2 _ 8 80 Tryz.underlying28 hi2 hv0 hv1 hv2 rfl w3.heap.size (by first | exact Blk.new (cs := []) rfl | exact Blk.drewC5 (Blk.new (cs := []) rfl)) rfl (some ⟨g, 0, none⟩) at_ cv w3.heap.size (flatC VoM.cells (V.take at_)) rfl (HRT.out _ r3 |>.below (show Below w3.heap.size w3 _ from by assumption)) (flatC_one voCells_one _) (by have := HLE.out; unfold maxLen; omega) (by have := HLE.out; omega) ?_; intro g5 c5 w5 ho5 hb5 hg5 hgl5; have hb5q : Below w3.heap.size w3 w5 := bwP hb5 (by assumption); have HO5 := hide (And.intro ho5 (And.intro hg5 hgl5)); clear ho5 hb5 hg5 hgl5); simp only [Act.put, zA38, zB38, zC38]; refine lxB (by (first | assumption | exact r3.drew | exact bwA (by assumption) _ | exact (bwA r3 _).drew)) (fun hS1 => ?_))
    (refine lxE (by rfl) ?_; (refine app_wpR _ _ 28 rfl 43 i2 _ 8 80 Tryz.underlying28 hi2 hv0 hv1 hv2 rfl (by decide) g5 at_ c5 (flatC VoM.cells (V.take at_)) rfl HO5.out.1 A3 nd (cv - (at_ + 1)) w3.heap.size (flatC VoM.cells (V.drop (at_ + 1))) rfl (HRC.out _ r3 |>.below (show Below w3.heap.size w3 _ from by assumption)) (flatC_one voCells_one _) (by have := HLE.out; unfold maxLen; omega) (by have := HLE.out; omega) ?_; intro g8 c8 w8 ho8 hch8 hor8 hgl8; have H8 := hide (And.intro ho8 (And.intro hor8 hgl8)); have hb8q : Below w3.heap.size w3 w8 := Chg.onto (show Below w3.heap.size w3 _ from by assumption) (Below.size (by assumption)) hch8 (fun q hq => by rw [List.mem_singleton.1 hq]; have h1 := HO5.out.2.1; simp at h1; omega); have HCH8 := hide hch8; clear ho8 hch8 hor8 hgl8); simp only [Act.put, zA38, zB38, zC38]; refine lxB (by (first | assumption | exact r3.drew | exact bwA (by assumption) _ | exact (bwA r3 _).drew)) (fun hS1 => ?_)); (apply lxP (by rfl); (focus (intro w; go_simp; (try with_reducible rfl); done)); simp only [Act.put, zA38, zB38, zC38]); (refine lxF (by rfl) ?_; go_simp)
    refine lxN (fun _ => wqD (by kernel_rfl) ?_ _)
    rename_i hunm
    clear hunm
    have hg5 : w3.heap.size ≤ g5 := by
      have h1 := HO5.out.2.1
      simp at h1
      omega
    have hg8 : w3.heap.size ≤ g8 := by
      rcases H8.out.2.1 with e | e
      · omega
      · rw [e]; exact hb5q.size
    have hI4 := HI3.out.newV (V := V2) (g := g8) (c := c8) (vs := S.vs.take at_ ++ S.vs.drop (at_ + 1)) hb8q (by
      have h1 := H8.out.1
      rw [← HM.out.2.2.2.2.2, ← HND.out, ← HM.out.2.2.2.2.1] at h1
      exact h1) hg8 (fun y hy => Or.inl (HM.out.2.2.2.1 y hy)) HM.out.2.2.1
    have hlV : at_ + nd = V2.length := by rw [← HND.out]; exact HM.out.2.2.2.2.1.symm
    rw [hlV]
    obtain ⟨w4, hw4⟩ : ∃ w4, w8.setCell ⟨bs, 1, none⟩ (.slice (some ⟨g8, 0, none⟩) V2.length c8) = w4 := ⟨_, rfl⟩
    rw [hw4] at hI4
    simp only [] at hI4
    have HI4 := hide hI4
    rw [hw4]
    have HAV4 : Hid (∀ z ∈ av, z ∈ g8 :: av3) := hide (fun z hz => List.mem_cons_of_mem _ (HAV3.out z hz))
    clear hI4 hw4 hlV hg8 hg5 hb8q hb5q hS0 hS1 hsl wa1 ka1 kcv z1 zf r3 kV
    have a0' := HI4.out.ds.cell 0
    have a1' := HI4.out.ds.cell 1
    have a2' := HI4.out.ds.cell 2
    have a3' := HI4.out.ds.cell 3
    have r0' := HI4.out.dr.cell 0
    have r1' := HI4.out.dr.cell 1
    have r2' := HI4.out.dr.cell 2
    have r3' := HI4.out.dr.cell 3
    have rf' := HI4.out.dr.frozen
    simp only [DV.cells, List.getElem?_cons_succ, List.getElem?_cons_zero] at a0' a1' a2' a3' r0' r1' r2' r3'
    have HRX := hide (HI4.out.ret (a0 := av) HAV4.out (A1 := .slice Ap 16 cp) (A2 := .slice (some ⟨g8, 0, none⟩) V2.length c8) (A3 := .slice A2 C2.length c2) (z := .int .i64 S.nx))
    go_wp2
    refine bodyPost_ret (v := .tuple #[.agg #[.slice Ap 16 cp, .slice (some ⟨g8, 0, none⟩) V2.length c8, .slice A2 C2.length c2, .int .i64 S.nx], .int .i64 0]) (by simp [results, Tryz.results20, go_sem, r0', r1', r2', r3']) rfl ?_
    rw [HQ0.out]
    exact ⟨⟨Ap, cp, V2, some ⟨g8, 0, none⟩, c8, C2, A2, c2⟩, rfl, HRX.out.1, HRX.out.2⟩
end Go.Proofs.YtcgecalbgkkinaaGreat
