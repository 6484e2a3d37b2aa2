/- One text of: Dsc. -/
import Derived.Test.YtcgecalbgkkinaaGreatQDC
namespace Go.Proofs.YtcgecalbgkkinaaGreat
open Go.ChangeShapes Go.WideShapes Go.ChangeAt Go.RowKit Go.Joins Go.Deep Go.Maps
set_option linter.unusedVariables false
set_option linter.unusedSimpArgs false
theorem zA39 {α : Type} (l : List α) (i : Nat) (a : α) : l.toArray.setIfInBounds i a = (l.set i a).toArray := by simp
theorem zB39 {α : Type} (x a : α) (l : List α) : (x :: l).set 0 a = a :: l := rfl
theorem zC39 {α : Type} (x a : α) (l : List α) (n : Nat) : (x :: l).set (n + 1) a = x :: l.set n a := rfl

set_option maxHeartbeats 8000000 in
set_option maxRecDepth 100000 in
theorem do2_calls (W w : World) (no av : List Nat) (x : DV) (S : Vst) (n : Nat) (q : Cmd) (h : DO W w no av x S) (hbW : Below W.heap.size W w) (ho : VOk S n) (hn : n ≤ 1000) (hq : q.ok) (hk : q.k = 2) (hl : x.V.length ≤ 900) (hlc : x.C.length ≤ 90000) :
    Calls Tryz.prog 20 #[x.val S.nx, q.val] w fun e w' => ChOut18 W w no av w' S (S.act q) e := by
  obtain ⟨i2, hi2, hv0, hv1, hv2⟩ := info_parts Tryz.infoVo
  have hcv : x.V.length ≤ x.cv ∨ x.V.length = 0 := by
    rcases Nat.eq_zero_or_pos x.V.length with h0 | h0
    · exact Or.inr h0
    · obtain ⟨g, eV, _, _, hog⟩ := h.ov.2 h0
      obtain ⟨A9, c9, e9, hle, _, _, _, _⟩ := own_view hog
      cases e9
      exact Or.inl hle
  have HCV := hide hcv
  clear hcv
  obtain ⟨i1, hi1, hp0, hp1, hp2⟩ := info_parts Tryz.infoI3
  have HO := hide ho
  have HQ := hide hq
  have hI := ChIn.start h hbW q
  obtain ⟨k0, a0, b0, c0, ⟨qr, qw, ql, qb⟩⟩ := q
  simp only [] at hk hq
  obtain ⟨Ap, cp, V, Av, cv, C, Ac, cc⟩ := x
  simp only [] at hl hlc
  simp only [DV.cells, Cmd.cells] at hI
  obtain ⟨w0, hw0⟩ : ∃ w0, ((w.alloc (.cells #[.slice Ap 16 cp, .slice Av V.length cv, .slice Ac C.length cc, .int .i64 S.nx] 31)).alloc (.cells #[.int .i64 k0, .int .i64 a0, .int .i64 b0, .int .i64 c0, .int .i64 qr, .int .i64 qw, .int .i64 ql, .int .i64 qb] 38)).alloc (.cells #[.slice none 0 0, .slice none 0 0, .slice none 0 0, .int .i64 0] 31) = w0 := ⟨_, rfl⟩
  have hI0 : ChIn W w no w0 no av ⟨Ap, cp, V, Av, cv, C, Ac, cc⟩ S ⟨k0, a0, b0, c0, ⟨qr, qw, ql, qb⟩⟩ w.heap.size (w.heap.size + 1) (w.heap.size + 1 + 1) := hw0 ▸ hI
  obtain ⟨bs, hbs⟩ : ∃ bs, w.heap.size = bs := ⟨_, rfl⟩
  obtain ⟨bc, hbc⟩ : ∃ bc, bs + 1 = bc := ⟨_, rfl⟩
  obtain ⟨br, hbr⟩ : ∃ br, bc + 1 = br := ⟨_, rfl⟩
  rw [hbs, hbc, hbr] at hI0
  have HI := hide hI0
  have HN := hide (And.intro hbs (And.intro hbc hbr))
  have HW := hide hw0
  have hCH := dvol_calls w0 (bs :: bc :: br :: av) ⟨Ap, cp, V, Av, cv, C, Ac, cc⟩ S S.nx a0 hI0.dd.dm (by simp only []; omega)
  have s0 := hI0.ds.cell 0
  have s1 := hI0.ds.cell 1
  have s2 := hI0.ds.cell 2
  have s3 := hI0.ds.cell 3
  have c1 := hI0.dc.cell 1
  simp only [DV.cells, Cmd.cells, List.getElem?_cons_succ, List.getElem?_cons_zero] at s0 s1 s2 s3 c1
  unfold DV.val DV.cells at hCH
  simp only [] at hCH
  have HCH := hide hCH
  unfold ChOut18 DV.val DV.cells Cmd.val Cmd.cells
  simp only []
  clear h hbW ho hI hI0 hCH hw0 hq hbs hbc hbr
  subst hk
  go_enter Tryz.func20, Tryz.ntmps20
  go_upto_region 1 with fail
  rw [HW.out, HN.out.1, HN.out.2.1, HN.out.2.2]
  go_wp2_with fail
  refine HCH.out.mono ?_
  rintro e w1 ⟨i, rfl, hat, hb1⟩
  have HI1 := hide (HI.out.below hb1)
  have HAT := hide hat
  clear s0 s1 s2 s3 c1 HCH hb1 hat
  have kc := HI1.out.dc.cell 0
  have k1 := HI1.out.dc.cell 1
  have k2 := HI1.out.dc.cell 2
  have k3 := HI1.out.dc.cell 3
  have k4 := HI1.out.dc.cell 4
  have k5 := HI1.out.dc.cell 5
  have k6 := HI1.out.dc.cell 6
  have k7 := HI1.out.dc.cell 7
  simp only [Cmd.cells, List.getElem?_cons_succ, List.getElem?_cons_zero] at kc k1 k2 k3 k4 k5 k6 k7
  by_cases h1 : a0 < 0
  · skip
    have HQ0 : Hid (S.act ⟨2, a0, b0, c0, ⟨qr, qw, ql, qb⟩⟩ = (S, 1)) := hide (by rw [act2 rfl]; exact create_bad (by simp only []; omega))
    have a0' := HI1.out.ds.cell 0
    have a1' := HI1.out.ds.cell 1
    have a2' := HI1.out.ds.cell 2
    have a3' := HI1.out.ds.cell 3
    have r0' := HI1.out.dr.cell 0
    have r1' := HI1.out.dr.cell 1
    have r2' := HI1.out.dr.cell 2
    have r3' := HI1.out.dr.cell 3
    have rf' := HI1.out.dr.frozen
    simp only [DV.cells, List.getElem?_cons_succ, List.getElem?_cons_zero] at a0' a1' a2' a3' r0' r1' r2' r3'
    have HRT := hide (HI1.out.ret (a0 := av) (fun z hz => by first | exact hz | exact List.mem_cons_of_mem _ hz) (A1 := .slice Ap 16 cp) (A2 := .slice Av V.length cv) (A3 := .slice Ac C.length cc) (z := .int .i64 S.nx))
    go_wp2
    refine bodyPost_ret (v := .tuple #[.agg #[.slice Ap 16 cp, .slice Av V.length cv, .slice Ac C.length cc, .int .i64 S.nx], .int .i64 1]) (by simp [results, Tryz.results20, go_sem, r0', r1', r2', r3']) rfl ?_
    rw [HQ0.out]
    exact ⟨⟨Ap, cp, V, Av, cv, C, Ac, cc⟩, rfl, HRT.out.1, HRT.out.2⟩
  by_cases h2 : 63 < a0
  · skip
    have HQ0 : Hid (S.act ⟨2, a0, b0, c0, ⟨qr, qw, ql, qb⟩⟩ = (S, 1)) := hide (by rw [act2 rfl]; exact create_bad (by simp only []; omega))
    have a0' := HI1.out.ds.cell 0
    have a1' := HI1.out.ds.cell 1
    have a2' := HI1.out.ds.cell 2
    have a3' := HI1.out.ds.cell 3
    have r0' := HI1.out.dr.cell 0
    have r1' := HI1.out.dr.cell 1
    have r2' := HI1.out.dr.cell 2
    have r3' := HI1.out.dr.cell 3
    have rf' := HI1.out.dr.frozen
    simp only [DV.cells, List.getElem?_cons_succ, List.getElem?_cons_zero] at a0' a1' a2' a3' r0' r1' r2' r3'
    have HRT := hide (HI1.out.ret (a0 := av) (fun z hz => by first | exact hz | exact List.mem_cons_of_mem _ hz) (A1 := .slice Ap 16 cp) (A2 := .slice Av V.length cv) (A3 := .slice Ac C.length cc) (z := .int .i64 S.nx))
    go_wp2
    refine bodyPost_ret (v := .tuple #[.agg #[.slice Ap 16 cp, .slice Av V.length cv, .slice Ac C.length cc, .int .i64 S.nx], .int .i64 1]) (by simp [results, Tryz.results20, go_sem, r0', r1', r2', r3']) rfl ?_
    rw [HQ0.out]
    exact ⟨⟨Ap, cp, V, Av, cv, C, Ac, cc⟩, rfl, HRT.out.1, HRT.out.2⟩
  by_cases h3 : b0 < 1
  · skip
    have HQ0 : Hid (S.act ⟨2, a0, b0, c0, ⟨qr, qw, ql, qb⟩⟩ = (S, 1)) := hide (by rw [act2 rfl]; exact create_bad (by simp only []; omega))
    have a0' := HI1.out.ds.cell 0
    have a1' := HI1.out.ds.cell 1
    have a2' := HI1.out.ds.cell 2
    have a3' := HI1.out.ds.cell 3
    have r0' := HI1.out.dr.cell 0
    have r1' := HI1.out.dr.cell 1
    have r2' := HI1.out.dr.cell 2
    have r3' := HI1.out.dr.cell 3
    have rf' := HI1.out.dr.frozen
    simp only [DV.cells, List.getElem?_cons_succ, List.getElem?_cons_zero] at a0' a1' a2' a3' r0' r1' r2' r3'
    have HRT := hide (HI1.out.ret (a0 := av) (fun z hz => by first | exact hz | exact List.mem_cons_of_mem _ hz) (A1 := .slice Ap 16 cp) (A2 := .slice Av V.length cv) (A3 := .slice Ac C.length cc) (z := .int .i64 S.nx))
    go_wp2
    refine bodyPost_ret (v := .tuple #[.agg #[.slice Ap 16 cp, .slice Av V.length cv, .slice Ac C.length cc, .int .i64 S.nx], .int .i64 1]) (by simp [results, Tryz.results20, go_sem, r0', r1', r2', r3']) rfl ?_
    rw [HQ0.out]
    exact ⟨⟨Ap, cp, V, Av, cv, C, Ac, cc⟩, rfl, HRT.out.1, HRT.out.2⟩
  by_cases h4 : 512 < b0
  · skip
    have HQ0 : Hid (S.act ⟨2, a0, b0, c0, ⟨qr, qw, ql, qb⟩⟩ = (S, 1)) := hide (by rw [act2 rfl]; exact create_bad (by simp only []; omega))
    have a0' := HI1.out.ds.cell 0
    have a1' := HI1.out.ds.cell 1
    have a2' := HI1.out.ds.cell 2
    have a3' := HI1.out.ds.cell 3
    have r0' := HI1.out.dr.cell 0
    have r1' := HI1.out.dr.cell 1
    have r2' := HI1.out.dr.cell 2
    have r3' := HI1.out.dr.cell 3
    have rf' := HI1.out.dr.frozen
    simp only [DV.cells, List.getElem?_cons_succ, List.getElem?_cons_zero] at a0' a1' a2' a3' r0' r1' r2' r3'
    have HRT := hide (HI1.out.ret (a0 := av) (fun z hz => by first | exact hz | exact List.mem_cons_of_mem _ hz) (A1 := .slice Ap 16 cp) (A2 := .slice Av V.length cv) (A3 := .slice Ac C.length cc) (z := .int .i64 S.nx))
    go_wp2
    refine bodyPost_ret (v := .tuple #[.agg #[.slice Ap 16 cp, .slice Av V.length cv, .slice Ac C.length cc, .int .i64 S.nx], .int .i64 1]) (by simp [results, Tryz.results20, go_sem, r0', r1', r2', r3']) rfl ?_
    rw [HQ0.out]
    exact ⟨⟨Ap, cp, V, Av, cv, C, Ac, cc⟩, rfl, HRT.out.1, HRT.out.2⟩
  by_cases h5 : c0 < 1
  · skip
    have HQ0 : Hid (S.act ⟨2, a0, b0, c0, ⟨qr, qw, ql, qb⟩⟩ = (S, 1)) := hide (by rw [act2 rfl]; exact create_bad (by simp only []; omega))
    have a0' := HI1.out.ds.cell 0
    have a1' := HI1.out.ds.cell 1
    have a2' := HI1.out.ds.cell 2
    have a3' := HI1.out.ds.cell 3
    have r0' := HI1.out.dr.cell 0
    have r1' := HI1.out.dr.cell 1
    have r2' := HI1.out.dr.cell 2
    have r3' := HI1.out.dr.cell 3
    have rf' := HI1.out.dr.frozen
    simp only [DV.cells, List.getElem?_cons_succ, List.getElem?_cons_zero] at a0' a1' a2' a3' r0' r1' r2' r3'
    have HRT := hide (HI1.out.ret (a0 := av) (fun z hz => by first | exact hz | exact List.mem_cons_of_mem _ hz) (A1 := .slice Ap 16 cp) (A2 := .slice Av V.length cv) (A3 := .slice Ac C.length cc) (z := .int .i64 S.nx))
    go_wp2
    refine bodyPost_ret (v := .tuple #[.agg #[.slice Ap 16 cp, .slice Av V.length cv, .slice Ac C.length cc, .int .i64 S.nx], .int .i64 1]) (by simp [results, Tryz.results20, go_sem, r0', r1', r2', r3']) rfl ?_
    rw [HQ0.out]
    exact ⟨⟨Ap, cp, V, Av, cv, C, Ac, cc⟩, rfl, HRT.out.1, HRT.out.2⟩
  by_cases h6 : 3 < c0
  · skip
    have HQ0 : Hid (S.act ⟨2, a0, b0, c0, ⟨qr, qw, ql, qb⟩⟩ = (S, 1)) := hide (by rw [act2 rfl]; exact create_bad (by simp only []; omega))
    have a0' := HI1.out.ds.cell 0
    have a1' := HI1.out.ds.cell 1
    have a2' := HI1.out.ds.cell 2
    have a3' := HI1.out.ds.cell 3
    have r0' := HI1.out.dr.cell 0
    have r1' := HI1.out.dr.cell 1
    have r2' := HI1.out.dr.cell 2
    have r3' := HI1.out.dr.cell 3
    have rf' := HI1.out.dr.frozen
    simp only [DV.cells, List.getElem?_cons_succ, List.getElem?_cons_zero] at a0' a1' a2' a3' r0' r1' r2' r3'
    have HRT := hide (HI1.out.ret (a0 := av) (fun z hz => by first | exact hz | exact List.mem_cons_of_mem _ hz) (A1 := .slice Ap 16 cp) (A2 := .slice Av V.length cv) (A3 := .slice Ac C.length cc) (z := .int .i64 S.nx))
    go_wp2
    refine bodyPost_ret (v := .tuple #[.agg #[.slice Ap 16 cp, .slice Av V.length cv, .slice Ac C.length cc, .int .i64 S.nx], .int .i64 1]) (by simp [results, Tryz.results20, go_sem, r0', r1', r2', r3']) rfl ?_
    rw [HQ0.out]
    exact ⟨⟨Ap, cp, V, Av, cv, C, Ac, cc⟩, rfl, HRT.out.1, HRT.out.2⟩
  obtain ⟨pk, hpk⟩ : ∃ pk, right qr qw ql qb = pk := ⟨_, rfl⟩
  have HPK := hide hpk
  go_wp2_with fail
  refine (rRight_calls qr qw ql qb w1).mono ?_
  rintro e w2 ⟨rfl, hb2⟩
  have HI2 := hide (HI1.out.below hb2)
  rw [hpk]
  clear hpk hb2 kc k1 k2 k3 k4 k5 k6 k7
  cases pk with
  | false =>
    have HQ0 : Hid (S.act ⟨2, a0, b0, c0, ⟨qr, qw, ql, qb⟩⟩ = (S, 1)) := hide (by rw [act2 rfl]; exact create_bad (fun h => by have h8 := h.2.2.2.2.2.2; have h9 := HPK.out; unfold Pol.ok at h8; simp only [] at h8; rw [h9] at h8; cases h8))
    have a0' := HI2.out.ds.cell 0
    have a1' := HI2.out.ds.cell 1
    have a2' := HI2.out.ds.cell 2
    have a3' := HI2.out.ds.cell 3
    have r0' := HI2.out.dr.cell 0
    have r1' := HI2.out.dr.cell 1
    have r2' := HI2.out.dr.cell 2
    have r3' := HI2.out.dr.cell 3
    have rf' := HI2.out.dr.frozen
    simp only [DV.cells, List.getElem?_cons_succ, List.getElem?_cons_zero] at a0' a1' a2' a3' r0' r1' r2' r3'
    have HRT := hide (HI2.out.ret (a0 := av) (fun z hz => by first | exact hz | exact List.mem_cons_of_mem _ hz) (A1 := .slice Ap 16 cp) (A2 := .slice Av V.length cv) (A3 := .slice Ac C.length cc) (z := .int .i64 S.nx))
    go_wp2
    refine bodyPost_ret (v := .tuple #[.agg #[.slice Ap 16 cp, .slice Av V.length cv, .slice Ac C.length cc, .int .i64 S.nx], .int .i64 1]) (by simp [results, Tryz.results20, go_sem, r0', r1', r2', r3']) rfl ?_
    rw [HQ0.out]
    exact ⟨⟨Ap, cp, V, Av, cv, C, Ac, cc⟩, rfl, HRT.out.1, HRT.out.2⟩
  | true =>
    have hgood : 0 ≤ a0 ∧ a0 ≤ 63 ∧ 1 ≤ b0 ∧ b0 ≤ 512 ∧ 1 ≤ c0 ∧ c0 ≤ 3 ∧ (⟨qr, qw, ql, qb⟩ : Pol).ok = true := ⟨by omega, by omega, by omega, by omega, by omega, by omega, HPK.out⟩
    have HG := hide hgood
    go_upto_region 11 with fail
    clear h1 h2 h3 h4 h5 h6 hgood
    obtain ⟨cn, hcn⟩ : ∃ cn : Nat, c0 = cn := ⟨c0.toNat, by have := HG.out; omega⟩
    subst hcn
    rcases HAT.out with ⟨hno, rfl⟩ | ⟨at_, hat, hid, rfl⟩
    · have HNO := hide hno
      clear hno HAT
      have HCNT := hide (fun w' (hb : Below w2.heap.size w2 w') => dcount_calls w' _ ⟨Ap, cp, V, Av, cv, C, Ac, cc⟩ S S.nx (HI2.out.dd.dm.below hb) HO.out.so)
      unfold DV.val DV.cells at HCNT
      simp only [] at HCNT
      obtain ⟨sl, hsl⟩ : ∃ sl : Nat, S.sv.length = sl := ⟨_, rfl⟩
      rw [hsl] at HCNT
      have HSL := hide hsl
      clear hsl
      have z0 := HI2.out.ds.rule 0 _ rfl
      have z1 := HI2.out.ds.rule 1 _ rfl
      have z2 := HI2.out.ds.rule 2 _ rfl
      have z3 := HI2.out.ds.rule 3 _ rfl
      have y3 := HI2.out.dc.rule 3 _ rfl
      have y1 := HI2.out.dc.rule 1 _ rfl
      have r2 := Below.refl w2.heap.size w2
      have hc3 : (0 : Int) ≤ sl := by omega
      go_upto_region 13 with fail
      refine lxR (fun w' => Below w2.heap.size w2 w') [] 0 [(0, 0), (2, 2), (0, 3), (1, 1), (2, 4)] #[true, true, true, true, true] (by kernel_rfl) (by kernel_rfl) (by decide) (by kernel_rfl) (by kernel_rfl) (fun _ _ _ _ _ h => h) (by (first | assumption | exact r2.drew)) (fun hS0 => ?_)
      simp only [List.map_cons, List.map_nil, List.getElem?_toArray, List.getElem?_cons_succ, List.getElem?_cons_zero]
      (apply lxT (by rfl); (focus (intro w hw; (try dsimp only at hw); go_simp; (try with_reducible rfl); done)); simp only [Act.put, zA39, zB39, zC39]); (apply lxP (by rfl); (focus (intro w; go_simp; (try with_reducible rfl); done)); simp only [Act.put, zA39, zB39, zC39]); (apply lxT (by rfl); (focus (intro w hw; (try dsimp only at hw); go_simp; (try with_reducible rfl); done)); simp only [Act.put, zA39, zB39, zC39]); (refine lxE (by rfl) ?_; go_simp; ((go_at_call 48; refine (HCNT.out _ (by assumption)).mono ?_; rintro e w3 ⟨rfl, hb3⟩; have hb3q : Below w2.heap.size w2 w3 := bwP hb3 (by assumption); clear hb3)); refine lxB (by (first | assumption | exact r2.drew)) (fun hS1 => ?_)); (apply lxP (by rfl); (focus (intro w; go_simp; (try with_reducible rfl); done)); simp only [Act.put, zA39, zB39, zC39])
      refine lxN (fun _ => wqD (by kernel_rfl) ?_ _)
      rename_i hunm
      clear hunm
      have HI3 := hide (HI2.out.below hb3q)
      clear z0 z2 z3 r2 hc3 hS0 hS1
      by_cases hfew : (sl : Int) < cn
      · have HQ0 : Hid (S.act ⟨2, a0, b0, cn, ⟨qr, qw, ql, qb⟩⟩ = (S, 7)) := hide (by rw [act2 rfl]; exact create_few HG.out HNO.out (by rw [HSL.out]; exact hfew))
        clear z1 y3 y1 hb3q
        have a0' := HI3.out.ds.cell 0
        have a1' := HI3.out.ds.cell 1
        have a2' := HI3.out.ds.cell 2
        have a3' := HI3.out.ds.cell 3
        have r0' := HI3.out.dr.cell 0
        have r1' := HI3.out.dr.cell 1
        have r2' := HI3.out.dr.cell 2
        have r3' := HI3.out.dr.cell 3
        have rf' := HI3.out.dr.frozen
        simp only [DV.cells, List.getElem?_cons_succ, List.getElem?_cons_zero] at a0' a1' a2' a3' r0' r1' r2' r3'
        have HRT := hide (HI3.out.ret (a0 := av) (fun z hz => by first | exact hz | exact List.mem_cons_of_mem _ hz) (A1 := .slice Ap 16 cp) (A2 := .slice Av V.length cv) (A3 := .slice Ac C.length cc) (z := .int .i64 S.nx))
        go_wp2
        refine bodyPost_ret (v := .tuple #[.agg #[.slice Ap 16 cp, .slice Av V.length cv, .slice Ac C.length cc, .int .i64 S.nx], .int .i64 7]) (by simp [results, Tryz.results20, go_sem, r0', r1', r2', r3']) rfl ?_
        rw [HQ0.out]
        exact ⟨⟨Ap, cp, V, Av, cv, C, Ac, cc⟩, rfl, HRT.out.1, HRT.out.2⟩
      · have HQ9 : Hid (S.act ⟨2, a0, b0, cn, ⟨qr, qw, ql, qb⟩⟩ = (S.grow ⟨a0, b0, ⟨qr, qw, ql, qb⟩, 1, []⟩ cn, 0)) := hide (by rw [act2 rfl]; exact create_yes HG.out HNO.out (by rw [HSL.out]; exact hfew))
        clear z1 y3 y1 hb3q
        go_wp2_with fail
        clear hfew
        go_loopw [7, 97, 98, 99, 100, 101, 102, 103, 104, 105, 106, 107, 108, 109, 110, 111, 112, 113, 114] (fun i _ _ _ _ _ _ _ _ _ _ _ _ _ _ _ _ _ _ wr => ∃ k : Nat, k ≤ V.length ∧ i = .int .i64 k ∧ (∀ y ∈ S.vs.take k, y.id < a0) ∧ Below w3.heap.size w3 wr) (fun i _ _ _ _ _ _ _ _ _ _ _ _ _ _ _ _ _ _ _ => V.length - (intOf i).toNat)
        case atStart => exact ⟨0, Nat.zero_le _, rfl, by simp, Below.refl _ _⟩
        case round =>
          obtain ⟨k, hkV, rfl, hlts, hb⟩ := hrel
          have HB := hide hb
          have HLT := hide hlts
          have HIW := hide (HI3.out.below hb)
          have e1 := HIW.out.ds.rule 1 _ rfl
          have y1 := HIW.out.dc.rule 1 _ rfl
          have rr := Below.refl wr.heap.size wr
          have hlV0 : S.vs.length = V.length := HIW.out.dd.lenV.symm
          have HLV := hide hlV0
          clear hlts hb hlV0
          by_cases hlt : k < V.length
          · obtain ⟨b, o, eV, hbb, hcell⟩ := HIW.out.dd.dm.atV (k := k) hlt
            obtain ⟨y, hy⟩ : ∃ y, V[k] = y := ⟨_, rfl⟩
            have hyv : S.vs[k]'(by rw [HLV.out]; exact hlt) = y.v := by rw [← hy]; exact HIW.out.dd.dm.getV hlt
            simp only [] at eV
            subst eV
            simp only [] at hcell
            rw [hy] at hcell
            have g0 : ∀ w', Below wr.heap.size wr w' → w'.cell? ⟨b, o + k * 8, none⟩ = some (.int .i64 y.v.id) := fun w' hb => hcell w' hb 0 (by omega)
            have i1 : (k : Int) < V.length := by omega
            obtain ⟨vid, hvid⟩ : ∃ vid, y.v.id = vid := ⟨_, rfl⟩
            rw [hvid] at g0
            have HY := hide (And.intro hyv hvid)
            clear hcell hyv hy hvid
            go_upto_region 16 with fail
            refine region_q (fun w' => Below wr.heap.size wr w') (by kernel_rfl) (by kernel_rfl) (by (exact rr.drew)) ?_
            (iterate 6 ((refine wq_step (fun K hK => ?_); apply q_take (by rfl); (focus (intro w hw; (try dsimp only at hw); go_simp; (try with_reducible rfl); done)); simp only [Act.put, zA39, zB39, zC39]; refine hK _ ?_; clear hK K))); (iterate 9 ((refine wq_step (fun K hK => ?_); apply q_take (by kernel_rfl); (focus (intro w hw; (try dsimp only at hw); go_simp; (try with_reducible rfl); done)); simp only [Act.put, zA39, zB39, zC39]; refine hK _ ?_; clear hK K))); (refine wq_step (fun K hK => ?_); apply q_take (by rfl); (focus (intro w hw; (try dsimp only at hw); go_simp; (try with_reducible rfl); done)); simp only [Act.put, zA39, zB39, zC39]; refine hK _ ?_; clear hK K)
            refine wq_nil ?_
            intro wq hwq
            have hbq : Below w3.heap.size w3 wq := HB.out.trans (hwq.mono HB.out.size)
            clear g0 e1 y1 rr hwq
            by_cases hid : vid < a0
            · have HBQ := hide hbq
              have hnx : ∀ y ∈ S.vs.take (k + 1), y.id < a0 := by
                rw [List.take_succ_eq_append_getElem (by rw [HLV.out]; exact hlt)]
                intro z hz
                rcases List.mem_append.1 hz with hz | hz
                · exact HLT.out z hz
                · rw [List.mem_singleton.1 hz, HY.out.1, HY.out.2]; exact hid
              have HNX := hide hnx
              clear hbq hnx
              go_wp2
              go_roundw
              case rel => exact ⟨k + 1, by omega, by go_num, HNX.out, HBQ.out⟩
              case measure => simp [intOf]; omega
            · have hlts := HLT.out
              have hgt : ∀ h : k < S.vs.length, a0 < S.vs[k].id := fun h => by
                have h1 : S.vs[k].id ≠ a0 := fun e => by
                  have h2 := fd_none.1 HNO.out S.vs[k] (List.getElem_mem _)
                  exact h2 e
                have h3 : S.vs[k].id = vid := by rw [← HY.out.2, ← HY.out.1]
                omega
              have d0 : decide (vid < a0) = false := decide_eq_false hid
              clear HLT HB HIW HY
              have HIR := hide (HI3.out.below hbq)
              have HKV := hide (And.intro hkV (And.intro hlts hgt))
              have kcv : (k : Int) ≤ cv := by have := HCV.out; omega
              have kcv2 : k ≤ V.length := hkV
              have e1 := (HIR.out.ds.alloc (.cells #[] 43)).cell 1
              simp only [DV.cells, List.getElem?_cons_succ, List.getElem?_cons_zero] at e1
              have HRD := hide (HIR.out.dd.ov.rd)
              simp only [] at HRD
              have HRT := hide (HRD.out.take (k := k) hkV)
              rw [← flatC_take voLen V k] at HRT
              clear hlts hgt hbq hkV
              go_wp2_with (at_builtin; refine wpl_app1 _ rfl _ _ 28 rfl 43 i2 _ 8 80 Tryz.underlying28 hi2 hv0 hv1 hv2 rfl wq.heap.size (Blk.new (cs := []) rfl) rfl (some (⟨b, o, none⟩ : Addr)) k cv wq.heap.size (flatC VoM.cells (V.take k)) rfl (HRT.out.alloc (Nat.le_refl _) _) ?c1 ?c3 ?c4 ?_)
              case c1 => exact flatC_one voCells_one _
              case c3 => unfold maxLen; omega
              case c4 => omega
              intro g5 c5 w5 ho5 hb5 hg5 hgl5
              have hb5q : Below wq.heap.size wq w5 := ((Below.refl _ wq).alloc (Nat.le_refl _) _).trans (hb5.mono (by simp))
              have HI5 := hide (HIR.out.below hb5q)
              have x1 := HI5.out.dc.cell 1
              have x2 := HI5.out.dc.cell 2
              have x4 := HI5.out.dc.cell 4
              have x5 := HI5.out.dc.cell 5
              have x6 := HI5.out.dc.cell 6
              have x7 := HI5.out.dc.cell 7
              simp only [Cmd.cells, List.getElem?_cons_succ, List.getElem?_cons_zero] at x1 x2 x4 x5 x6 x7
              have hg5q : wq.heap.size ≤ g5 := by first | omega | (simp at hg5; omega)
              have HO5 := hide (own_chg ho5 (Chg.of_below (L := []) ((Below.refl _ w5).alloc (Nat.le_refl _) (.cells #[.int .i64 a0, .int .i64 b0, .int .i64 qr, .int .i64 qw, .int .i64 ql, .int .i64 qb, .int .i64 1, .slice none 0 0] 43))) (fun _ _ hx => by cases hx))
              have HB5 := hide (And.intro hb5q hg5q)
              clear ho5 hb5 hg5 hgl5 e1 hb5q hg5q
              go_wp2_with (at_builtin; refine app_law rfl _ _ 28 rfl 43 i2 _ 8 80 Tryz.underlying28 hi2 hv0 hv1 hv2 rfl (by decide) (.slice (some ⟨g5, 0, none⟩) k c5) k (flatC VoM.cells (V.take k)) rfl HO5.out w5.heap.size 1 1 [.int .i64 a0, .int .i64 b0, .int .i64 qr, .int .i64 qw, .int .i64 ql, .int .i64 qb, .int .i64 1, .slice none 0 0] rfl (Blk.new rfl) rfl ?c1 (by decide) ?c3 ?c4 ?_)
              case c1 => intro u hu; simp only [List.mem_cons, List.mem_nil_iff, or_false] at hu; rcases hu with rfl | rfl | rfl | rfl | rfl | rfl | rfl | rfl <;> rfl
              case c3 => unfold maxLen; omega
              case c4 => omega
              intro g6 c6 w6 ho6 hch6 hor6 hgl6
              rw [owS] at hch6 hor6
              have hb6q : Below wq.heap.size wq w6 := Chg.onto (bwA HB5.out.1 _) (by have := HB5.out.1.size; simp; omega) hch6 (fun z hz => by simp at hz; have := HB5.out.2; omega)
              have hg6q : wq.heap.size ≤ g6 := by
                rcases hor6 with e | e
                · have : g5 = g6 := by simpa using e
                  have := HB5.out.2
                  omega
                · have := HB5.out.1.size
                  first | omega | (simp at e; omega)
              have HI6 := hide (HIR.out.below hb6q)
              have e1 := HI6.out.ds.cell 1
              have f1 := HI6.out.ds.frozen 1
              simp only [DV.cells, List.getElem?_cons_succ, List.getElem?_cons_zero] at e1
              obtain ⟨A3, hA3⟩ : ∃ A3 : Option Addr, (if cv = k then (some (⟨b, o, none⟩ : Addr)) else ((some (⟨b, o, none⟩ : Addr))).map (·.add (k * 8))) = A3 := ⟨_, rfl⟩
              have hsl := run_cut (P := Tryz.prog) (t := 28) Tryz.underlying28 (fun _ => by kernel_rfl) kcv2 hA3 (c := cv)
              have HRC := hide ((HRD.out.cut (k := k) (cap := cv) kcv2 (by have := HCV.out; omega)).below hb6q)
              rw [hA3, ← flatC_drop voLen V k] at HRC
              obtain ⟨nd, hnd⟩ : ∃ nd, V.length - k = nd := ⟨_, rfl⟩
              rw [hnd] at hsl HRC
              have HND := hide hnd
              have HO6 := hide (And.intro ho6 (And.intro hb6q hg6q))
              have hle : k + 1 + nd ≤ 1000 := by omega
              have HLE := hide hle
              clear ho6 hch6 hor6 hgl6 hA3 hnd hb6q hg6q hle x1 x2 x4 x5 x6 x7
              go_wp2_with (at_builtin; refine app_lawR rfl _ _ 28 rfl 43 i2 _ 8 80 Tryz.underlying28 hi2 hv0 hv1 hv2 rfl (by decide) g6 (k + 1) c6 (flatC VoM.cells (V.take k) ++ [.int .i64 a0, .int .i64 b0, .int .i64 qr, .int .i64 qw, .int .i64 ql, .int .i64 qb, .int .i64 1, .slice none 0 0]) rfl HO6.out.1 A3 nd (cv - k) wq.heap.size (flatC VoM.cells (V.drop k)) rfl HRC.out ?c1 ?c3 ?c4 ?_)
              case c1 => exact flatC_one voCells_one _
              case c3 => have := HLE.out; unfold maxLen; omega
              case c4 => have := HLE.out; omega
              intro g7 c7 w7 ho7 hch7 hor7 hgl7
              have hb7q : Below wq.heap.size wq w7 := Chg.onto HO6.out.2.1 HO6.out.2.1.size hch7 (fun z hz => by rw [List.mem_singleton.1 hz]; exact HO6.out.2.2)
              have hg7q : wq.heap.size ≤ g7 := by
                rcases hor7 with e | e
                · have := HO6.out.2.2; omega
                · rw [e]; exact HO6.out.2.1.size
              obtain ⟨nv, hnv⟩ : ∃ nv : VoM, (⟨⟨a0, b0, ⟨qr, qw, ql, qb⟩, 1, []⟩, none, 0⟩ : VoM) = nv := ⟨_, rfl⟩
              obtain ⟨V2, hV2⟩ : ∃ V2, V.take k ++ nv :: V.drop k = V2 := ⟨_, rfl⟩
              obtain ⟨vs2, hvs2⟩ : ∃ vs2, S.vs.take k ++ (⟨a0, b0, ⟨qr, qw, ql, qb⟩, 1, []⟩ : Vo) :: S.vs.drop k = vs2 := ⟨_, rfl⟩
              have hlV : k + 1 + nd = V2.length := by rw [← hV2, List.length_append, List.length_cons, List.length_take, List.length_drop, HND.out]; omega
              have hfV : flatC VoM.cells V2 = flatC VoM.cells (V.take k) ++ (.int .i64 a0 :: .int .i64 b0 :: .int .i64 qr :: .int .i64 qw :: .int .i64 ql :: .int .i64 qb :: .int .i64 1 :: .slice none 0 0 :: flatC VoM.cells (V.drop k)) := by
                rw [← hV2, flatC_app, ← hnv]
                rfl
              have hmV : V2.map VoM.v = vs2 := by
                rw [← hV2, ← hvs2, ← HIR.out.dd.eV, List.map_append, List.map_cons, List.map_take, List.map_drop, ← hnv]
              have hmem : ∀ y ∈ V2, y ∈ V ∨ (y.A = none ∧ y.v.ch = []) := fun y hy => by
                rw [← hV2] at hy
                rcases List.mem_append.1 hy with hy | hy
                · exact Or.inl (List.mem_of_mem_take hy)
                · rcases List.mem_cons.1 hy with hy | hy
                  · rw [hy, ← hnv]; exact Or.inr ⟨rfl, rfl⟩
                  · exact Or.inl (List.mem_of_mem_drop hy)
              have hk2 : k < V2.length := by omega
              have hget : V2[k] = nv := by
                have h1 : V2[k]? = some nv := by rw [← hV2, List.getElem?_append_right (by rw [List.length_take]; omega), List.length_take, Nat.min_eq_left kcv2, Nat.sub_self]; rfl
                rw [List.getElem?_eq_getElem hk2] at h1
                exact Option.some.inj h1
              (try simp only [List.append_assoc, List.cons_append, List.nil_append] at ho7)
              rw [hlV, ← hfV] at ho7
              have hI8 := HIR.out.newV (V := V2) (g := g7) (c := c7) (vs := vs2) hb7q ho7 hg7q hmem hmV
              simp only [] at hI8
              have hcr : S.grow ⟨a0, b0, ⟨qr, qw, ql, qb⟩, 1, []⟩ cn = { (growN (lack b0 []) { S with vs := vs2 } a0 [] cn).1 with vs := vs2.set k { (⟨a0, b0, ⟨qr, qw, ql, qb⟩, 1, []⟩ : Vo) with ch := (growN (lack b0 []) { S with vs := vs2 } a0 [] cn).2 } } :=
                create_in (S := S) (q := ⟨2, a0, b0, cn, ⟨qr, qw, ql, qb⟩⟩) (by have := HIR.out.dd.lenV; simp only [] at this; omega) HKV.out.2.1 HKV.out.2.2 hvs2
              have HQ0 := hide HQ9.out
              rw [hcr] at HQ0
              obtain ⟨w8, hw8⟩ : ∃ w8, w7.setCell ⟨bs, 1, none⟩ (.slice (some ⟨g7, 0, none⟩) V2.length c7) = w8 := ⟨_, rfl⟩
              rw [hw8] at hI8
              have HIZ := hide hI8
              have hlen := HO.out.lens (by omega)
              have HFILL := hide (dfill_calls W w8 (g7 :: no) (bs :: bc :: br :: g7 :: av) ⟨Ap, cp, V2, some ⟨g7, 0, none⟩, c7, C, Ac, cc⟩ { S with vs := vs2 } k cn nv hI8.dd hI8.bW hk2 hget ⟨HO.out.svr, HO.out.sva⟩ (fun z hz => (HO.out.csa z hz).2.1) (by simp only []; omega) HO.out.nx1 (by rw [← hnv]; exact HG.out.2.2.1) (by rw [← hnv]; exact HG.out.2.2.2.1) (by simp only []; have := HLE.out; omega) (by simp only []; omega) (by have := HG.out; omega) (by rw [← hnv]; simp))
              rw [← hnv] at HFILL
              simp only [] at HFILL
              rw [hlV]
              have q1 := (HIR.out.ds.below hb7q).cell 1
              have f7 := (HIR.out.ds.below hb7q).frozen 1
              simp only [DV.cells, List.getElem?_cons_succ, List.getElem?_cons_zero] at q1
              have HW8 := hide hw8
              have HNV := hide (And.intro hnv (And.intro hV2 hvs2))
              clear hnv hV2 hvs2 hlV hfV hmV hmem hk2 hget ho7 hch7 hor7 hgl7 hb7q hg7q hI8 hcr hw8 hlen e1 f1 hsl kcv kcv2
              go_upto_region 21 with fail
              rw [HW8.out]
              clear q1 f7
              have x3 := HIZ.out.dc.cell 3
              simp only [Cmd.cells, List.getElem?_cons_succ, List.getElem?_cons_zero] at x3
              unfold DV.val DV.cells at HFILL
              simp only [] at HFILL
              have e0 := HIZ.out.ds.cell 0
              have e1 := HIZ.out.ds.cell 1
              have e2 := HIZ.out.ds.cell 2
              have e3 := HIZ.out.ds.cell 3
              simp only [DV.cells, List.getElem?_cons_succ, List.getElem?_cons_zero] at e0 e1 e2 e3
              go_wp2_with fail
              refine HFILL.out.mono ?_
              rintro e wf ⟨⟨A1, c1, V1, B1, d1, C1, D1, e1'⟩, rfl, ⟨no', av', hD, hn', ha'⟩, hW2, hC2⟩
              have HRT := hide (HIZ.out.retF hD hn' ha' (a0 := av) (fun z hz => List.mem_cons_of_mem _ hz) hW2 hC2)
              obtain ⟨R, hR⟩ : ∃ R, growN (lack b0 []) ⟨S.sv, vs2, S.cs, S.nx⟩ a0 [] cn = R := ⟨_, rfl⟩
              rw [hR] at HRT HQ0 ⊢
              have r0' := HRT.out.1.cell 0
              have r1' := HRT.out.1.cell 1
              have r2' := HRT.out.1.cell 2
              have r3' := HRT.out.1.cell 3
              have rf' := HRT.out.1.frozen
              simp only [List.getElem?_cons_succ, List.getElem?_cons_zero] at r0' r1' r2' r3'
              clear hR hD hn' ha' hW2 hC2 e0 e1 e2 e3 HFILL
              go_wp2
              refine bodyPost_ret (v := .tuple #[.agg #[.slice A1 16 c1, .slice B1 V1.length d1, .slice D1 C1.length e1', .int .i64 R.1.nx], .int .i64 0]) (by simp [results, Tryz.results20, go_sem, r0', r1', r2', r3']) rfl ?_
              rw [HQ0.out]
              exact ⟨⟨A1, c1, V1, B1, d1, C1, D1, e1'⟩, rfl, (HRT.out.2 _ _ _ _).1, (HRT.out.2 _ _ _ _).2⟩
          · have hkE : k = V.length := by omega
            have i1 : ¬ (k : Int) < V.length := by omega
            go_upto_region 16 with fail
            refine region_q (fun w' => Below wr.heap.size wr w') (by kernel_rfl) (by kernel_rfl) (by (exact rr.drew)) ?_
            (iterate 6 ((refine wq_step (fun K hK => ?_); apply q_take (by rfl); (focus (intro w hw; (try dsimp only at hw); go_simp; (try with_reducible rfl); done)); simp only [Act.put, zA39, zB39, zC39]; refine hK _ ?_; clear hK K))); (iterate 9 ((refine wq_step (fun K hK => ?_); refine q_skip (by kernel_rfl) ?_; simp only [Act.put, zA39, zB39, zC39]; refine hK _ ?_; clear hK K))); (refine wq_step (fun K hK => ?_); apply q_take (by rfl); (focus (intro w hw; (try dsimp only at hw); go_simp; (try with_reducible rfl); done)); simp only [Act.put, zA39, zB39, zC39]; refine hK _ ?_; clear hK K)
            refine wq_nil ?_
            intro wq hwq
            have hbq : Below w3.heap.size w3 wq := HB.out.trans (hwq.mono HB.out.size)
            have hlts := HLT.out
            have hgt : ∀ h : k < S.vs.length, a0 < S.vs[k].id := fun h => by have := HLV.out; omega
            clear e1 y1 rr hwq HLT HB HIW hkE
            have HIR := hide (HI3.out.below hbq)
            have HKV := hide (And.intro hkV (And.intro hlts hgt))
            have kcv : (k : Int) ≤ cv := by have := HCV.out; omega
            have kcv2 : k ≤ V.length := hkV
            have e1 := (HIR.out.ds.alloc (.cells #[] 43)).cell 1
            simp only [DV.cells, List.getElem?_cons_succ, List.getElem?_cons_zero] at e1
            have HRD := hide (HIR.out.dd.ov.rd)
            simp only [] at HRD
            have HRT := hide (HRD.out.take (k := k) hkV)
            rw [← flatC_take voLen V k] at HRT
            clear hlts hgt hbq hkV
            go_wp2_with (at_builtin; refine wpl_app1 _ rfl _ _ 28 rfl 43 i2 _ 8 80 Tryz.underlying28 hi2 hv0 hv1 hv2 rfl wq.heap.size (Blk.new (cs := []) rfl) rfl Av k cv wq.heap.size (flatC VoM.cells (V.take k)) rfl (HRT.out.alloc (Nat.le_refl _) _) ?c1 ?c3 ?c4 ?_)
            case c1 => exact flatC_one voCells_one _
            case c3 => unfold maxLen; omega
            case c4 => omega
            intro g5 c5 w5 ho5 hb5 hg5 hgl5
            have hb5q : Below wq.heap.size wq w5 := ((Below.refl _ wq).alloc (Nat.le_refl _) _).trans (hb5.mono (by simp))
            have HI5 := hide (HIR.out.below hb5q)
            have x1 := HI5.out.dc.cell 1
            have x2 := HI5.out.dc.cell 2
            have x4 := HI5.out.dc.cell 4
            have x5 := HI5.out.dc.cell 5
            have x6 := HI5.out.dc.cell 6
            have x7 := HI5.out.dc.cell 7
            simp only [Cmd.cells, List.getElem?_cons_succ, List.getElem?_cons_zero] at x1 x2 x4 x5 x6 x7
            have hg5q : wq.heap.size ≤ g5 := by first | omega | (simp at hg5; omega)
            have HO5 := hide (own_chg ho5 (Chg.of_below (L := []) ((Below.refl _ w5).alloc (Nat.le_refl _) (.cells #[.int .i64 a0, .int .i64 b0, .int .i64 qr, .int .i64 qw, .int .i64 ql, .int .i64 qb, .int .i64 1, .slice none 0 0] 43))) (fun _ _ hx => by cases hx))
            have HB5 := hide (And.intro hb5q hg5q)
            clear ho5 hb5 hg5 hgl5 e1 hb5q hg5q
            go_wp2_with (at_builtin; refine app_law rfl _ _ 28 rfl 43 i2 _ 8 80 Tryz.underlying28 hi2 hv0 hv1 hv2 rfl (by decide) (.slice (some ⟨g5, 0, none⟩) k c5) k (flatC VoM.cells (V.take k)) rfl HO5.out w5.heap.size 1 1 [.int .i64 a0, .int .i64 b0, .int .i64 qr, .int .i64 qw, .int .i64 ql, .int .i64 qb, .int .i64 1, .slice none 0 0] rfl (Blk.new rfl) rfl ?c1 (by decide) ?c3 ?c4 ?_)
            case c1 => intro u hu; simp only [List.mem_cons, List.mem_nil_iff, or_false] at hu; rcases hu with rfl | rfl | rfl | rfl | rfl | rfl | rfl | rfl <;> rfl
            case c3 => unfold maxLen; omega
            case c4 => omega
            intro g6 c6 w6 ho6 hch6 hor6 hgl6
            rw [owS] at hch6 hor6
            have hb6q : Below wq.heap.size wq w6 := Chg.onto (bwA HB5.out.1 _) (by have := HB5.out.1.size; simp; omega) hch6 (fun z hz => by simp at hz; have := HB5.out.2; omega)
            have hg6q : wq.heap.size ≤ g6 := by
              rcases hor6 with e | e
              · have : g5 = g6 := by simpa using e
                have := HB5.out.2
                omega
              · have := HB5.out.1.size
                first | omega | (simp at e; omega)
            have HI6 := hide (HIR.out.below hb6q)
            have e1 := HI6.out.ds.cell 1
            have f1 := HI6.out.ds.frozen 1
            simp only [DV.cells, List.getElem?_cons_succ, List.getElem?_cons_zero] at e1
            obtain ⟨A3, hA3⟩ : ∃ A3 : Option Addr, (if cv = k then Av else (Av).map (·.add (k * 8))) = A3 := ⟨_, rfl⟩
            have hsl := run_cut (P := Tryz.prog) (t := 28) Tryz.underlying28 (fun _ => by kernel_rfl) kcv2 hA3 (c := cv)
            have HRC := hide ((HRD.out.cut (k := k) (cap := cv) kcv2 (by have := HCV.out; omega)).below hb6q)
            rw [hA3, ← flatC_drop voLen V k] at HRC
            obtain ⟨nd, hnd⟩ : ∃ nd, V.length - k = nd := ⟨_, rfl⟩
            rw [hnd] at hsl HRC
            have HND := hide hnd
            have HO6 := hide (And.intro ho6 (And.intro hb6q hg6q))
            have hle : k + 1 + nd ≤ 1000 := by omega
            have HLE := hide hle
            clear ho6 hch6 hor6 hgl6 hA3 hnd hb6q hg6q hle x1 x2 x4 x5 x6 x7
            go_wp2_with (at_builtin; refine app_lawR rfl _ _ 28 rfl 43 i2 _ 8 80 Tryz.underlying28 hi2 hv0 hv1 hv2 rfl (by decide) g6 (k + 1) c6 (flatC VoM.cells (V.take k) ++ [.int .i64 a0, .int .i64 b0, .int .i64 qr, .int .i64 qw, .int .i64 ql, .int .i64 qb, .int .i64 1, .slice none 0 0]) rfl HO6.out.1 A3 nd (cv - k) wq.heap.size (flatC VoM.cells (V.drop k)) rfl HRC.out ?c1 ?c3 ?c4 ?_)
            case c1 => exact flatC_one voCells_one _
            case c3 => have := HLE.out; unfold maxLen; omega
            case c4 => have := HLE.out; omega
            intro g7 c7 w7 ho7 hch7 hor7 hgl7
            have hb7q : Below wq.heap.size wq w7 := Chg.onto HO6.out.2.1 HO6.out.2.1.size hch7 (fun z hz => by rw [List.mem_singleton.1 hz]; exact HO6.out.2.2)
            have hg7q : wq.heap.size ≤ g7 := by
              rcases hor7 with e | e
              · have := HO6.out.2.2; omega
              · rw [e]; exact HO6.out.2.1.size
            obtain ⟨nv, hnv⟩ : ∃ nv : VoM, (⟨⟨a0, b0, ⟨qr, qw, ql, qb⟩, 1, []⟩, none, 0⟩ : VoM) = nv := ⟨_, rfl⟩
            obtain ⟨V2, hV2⟩ : ∃ V2, V.take k ++ nv :: V.drop k = V2 := ⟨_, rfl⟩
            obtain ⟨vs2, hvs2⟩ : ∃ vs2, S.vs.take k ++ (⟨a0, b0, ⟨qr, qw, ql, qb⟩, 1, []⟩ : Vo) :: S.vs.drop k = vs2 := ⟨_, rfl⟩
            have hlV : k + 1 + nd = V2.length := by rw [← hV2, List.length_append, List.length_cons, List.length_take, List.length_drop, HND.out]; omega
            have hfV : flatC VoM.cells V2 = flatC VoM.cells (V.take k) ++ (.int .i64 a0 :: .int .i64 b0 :: .int .i64 qr :: .int .i64 qw :: .int .i64 ql :: .int .i64 qb :: .int .i64 1 :: .slice none 0 0 :: flatC VoM.cells (V.drop k)) := by
              rw [← hV2, flatC_app, ← hnv]
              rfl
            have hmV : V2.map VoM.v = vs2 := by
              rw [← hV2, ← hvs2, ← HIR.out.dd.eV, List.map_append, List.map_cons, List.map_take, List.map_drop, ← hnv]
            have hmem : ∀ y ∈ V2, y ∈ V ∨ (y.A = none ∧ y.v.ch = []) := fun y hy => by
              rw [← hV2] at hy
              rcases List.mem_append.1 hy with hy | hy
              · exact Or.inl (List.mem_of_mem_take hy)
              · rcases List.mem_cons.1 hy with hy | hy
                · rw [hy, ← hnv]; exact Or.inr ⟨rfl, rfl⟩
                · exact Or.inl (List.mem_of_mem_drop hy)
            have hk2 : k < V2.length := by omega
            have hget : V2[k] = nv := by
              have h1 : V2[k]? = some nv := by rw [← hV2, List.getElem?_append_right (by rw [List.length_take]; omega), List.length_take, Nat.min_eq_left kcv2, Nat.sub_self]; rfl
              rw [List.getElem?_eq_getElem hk2] at h1
              exact Option.some.inj h1
            (try simp only [List.append_assoc, List.cons_append, List.nil_append] at ho7)
            rw [hlV, ← hfV] at ho7
            have hI8 := HIR.out.newV (V := V2) (g := g7) (c := c7) (vs := vs2) hb7q ho7 hg7q hmem hmV
            simp only [] at hI8
            have hcr : S.grow ⟨a0, b0, ⟨qr, qw, ql, qb⟩, 1, []⟩ cn = { (growN (lack b0 []) { S with vs := vs2 } a0 [] cn).1 with vs := vs2.set k { (⟨a0, b0, ⟨qr, qw, ql, qb⟩, 1, []⟩ : Vo) with ch := (growN (lack b0 []) { S with vs := vs2 } a0 [] cn).2 } } :=
              create_in (S := S) (q := ⟨2, a0, b0, cn, ⟨qr, qw, ql, qb⟩⟩) (by have := HIR.out.dd.lenV; simp only [] at this; omega) HKV.out.2.1 HKV.out.2.2 hvs2
            have HQ0 := hide HQ9.out
            rw [hcr] at HQ0
            obtain ⟨w8, hw8⟩ : ∃ w8, w7.setCell ⟨bs, 1, none⟩ (.slice (some ⟨g7, 0, none⟩) V2.length c7) = w8 := ⟨_, rfl⟩
            rw [hw8] at hI8
            have HIZ := hide hI8
            have hlen := HO.out.lens (by omega)
            have HFILL := hide (dfill_calls W w8 (g7 :: no) (bs :: bc :: br :: g7 :: av) ⟨Ap, cp, V2, some ⟨g7, 0, none⟩, c7, C, Ac, cc⟩ { S with vs := vs2 } k cn nv hI8.dd hI8.bW hk2 hget ⟨HO.out.svr, HO.out.sva⟩ (fun z hz => (HO.out.csa z hz).2.1) (by simp only []; omega) HO.out.nx1 (by rw [← hnv]; exact HG.out.2.2.1) (by rw [← hnv]; exact HG.out.2.2.2.1) (by simp only []; have := HLE.out; omega) (by simp only []; omega) (by have := HG.out; omega) (by rw [← hnv]; simp))
            rw [← hnv] at HFILL
            simp only [] at HFILL
            rw [hlV]
            have q1 := (HIR.out.ds.below hb7q).cell 1
            have f7 := (HIR.out.ds.below hb7q).frozen 1
            simp only [DV.cells, List.getElem?_cons_succ, List.getElem?_cons_zero] at q1
            have HW8 := hide hw8
            have HNV := hide (And.intro hnv (And.intro hV2 hvs2))
            clear hnv hV2 hvs2 hlV hfV hmV hmem hk2 hget ho7 hch7 hor7 hgl7 hb7q hg7q hI8 hcr hw8 hlen e1 f1 hsl kcv kcv2
            go_upto_region 21 with fail
            rw [HW8.out]
            clear q1 f7
            have x3 := HIZ.out.dc.cell 3
            simp only [Cmd.cells, List.getElem?_cons_succ, List.getElem?_cons_zero] at x3
            unfold DV.val DV.cells at HFILL
            simp only [] at HFILL
            have e0 := HIZ.out.ds.cell 0
            have e1 := HIZ.out.ds.cell 1
            have e2 := HIZ.out.ds.cell 2
            have e3 := HIZ.out.ds.cell 3
            simp only [DV.cells, List.getElem?_cons_succ, List.getElem?_cons_zero] at e0 e1 e2 e3
            go_wp2_with fail
            refine HFILL.out.mono ?_
            rintro e wf ⟨⟨A1, c1, V1, B1, d1, C1, D1, e1'⟩, rfl, ⟨no', av', hD, hn', ha'⟩, hW2, hC2⟩
            have HRT := hide (HIZ.out.retF hD hn' ha' (a0 := av) (fun z hz => List.mem_cons_of_mem _ hz) hW2 hC2)
            obtain ⟨R, hR⟩ : ∃ R, growN (lack b0 []) ⟨S.sv, vs2, S.cs, S.nx⟩ a0 [] cn = R := ⟨_, rfl⟩
            rw [hR] at HRT HQ0 ⊢
            have r0' := HRT.out.1.cell 0
            have r1' := HRT.out.1.cell 1
            have r2' := HRT.out.1.cell 2
            have r3' := HRT.out.1.cell 3
            have rf' := HRT.out.1.frozen
            simp only [List.getElem?_cons_succ, List.getElem?_cons_zero] at r0' r1' r2' r3'
            clear hR hD hn' ha' hW2 hC2 e0 e1 e2 e3 HFILL
            go_wp2
            refine bodyPost_ret (v := .tuple #[.agg #[.slice A1 16 c1, .slice B1 V1.length d1, .slice D1 C1.length e1', .int .i64 R.1.nx], .int .i64 0]) (by simp [results, Tryz.results20, go_sem, r0', r1', r2', r3']) rfl ?_
            rw [HQ0.out]
            exact ⟨⟨A1, c1, V1, B1, d1, C1, D1, e1'⟩, rfl, (HRT.out.2 _ _ _ _).1, (HRT.out.2 _ _ _ _).2⟩
    · have HQ0 : Hid (S.act ⟨2, a0, b0, cn, ⟨qr, qw, ql, qb⟩⟩ = (S, 8)) := hide (by
        rw [act2 rfl]
        refine create_there HG.out ?_
        have : fd Vo.id S.vs a0 = some S.vs[at_] := by rw [← hid]; exact fd_get HO.out.vsr hat
        simp only []
        rw [this]; rfl)
      clear hat hid HAT
      have a0' := HI2.out.ds.cell 0
      have a1' := HI2.out.ds.cell 1
      have a2' := HI2.out.ds.cell 2
      have a3' := HI2.out.ds.cell 3
      have r0' := HI2.out.dr.cell 0
      have r1' := HI2.out.dr.cell 1
      have r2' := HI2.out.dr.cell 2
      have r3' := HI2.out.dr.cell 3
      have rf' := HI2.out.dr.frozen
      simp only [DV.cells, List.getElem?_cons_succ, List.getElem?_cons_zero] at a0' a1' a2' a3' r0' r1' r2' r3'
      have HRT := hide (HI2.out.ret (a0 := av) (fun z hz => by first | exact hz | exact List.mem_cons_of_mem _ hz) (A1 := .slice Ap 16 cp) (A2 := .slice Av V.length cv) (A3 := .slice Ac C.length cc) (z := .int .i64 S.nx))
      go_wp2
      refine bodyPost_ret (v := .tuple #[.agg #[.slice Ap 16 cp, .slice Av V.length cv, .slice Ac C.length cc, .int .i64 S.nx], .int .i64 8]) (by simp [results, Tryz.results20, go_sem, r0', r1', r2', r3']) rfl ?_
      rw [HQ0.out]
      exact ⟨⟨Ap, cp, V, Av, cv, C, Ac, cc⟩, rfl, HRT.out.1, HRT.out.2⟩
end Go.Proofs.YtcgecalbgkkinaaGreat
