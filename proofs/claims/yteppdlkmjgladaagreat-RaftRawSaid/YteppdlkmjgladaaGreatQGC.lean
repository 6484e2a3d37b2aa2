/- One text of: Gk Gl. -/
import Derived.Test.YteppdlkmjgladaaGreatQGB
namespace Go.Proofs.YteppdlkmjgladaaGreat
open Go.RowKit Go.Proofs Go.Maps
set_option linter.unusedVariables false
set_option linter.unusedSimpArgs false
theorem zA35 {α : Type} (l : List α) (i : Nat) (a : α) : l.toArray.setIfInBounds i a = (l.set i a).toArray := by simp
theorem zB35 {α : Type} (x a : α) (l : List α) : (x :: l).set 0 a = a :: l := rfl
theorem zC35 {α : Type} (x a : α) (l : List α) (n : Nat) : (x :: l).set (n + 1) a = x :: l.set n a := rfl

section
variable {w w' w1 w2 : World} {nb u j k g : Nat} {q q1 : Gl} {G G1 : Gd}
theorem GP.revote (h : GP w nb q G) (hc : Chg [nb] w w') {b c : Nat} {vs : List Int} {role leader : Int} (ho : w'.ownsRow 0 3 1 (.slice (some ⟨b, 0, none⟩) vs.length c) vs.length (vs.map (Value.int .i64))) (hb1 : w.heap.size ≤ b)
  (hb : Blk w' nb 97 (Gd.cells { G with role := role, leader := leader, m := { G.m with votes := vs } } { q with Av := some ⟨b, 0, none⟩, cv := c })) :
  GP w' nb { q with Av := some ⟨b, 0, none⟩, cv := c } { G with role := role, leader := leader, m := { G.m with votes := vs } } ∧ GS w w' nb q { q with Av := some ⟨b, 0, none⟩, cv := c } := by
 have hK : ∀ x ∈ [nb], x ∈ gt nb q := fun x hx => gt_mem.2 (Or.inl (List.mem_singleton.1 hx))
 have s := h.sep
 have hv : ∀ x ∈ Gl.vb { q with Av := some ⟨b, 0, none⟩, cv := c }, w.heap.size ≤ x := fun x hx => by
  have : x = b := by simpa [Gl.vb] using hx
  omega
 refine ⟨⟨hb, h.vltS hc hK (fun x hx hy => (s.v x hx).1 (List.mem_singleton.1 hy)), h.logS hc hK (fun x hx hy => (s.l x hx).1 (List.mem_singleton.1 hy)), h.smS hc hK, trivial, ho, h.nx.chg hc (fun hx => s.nx (List.mem_singleton.1 hx)), h.mx.chg hc (fun hx => s.mx (List.mem_singleton.1 hx)), h.outS hc (fun x hx hy => (s.o x hx).1 (List.mem_singleton.1 hy)), ⟨s.nx, s.mx, s.xx, s.o, s.l, s.v, fun x hx a ha e => ?_⟩⟩, ⟨hc.mono (fun x hx => Or.inl (hK x hx)), fun x hx => Or.inl hx, fun x hx => Or.inr (hv x hx)⟩⟩
 have h1 := (h.sm.sl.ap a ha).2.2
 have h2 := hv x hx
 omega
theorem GP.set1 (h : GP w nb q G) (i : Nat) (u : Value) (G' : Gd) (he : (G.cells q).set i u = G'.cells q) (hm : G'.m = G.m) : GP (w.setCell ⟨nb, i, none⟩ u) nb q G' ∧ GS w (w.setCell ⟨nb, i, none⟩ u) nb q q := by
 have hc : Chg [nb] w (w.setCell ⟨nb, i, none⟩ u) := (Chg.refl [nb] w).setCell (p := ⟨nb, i, none⟩) (Or.inl (by simp)) _
 have hb := h.blk.set i u
 rw [he] at hb
 exact ⟨h.own hc hb hm, GS.own hc⟩
theorem GI.kept {t v r ld : Int} {V : Vlt} {d : Bool} (h : GI u G) (ht : 0 ≤ t ∧ t ≤ 1099511627776 + (u + 1)) (hv : -1 ≤ v ∧ v ≤ 15) : GI (u + 1) (Gd.vlt { G with bt := t, bv := v, role := r, leader := ld } V d) := by
 have k := h.up (Nat.le_succ u)
 exact ⟨k.id, ⟨ht.1, by have := ht.2; show t ≤ _; omega⟩, hv, k.com, k.told, k.quiet, k.beats, ⟨k.m.si, k.m.st, k.m.li, k.m.lt, k.m.sm, k.m.sb, k.m.L, k.m.n, k.m.votes, k.m.next, k.m.mat, k.m.on⟩⟩
set_option maxHeartbeats 4000000 in
set_option maxRecDepth 100000 in
theorem gstand_calls (h : GP w nb q G) (hi : GI u G) (hu : u ≤ 900) (hV : VltOk G.m.V g) (hg : g + 1 < 2 ^ 60) :
  Calls Tryz.prog 60 #[.pointer (some ⟨nb, 0, none⟩)] w fun e w' => e = .returned (.tuple #[]) ∧ GW w w' nb q G (u + 4) (g + 2) := by
 have HM := hide (gmem_calls h hi.m (by omega))
 have H := hide (And.intro h (And.intro hi (And.intro hV hg)))
 clear h hi hV hg
 go_enter Tryz.func60, Tryz.ntmps60
 go_wp2_with fail
 with_reducible refine HM.out.mono ?_
 rintro e w1 ⟨A, c, l, _, rfl, hit, hml, _, _, hb1⟩
 have h1 := H.out.1.below hb1
 have q15 := h1.blk.cell 15
 have f15 := h1.blk.frozen 15
 simp only [Gd.cells, List.getElem?_cons_succ, List.getElem?_cons_zero] at q15
 obtain ⟨w2, hw2⟩ : ∃ w2, w1.setCell ⟨nb, 15, none⟩ (.int .i64 0) = w2 := ⟨_, rfl⟩
 have c2 : Chg [nb] w1 w2 := by rw [← hw2]; exact (Chg.refl [nb] w1).setCell (p := ⟨nb, 15, none⟩) (Or.inl (by simp)) _
 have b2 := h1.blk.set 15 (.int .i64 0)
 rw [hw2] at b2
 have h2 := h1.own (G' := { G with quiet := 0 }) c2 b2 rfl
 have hit2 := hit.chg c2 (fun x hx => h1.hard x (gt_mem.2 (Or.inl (List.mem_singleton.1 hx))))
 obtain ⟨G2, hG2⟩ : ∃ G2, ({ G with quiet := 0 } : Gd) = G2 := ⟨_, rfl⟩
 have he2 : G2.id = G.id ∧ G2.bt = G.bt ∧ G2.bv = G.bv ∧ G2.commit = G.commit ∧ G2.m = G.m := by rw [← hG2]; exact ⟨rfl, rfl, rfl, rfl, rfl⟩
 have hi2 : GI u G2 := by rw [← hG2]; have e := H.out.2.1; exact ⟨e.id, e.bt, e.bv, e.com, e.told, ⟨Int.le_refl _, Int.natCast_nonneg u⟩, e.beats, e.m⟩
 rw [hG2] at h2
 have hs2 : GS w w2 nb q q := (GS.stay hb1).trans (GS.own c2)
 have r2 := Below.refl w2.heap.size w2
 have HW2 := hide hw2
 have y0 := h2.blk.rule 0 _ rfl
 have y3 := h2.blk.rule 3 _ rfl
 have y4 := h2.blk.rule 4 _ rfl
 obtain ⟨bt, hbt⟩ : ∃ bt, G2.bt = bt := ⟨_, rfl⟩
 obtain ⟨id, hid⟩ : ∃ id, G2.id = id := ⟨_, rfl⟩
 obtain ⟨bv, hbv⟩ : ∃ bv, G2.bv = bv := ⟨_, rfl⟩
 rw [hbt] at y3
 rw [hid] at y0
 rw [hbv] at y4
 have hbt' : 0 ≤ bt ∧ bt ≤ 1099511627776 + u := by rw [← hbt]; exact hi2.bt
 have hid' : 0 ≤ id ∧ id ≤ 15 := by rw [← hid]; exact hi2.id
 obtain ⟨co, hco⟩ : ∃ co, l.contains id = co := ⟨_, rfl⟩
 have HCN : Hid (∀ w', Below w2.heap.size w2 w' → Calls Tryz.prog 90 #[.slice A l.length c, .int .i64 id] w' fun e w'' => e = .returned (.bool co) ∧ ∃ q, w'' = w'.drewN q) := hide (fun w' hb => by
  have h9 := contains_calls A l.length c l id w' rfl (by have := hml.1; omega) (hit2.below hb).sl.rd
  rw [hco] at h9
  exact h9)
 have HBT := hide (show 0 ≤ bt ∧ bt < 2 ^ 60 by omega)
 have HKE := hide (fun (w' : World) (hb : Below w2.heap.size w2 w') => gkeep_calls (h2.below hb) (show VltOk G2.m.V g by rw [he2.2.2.2.2]; exact H.out.2.2.1) (by have := H.out.2.2.2; omega) (bt + 1) id (by omega) (by omega))
 have H2 := hide (And.intro h2 (And.intro hi2 (And.intro he2 (And.intro hs2 (And.intro hit2 (And.intro hml (And.intro hbt (And.intro hid hid'))))))))
 clear h1 hb1 c2 b2 h2 hw2 hit hit2 hml hG2 he2 hi2 hs2 hbt hid hbv hbt' hid' hco HM
 go_upto_region 2 with fail
 (try rw [HW2.out])
 clear q15 f15
 cases co with
 |false =>
  refine lxR (fun w' => Below w2.heap.size w2 w') [18] 0 [(2, 0), (2, 1), (2, 2), (2, 3), (0, 4), (1, 5), (2, 6), (2, 7), (2, 8), (2, 9), (2, 10), (2, 11), (0, 12), (2, 13), (2, 14), (2, 15), (0, 16), (1, 17), (3, 18), (2, 19), (2, 20)] #[true, true, true, true, true, true, true, true, true, true, true, true, true, true, true, true, true, true, true, true, true] (by kernel_rfl) (by kernel_rfl) (by decide) (by kernel_rfl) (by kernel_rfl) (fun _ _ _ _ _ h => h) (by (first | exact r2.drew | exact hbc)) (fun hS0 => ?_)
  simp only [List.map_cons, List.map_nil, List.getElem?_toArray, List.getElem?_cons_succ, List.getElem?_cons_zero]
  (iterate 4 ((apply lxP (by rfl); (focus (intro w; go_simp; (try with_reducible rfl); done)); simp only [Act.put, zA35, zB35, zC35]))); (apply lxT (by rfl); (focus (intro w hw; (try dsimp only at hw); go_simp; (try with_reducible rfl); done)); simp only [Act.put, zA35, zB35, zC35]); (refine lxE (by rfl) ?_; go_simp; ((go_at_call 90; with_reducible refine (HCN.out _ r2.drew).mono ?_; rintro e wc ⟨rfl, qc, rfl⟩; have hbc := below_drewN r2.drew qc)); refine lxB (by (first | exact r2.drew | exact hbc)) (fun hS1 => ?_)); (iterate 2 ((apply lxP (by rfl); (focus (intro w; go_simp; (try with_reducible rfl); done)); simp only [Act.put, zA35, zB35, zC35]))); (iterate 4 (first | (apply lxP (by rfl); (focus (intro w; go_simp; (try with_reducible rfl); done)); simp only [Act.put, zA35, zB35, zC35]) | (refine lxQ (by rfl) ?_; simp only [Act.put, zA35, zB35, zC35]))); (first | (apply lxT (by rfl); (focus (intro w hw; (try dsimp only at hw); go_simp; (try with_reducible rfl); done)); simp only [Act.put, zA35, zB35, zC35]) | (refine lxS (by rfl) ?_; simp only [Act.put, zA35, zB35, zC35])); (iterate 3 (first | (apply lxP (by rfl); (focus (intro w; go_simp; (try with_reducible rfl); done)); simp only [Act.put, zA35, zB35, zC35]) | (refine lxQ (by rfl) ?_; simp only [Act.put, zA35, zB35, zC35]))); (first | (apply lxT (by rfl); (focus (intro w hw; (try dsimp only at hw); go_simp; (try with_reducible rfl); done)); simp only [Act.put, zA35, zB35, zC35]) | (refine lxS (by rfl) ?_; simp only [Act.put, zA35, zB35, zC35])); (first | (refine lxE (by rfl) ?_; go_simp; ((go_at_call 90; with_reducible refine (HCN.out _ r2.drew).mono ?_; rintro e wc ⟨rfl, qc, rfl⟩; have hbc := below_drewN r2.drew qc)); refine lxB (by (first | exact r2.drew | exact hbc)) (fun hS1 => ?_)) | (refine lxK (by rfl) (by assumption) ?_; simp only [Act.put, zA35, zB35, zC35])); (first | (refine lxF (by rfl) ?_; go_simp; ((go_at_call 90; with_reducible refine (HCN.out _ r2.drew).mono ?_; rintro e wc ⟨rfl, qc, rfl⟩; have hbc := below_drewN r2.drew qc))) | (refine lexg_effskipN (by rfl) ?_; simp only [Act.put, zA35, zB35, zC35]))
  (first | (apply lxP (by rfl); (focus (intro w; go_simp; (try with_reducible rfl); done)); simp only [Act.put, zA35, zB35, zC35]) | (refine lxQ (by rfl) ?_; simp only [Act.put, zA35, zB35, zC35])); (apply lxP (by rfl); (focus (intro w; go_simp; (try with_reducible rfl); done)); simp only [Act.put, zA35, zB35, zC35])
  refine lxN (fun _ => wqD (by kernel_rfl) ?_ _)
  have HF : Hid (GW w _ nb q G (u + 4) (g + 2)) := hide ⟨q, G2, H2.out.1.below hbc, H2.out.2.1.up (by omega), by rw [H2.out.2.2.1.2.2.2.2]; exact H.out.2.2.1.up (by omega), H2.out.2.2.1.1, by rw [H2.out.2.2.1.2.1]; exact Int.le_refl _, by rw [H2.out.2.2.1.2.2.2.1]; exact Int.le_refl _, H2.out.2.2.2.1.trans (GS.stay hbc)⟩
  clear hbc hS0 hS1 y0 y3 y4 HKE HCN
  go_wp2
  refine bodyPost_ret (results_none rfl _ _ _) rfl ?_
  exact ⟨rfl, HF.out⟩
 |true =>
  refine lxR (fun w' => Below w2.heap.size w2 w') [18] 0 [(2, 0), (2, 1), (2, 2), (2, 3), (0, 4), (1, 5), (2, 6), (2, 7), (2, 8), (2, 9), (2, 10), (2, 11), (0, 12), (2, 13), (2, 14), (2, 15), (0, 16), (1, 17), (3, 18), (2, 19), (2, 20)] #[true, true, true, true, true, true, true, true, true, true, true, true, true, true, true, true, true, true, true, true, true] (by kernel_rfl) (by kernel_rfl) (by decide) (by kernel_rfl) (by kernel_rfl) (fun _ _ _ _ _ h => h) (by (first | exact r2.drew | exact hbc | exact hbd')) (fun hS0 => ?_)
  simp only [List.map_cons, List.map_nil, List.getElem?_toArray, List.getElem?_cons_succ, List.getElem?_cons_zero]
  (iterate 4 ((apply lxP (by rfl); (focus (intro w; go_simp; (try with_reducible rfl); done)); simp only [Act.put, zA35, zB35, zC35]))); (apply lxT (by rfl); (focus (intro w hw; (try dsimp only at hw); go_simp; (try with_reducible rfl); done)); simp only [Act.put, zA35, zB35, zC35]); (refine lxE (by rfl) ?_; go_simp; (first | (go_at_call 90; with_reducible refine (HCN.out _ r2.drew).mono ?_; rintro e wc ⟨rfl, qc, rfl⟩; have hbc := below_drewN r2.drew qc) | (go_at_call 106; with_reducible refine (bstand_calls _ _ _ HBT.out).mono ?_; rintro e wd ⟨rfl, hbd⟩; have hbd' : Below w2.heap.size w2 wd := belowA hbd (below_drewN r2 _)) | (go_at_call 58; with_reducible refine (HKE.out _ hbd').mono ?_; rintro e w5 ⟨q5, r5, ld5, V5, d5, rfl, h5, hok5, hs5, _⟩)); refine lxB (by (first | exact r2.drew | exact hbc | exact hbd')) (fun hS1 => ?_)); (iterate 2 ((apply lxP (by rfl); (focus (intro w; go_simp; (try with_reducible rfl); done)); simp only [Act.put, zA35, zB35, zC35]))); (iterate 4 (first | (apply lxP (by rfl); (focus (intro w; go_simp; (try with_reducible rfl); done)); simp only [Act.put, zA35, zB35, zC35]) | (refine lxQ (by rfl) ?_; simp only [Act.put, zA35, zB35, zC35]))); (first | (apply lxT (by rfl); (focus (intro w hw; (try dsimp only at hw); go_simp; (try with_reducible rfl); done)); simp only [Act.put, zA35, zB35, zC35]) | (refine lxS (by rfl) ?_; simp only [Act.put, zA35, zB35, zC35])); (iterate 3 (first | (apply lxP (by rfl); (focus (intro w; go_simp; (try with_reducible rfl); done)); simp only [Act.put, zA35, zB35, zC35]) | (refine lxQ (by rfl) ?_; simp only [Act.put, zA35, zB35, zC35]))); (first | (apply lxT (by rfl); (focus (intro w hw; (try dsimp only at hw); go_simp; (try with_reducible rfl); done)); simp only [Act.put, zA35, zB35, zC35]) | (refine lxS (by rfl) ?_; simp only [Act.put, zA35, zB35, zC35]))
  (first | (refine lxE (by rfl) ?_; go_simp; (first | (go_at_call 90; with_reducible refine (HCN.out _ r2.drew).mono ?_; rintro e wc ⟨rfl, qc, rfl⟩; have hbc := below_drewN r2.drew qc) | (go_at_call 106; with_reducible refine (bstand_calls _ _ _ HBT.out).mono ?_; rintro e wd ⟨rfl, hbd⟩; have hbd' : Below w2.heap.size w2 wd := belowA hbd (below_drewN r2 _)) | (go_at_call 58; with_reducible refine (HKE.out _ hbd').mono ?_; rintro e w5 ⟨q5, r5, ld5, V5, d5, rfl, h5, hok5, hs5, _⟩)); refine lxB (by (first | exact r2.drew | exact hbc | exact hbd')) (fun hS1 => ?_)) | (refine lxK (by rfl) (by assumption) ?_; simp only [Act.put, zA35, zB35, zC35])); (first | (refine lxF (by rfl) ?_; go_simp; (first | (go_at_call 90; with_reducible refine (HCN.out _ r2.drew).mono ?_; rintro e wc ⟨rfl, qc, rfl⟩; have hbc := below_drewN r2.drew qc) | (go_at_call 106; with_reducible refine (bstand_calls _ _ _ HBT.out).mono ?_; rintro e wd ⟨rfl, hbd⟩; have hbd' : Below w2.heap.size w2 wd := belowA hbd (below_drewN r2 _)) | (go_at_call 58; with_reducible refine (HKE.out _ hbd').mono ?_; rintro e w5 ⟨q5, r5, ld5, V5, d5, rfl, h5, hok5, hs5, _⟩))) | (refine lexg_effskipN (by rfl) ?_; simp only [Act.put, zA35, zB35, zC35])); (first | (apply lxP (by rfl); (focus (intro w; go_simp; (try with_reducible rfl); done)); simp only [Act.put, zA35, zB35, zC35]) | (refine lxQ (by rfl) ?_; simp only [Act.put, zA35, zB35, zC35])); (apply lxP (by rfl); (focus (intro w; go_simp; (try with_reducible rfl); done)); simp only [Act.put, zA35, zB35, zC35])
  refine lxN (fun _ => wqD (by kernel_rfl) ?_ _)
  have hs5' : GS w w5 nb q q5 := H2.out.2.2.2.1.trans ((GS.stay hbd').trans hs5)
  have hit5 : It w5 A c l := (H2.out.2.2.2.2.1.below hbd').chg hs5.c (H2.out.1.below hbd').hard
  obtain ⟨h2a, h2b, h2c, h2d, h2e, h2f, h2g, h2h, h2i⟩ := H2.out
  have hi5 : GI (u + 1) (Gd.vlt { G2 with bt := bt + 1, bv := id, role := r5, leader := ld5 } V5 d5) := h2b.kept (by have := h2b.bt; omega) (by omega)
  obtain ⟨G5, hG5⟩ : ∃ G5, Gd.vlt { G2 with bt := bt + 1, bv := id, role := r5, leader := ld5 } V5 d5 = G5 := ⟨_, rfl⟩
  have he5 : G5.id = G.id ∧ G5.bt = bt + 1 ∧ G5.commit = G.commit ∧ G5.m.V = V5 ∧ G5.m.votes = G2.m.votes ∧ G.bt ≤ bt + 1 := by rw [← hG5]; exact ⟨h2c.1, rfl, h2c.2.2.2.1, rfl, rfl, by rw [← h2c.2.1]; omega⟩
  rw [hG5] at h5 hi5
  have H5 := hide (And.intro h5 (And.intro hi5 (And.intro he5 (And.intro hok5 (And.intro hs5' (And.intro hit5 (And.intro h2f h2h)))))))
  clear h5 hok5 hs5 hs5' hit5 hi5 hG5 he5 h2a h2b h2c h2d h2e h2f h2g h2h h2i hbc hbd hbd' hS0 hS1 y0 y3 y4 HKE HCN
  cases d5 with
  |true =>
   go_wp2
   refine bodyPost_ret (results_none rfl _ _ _) rfl ?_
   obtain ⟨h5, hi5, he5, hok5, hs5, _⟩ := H5.out
   exact ⟨rfl, q5, G5, h5, hi5.up (by omega), by rw [he5.2.2.2.1]; exact hok5.up (by omega), he5.1, by rw [he5.2.1]; exact he5.2.2.2.2.2, by rw [he5.2.2.1]; exact Int.le_refl _, hs5⟩
  |false =>
   obtain ⟨h5, hi5, he5, hok5, hs5, hit5, hml5, hid5⟩ := H5.out
   have q0 := h5.blk.cell 0
   have q13 := h5.blk.cell 13
   have q14 := h5.blk.cell 14
   have q17 := h5.blk.cell 17
   have q9 := h5.blk.cell 9
   have f13 := h5.blk.frozen 13
   have f14 := h5.blk.frozen 14
   have f17 := h5.blk.frozen 17
   simp only [Gd.cells, List.getElem?_cons_succ, List.getElem?_cons_zero] at q0 q13 q14 q17 q9
   rw [he5.1] at q0
   have hlt5 := h5.blk.lt
   obtain ⟨wS, hwS⟩ : ∃ wS, ((w5.setCell ⟨nb, 13, none⟩ (.int .i64 1)).setCell ⟨nb, 14, none⟩ (.int .i64 (-1))).setCell ⟨nb, 17, none⟩ (.slice (some ⟨w5.heap.size, 0, none⟩) 1 1) = wS := ⟨_, rfl⟩
   have hsz : wS.heap.size = w5.heap.size := by rw [← hwS]; simp
   have bS := ((h5.blk.set 13 (.int .i64 1)).set 14 (.int .i64 (-1))).set 17 (.slice (some ⟨w5.heap.size, 0, none⟩) 1 1)
   have cS : Chg [nb] w5 wS := by rw [← hwS]; exact (((Chg.refl [nb] w5).setCell (p := ⟨nb, 13, none⟩) (Or.inl (by simp)) _).setCell (p := ⟨nb, 14, none⟩) (Or.inl (by simp)) _).setCell (p := ⟨nb, 17, none⟩) (Or.inl (by simp)) _
   rw [hwS] at bS
   obtain ⟨w6, hw6⟩ : ∃ w6, wS.alloc (.cells #[.int .i64 G.id] 3) = w6 := ⟨_, rfl⟩
   have hb6 : Below wS.heap.size wS w6 := hw6 ▸ belowL (Below.refl _ _) _
   have ho6 := own_built wS 3 #[.int .i64 G.id] 1 1 rfl (by unfold maxLen; omega)
   rw [hsz, hw6] at ho6
   obtain ⟨h6, hs6⟩ := h5.revote (cS.below hb6) (role := 1) (leader := -1) (vs := [G.id]) (c := 1) (b := w5.heap.size) ho6 (Nat.le_refl _) (bS.below hb6)
   have hit6 := hit5.chg hs6.c h5.hard
   have hi6 : GI (u + 1) { G5 with role := 1, leader := -1, m := { G5.m with votes := [G.id] } } := ⟨hi5.id, hi5.bt, hi5.bv, hi5.com, hi5.told, hi5.quiet, hi5.beats, ⟨hi5.m.si, hi5.m.st, hi5.m.li, hi5.m.lt, hi5.m.sm, hi5.m.sb, hi5.m.L, hi5.m.n, ⟨by simp, fun x hx => by rw [List.mem_singleton.1 hx]; exact H.out.2.1.id⟩, hi5.m.next, hi5.m.mat, hi5.m.on⟩⟩
   obtain ⟨G6, hG6⟩ : ∃ G6, ({ G5 with role := 1, leader := -1, m := { G5.m with votes := [G.id] } } : Gd) = G6 := ⟨_, rfl⟩
   obtain ⟨q6, hq6⟩ : ∃ q6, ({ q5 with Av := some ⟨w5.heap.size, 0, none⟩, cv := 1 } : Gl) = q6 := ⟨_, rfl⟩
   have hlb : q6.lb = q5.lb := by rw [← hq6]
   have he6 : G6.id = G.id ∧ G6.bt = bt + 1 ∧ G6.commit = G.commit ∧ G6.m.V = V5 ∧ G.bt ≤ bt + 1 := by rw [← hG6]; exact ⟨he5.1, he5.2.1, he5.2.2.1, he5.2.2.2.1, he5.2.2.2.2.2⟩
   rw [hG6] at h6 hi6
   rw [hq6] at h6 hs6
   have hla := lg_last h6.log (by rw [hi6.m.li]; exact hi6.m.si.1) (by rw [hi6.m.li]; have := hi6.m.si.2; omega) (by have := hi6.m.n; omega)
   obtain ⟨la, hlae⟩ : ∃ la : Int, G6.m.li + (G6.m.L.length : Int) = la := ⟨_, rfl⟩
   obtain ⟨lt, hlte⟩ : ∃ lt : Int, (G6.m.L.getLast?.map (·.1)).getD G6.m.lt = lt := ⟨_, rfl⟩
   rw [hlae, hlte, hlb] at hla
   have HLA := hide hla
   have HW6 := hide (And.intro hwS hw6)
   have H6 := hide (And.intro h6 (And.intro hi6 (And.intro he6 (And.intro hok5 (And.intro (hs5.trans hs6) (And.intro hit6 hml5))))))
   clear h5 hi5 he5 hok5 hs5 hit5 hml5 hid5 hsz bS cS hb6 ho6 h6 hs6 hit6 hi6 hG6 hq6 he6 hla hwS hw6 hlb hlae hlte H5
   go_wp2_with fail
   (try rw [HW6.out.1])
   (try rw [HW6.out.2])
   with_reducible refine HLA.out.mono ?_
   rintro e w7 ⟨rfl, q7, rfl⟩
   have hb7 := below_drewN (Below.refl w6.heap.size w6) q7
   obtain ⟨w7, hw7⟩ : ∃ w7, w6.drewN q7 = w7 := ⟨_, rfl⟩
   rw [hw7] at hb7 ⊢
   obtain ⟨n, hn⟩ : ∃ n, l.length = n := ⟨_, rfl⟩
   rw [hn]
   have hn7 : n ≤ 7 := by rw [← hn]; exact H6.out.2.2.2.2.2.2.1
   have HN := hide hn
   have HG0 : Hid (GO 0 w6 w7 nb q6 G6) := hide (GO.stay H6.out.1 hb7)
   clear hb7 hw7 hn q0 q13 q14 q17 q9 f13 f14 f17 HLA
   go_wp2
   go_loopw [7, 61, 62, 63, 64, 65, 66, 67, 68, 69, 70, 71, 72, 73, 74, 75, 76, 77] (fun _ iv _ _ _ _ _ _ _ _ _ _ _ _ _ _ _ _ wr => ∃ (k : Nat), k ≤ n ∧ iv = .int .i64 k ∧ Hid (GO k w6 wr nb q6 G6)) (fun _ iv _ _ _ _ _ _ _ _ _ _ _ _ _ _ _ _ _ => n - (Go.RowKit.intOf iv).toNat)
   case atStart => exact ⟨0, Nat.zero_le _, rfl, HG0⟩
   case round =>
    obtain ⟨k, hk, rfl, hO⟩ := hrel
    obtain ⟨q8, n8, h8, hs8, hn8⟩ := hO.out
    by_cases hlt : k < n
    ·have i1 : (k : Int) < n := by omega
     have hit8 := H6.out.2.2.2.2.2.1.chg hs8.c H6.out.1.hard
     have hkl : k < l.length := by rw [HN.out]; exact hlt
     obtain ⟨b, o, rfl, hc⟩ := hit8.sl.get hkl
     have hc' := hc k hkl
     obtain ⟨x, hxe⟩ : ∃ x, l.getD k 0 = x := ⟨_, rfl⟩
     rw [hxe] at hc'
     have y3 : wr.cell? ⟨nb, 3, none⟩ = some (.int .i64 G6.bt) := h8.blk.cell 3
     have hbN := belowL (Below.refl wr.heap.size wr) (.cells #[.int .i64 G6.bt, .int .i64 la, .int .i64 lt] 3)
     have HSE := hide (gsend_calls (h8.below hbN) (show n8 ≤ _ by have := H6.out.2.1.m.on; have := H6.out.2.2.2.2.2.2.1; have := HN.out; omega) x 1 (some ⟨wr.heap.size, 0, none⟩) none none 3 0 0 3 0 0)
     have HS8 := hide (And.intro hs8 (And.intro hn8 hbN))
     clear h8 hs8 hn8 hit8 hc hxe hO hbN hkl
     go_wp2_with fail
     with_reducible refine HSE.out.mono ?_
     rintro e w9 ⟨rfl, q9, n9, h9, hs9, hn9⟩
     have H9 : Hid (GO (k + 1) w6 w9 nb q6 G6) := hide ⟨q9, n9, h9, HS8.out.1.trans ((GS.stay HS8.out.2.2).trans hs9), by have := HS8.out.2.1; have : n9 ≤ n8 + 1 := hn9; omega⟩
     clear h9 hs9 hn9 HSE hc'
     go_wp2
     go_roundw
     case rel => exact ⟨k + 1, by omega, by go_num, H9⟩
     case measure => simp [Go.RowKit.intOf]; omega
    ·have i1 : ¬ (k : Int) < n := by omega
     have hi8 : GI (u + 2) (G6.on n8) := H6.out.2.1.nxt H6.out.2.1.m.next (n := n8) (by have := H6.out.2.2.2.2.2.2.1; have := HN.out; omega)
     have HCO := hide (gcount_calls h8 hi8 (by omega) (show VltOk (G6.on n8).m.V (g + 1) by show VltOk G6.m.V _; rw [H6.out.2.2.1.2.2.2.1]; exact H6.out.2.2.2.1) (by have := H.out.2.2.2; omega))
     have HS8 := hide hs8
     clear h8 hs8 hn8 hi8 hlt
     go_wp2_with fail
     with_reducible refine HCO.out.mono ?_
     rintro e w9 ⟨rfl, hw9⟩
     have HF : Hid (GW w w9 nb q G (u + 4) (g + 2)) := hide (GW.first (H6.out.2.2.2.2.1.trans HS8.out) hw9 H6.out.2.2.1.1 (by have := H6.out.2.2.1; show G.bt ≤ G6.bt; omega) (by have := H6.out.2.2.1.2.2.1; show G.commit ≤ G6.commit; omega) (by omega) (by omega))
     clear hw9 HCO
     go_wp2
     go_end0
     exact ⟨rfl, HF.out⟩
end
end Go.Proofs.YteppdlkmjgladaaGreat

namespace Go.Proofs.YteppdlkmjgladaaGreat
open Go.RowKit Go.Proofs Go.Maps
set_option linter.unusedVariables false
set_option linter.unusedSimpArgs false

structure GA (W w : World) (nb : Nat) (q : Gl) : Prop where
 be : Below W.heap.size W w
 ge : ∀ x ∈ gt nb q ++ q.vb, W.heap.size ≤ x
def NU (W : World) (b o : Nat) (N : List Int) : Prop := ∀ w', Below W.heap.size W w' → ∀ j x, N[j]? = some x → w'.cell? ⟨b, o + j, none⟩ = some (.int .i64 x)
section
variable {W w w' w1 w2 : World} {nb u j k g : Nat} {q q1 q' : Gl} {G G1 : Gd} {b o : Nat} {N : List Int}
theorem GA.step (h : GA W w nb q) (s : GS w w' nb q q') : GA W w' nb q' :=
 ⟨Chg.onto h.be h.be.size s.c (fun x hx => h.ge x (List.mem_append_left _ hx)), fun x hx => (List.mem_append.1 hx).elim (fun hx => (s.g x hx).elim (fun e => h.ge x (List.mem_append_left _ e)) (fun e => Nat.le_trans h.be.size e)) (fun hx => (s.v x hx).elim (fun e => h.ge x (List.mem_append_right _ e)) (fun e => Nat.le_trans h.be.size e))⟩
theorem GA.low (h : GA W w nb q) (hb : Below w.heap.size w w') : GA W w' nb q := h.step (GS.stay hb)
theorem NU.at_ (h : NU W b o N) (hA : Below W.heap.size W w) (hb : Below w.heap.size w w') (i : Nat) {x : Int} (hx : N[i]? = some x) : w'.cell? ⟨b, o + i, none⟩ = some (.int .i64 x) := h w' (hA.trans (hb.mono hA.size)) i x hx
theorem NU.one (h : NU W b o N) (hA : Below W.heap.size W w) (i : Nat) {x : Int} (hx : N[i]? = some x) : w.cell? ⟨b, o + i, none⟩ = some (.int .i64 x) := h w hA i x hx
set_option maxHeartbeats 4000000 in
set_option maxRecDepth 100000 in
theorem gtick_calls (h : GP w nb q G) (hi : GI u G) (hu : u ≤ 890) (hV : VltOk G.m.V g) (hg : g + 2 < 2 ^ 60) :
  Calls Tryz.prog 20 #[.pointer (some ⟨nb, 0, none⟩)] w fun e w' => e = .returned (.tuple #[]) ∧ GW w w' nb q G (u + 5) (g + 2) := by
 have r0 := Below.refl w.heap.size w
 have y2 : w.cell? ⟨nb, 2, none⟩ = some (.bool G.dead) := h.blk.cell 2
 have y13 : w.cell? ⟨nb, 13, none⟩ = some (.int .i64 G.role) := h.blk.cell 13
 cases hd : G.dead with
 |true =>
  rw [hd] at y2
  have HF := hide (GW.stay h (hi.up (show u ≤ u + 5 by omega)) (hV.up (show g ≤ g + 2 by omega)) r0)
  clear hd h hi hV
  go_enter Tryz.func20, Tryz.ntmps20
  go_wp2
  refine bodyPost_ret (results_none rfl _ _ _) rfl ?_
  exact ⟨rfl, HF.out⟩
 |false =>
  rw [hd] at y2
  clear hd
  by_cases hro : G.role = 2
  ·rw [hro] at y13
   have q16 := h.blk.cell 16
   have f16 := h.blk.frozen 16
   simp only [Gd.cells, List.getElem?_cons_succ, List.getElem?_cons_zero] at q16
   have c1 : IntKind.i64.wrap (G.beats + 1) = G.beats + 1 := IntWalk.i64_in _ (by have := hi.beats; omega)
   obtain ⟨h1, s1⟩ := h.set1 16 (.int .i64 (G.beats + 1)) { G with beats := G.beats + 1 } rfl rfl
   have hi1 : GI (u + 1) { G with beats := G.beats + 1 } := by
    have e := hi.up (Nat.le_succ u)
    exact ⟨e.id, e.bt, e.bv, e.com, e.told, e.quiet, ⟨by have := hi.beats; show 0 ≤ G.beats + 1; omega, by have := hi.beats; show G.beats + 1 ≤ _; omega⟩, e.m⟩
   obtain ⟨w1, hw1⟩ : ∃ w1, w.setCell ⟨nb, 16, none⟩ (.int .i64 (G.beats + 1)) = w1 := ⟨_, rfl⟩
   rw [hw1] at h1 s1
   have HSP := hide (gspread_calls h1 hi1.m (by omega) hi1.bt)
   have hbe0 : 0 ≤ G.beats + 1 := by have := hi.beats; omega
   have HF := hide (And.intro h1 (And.intro s1 (And.intro hi1 (And.intro hV hw1))))
   by_cases hz : (G.beats + 1) % 3 = 0
   ·have u1 : ((G.beats + 1) % 3 == 0) = true := by simp [hz]
    clear h h1 hi hi1 hV s1 hw1 hz hro
    go_enter Tryz.func20, Tryz.ntmps20
    go_wp2_with fail
    rw [HF.out.2.2.2.2]
    with_reducible refine HSP.out.mono ?_
    rintro e w2 ⟨rfl, q2, f2, n2, h2, hf2, hn2, hs2⟩
    have H2 : Hid (GW w w2 nb q G (u + 5) (g + 2)) := hide ⟨q2, _, h2, (HF.out.2.2.1.nxt hf2 (n := n2) (by omega)).up (by omega), HF.out.2.2.2.1.up (by omega), rfl, Int.le_refl _, Int.le_refl _, HF.out.2.1.trans hs2⟩
    clear h2 hf2 hn2 hs2 HSP
    go_wp2
    refine bodyPost_ret (results_none rfl _ _ _) rfl ?_
    exact ⟨rfl, H2.out⟩
   ·have u1 : ((G.beats + 1) % 3 == 0) = false := by simpa using hz
    clear h h1 hi hi1 hV s1 hw1 hz hro HSP
    go_enter Tryz.func20, Tryz.ntmps20
    go_wp2
    refine bodyPost_ret (results_none rfl _ _ _) rfl ?_
    rw [HF.out.2.2.2.2]
    exact ⟨rfl, q, _, HF.out.1, HF.out.2.2.1.up (by omega), HF.out.2.2.2.1.up (by omega), rfl, Int.le_refl _, Int.le_refl _, HF.out.2.1⟩
  ·have u0 : (G.role == 2) = false := by simpa using hro
   have q15 := h.blk.cell 15
   have f15 := h.blk.frozen 15
   have y0 : w.cell? ⟨nb, 0, none⟩ = some (.int .i64 G.id) := h.blk.cell 0
   simp only [Gd.cells, List.getElem?_cons_succ, List.getElem?_cons_zero] at q15
   have hid := hi.id
   have c1 : IntKind.i64.wrap (G.quiet + 1) = G.quiet + 1 := IntWalk.i64_in _ (by have := hi.quiet; omega)
   have c2 : IntKind.i64.wrap (7 * G.id) = 7 * G.id := IntWalk.i64_in _ (by omega)
   have c3 : IntKind.i64.wrap (12 + 7 * G.id) = 12 + 7 * G.id := IntWalk.i64_in _ (by omega)
   obtain ⟨h1, s1⟩ := h.set1 15 (.int .i64 (G.quiet + 1)) { G with quiet := G.quiet + 1 } rfl rfl
   have hi1 : GI (u + 1) { G with quiet := G.quiet + 1 } := by
    have e := hi.up (Nat.le_succ u)
    exact ⟨e.id, e.bt, e.bv, e.com, e.told, ⟨by have := hi.quiet; show 0 ≤ G.quiet + 1; omega, by have := hi.quiet; show G.quiet + 1 ≤ _; omega⟩, e.beats, e.m⟩
   obtain ⟨w1, hw1⟩ : ∃ w1, w.setCell ⟨nb, 15, none⟩ (.int .i64 (G.quiet + 1)) = w1 := ⟨_, rfl⟩
   rw [hw1] at h1 s1
   have y0r := h1.blk.rule 0 _ rfl
   have y15r := h1.blk.rule 15 _ rfl
   simp only [] at y0r y15r
   have r1 := Below.refl w1.heap.size w1
   have HST := hide (gstand_calls (h1.below r1.drew) hi1 (by omega) (show VltOk G.m.V g from hV) (by omega))
   have HF := hide (And.intro h1 (And.intro s1 (And.intro hi1 (And.intro hV hw1))))
   by_cases hz : 12 + 7 * G.id < G.quiet + 1
   ·have u1 : decide (12 + 7 * G.id < G.quiet + 1) = true := decide_eq_true hz
    clear h h1 hi hi1 hV s1 hw1 hz hro hid
    go_enter Tryz.func20, Tryz.ntmps20
    go_upto_region 6 with fail
    rw [HF.out.2.2.2.2]
    clear q15 f15 y0
    refine lxR (fun w' => Below w1.heap.size w1 w') [] 0 [(2, 0), (2, 1), (2, 2), (0, 3), (2, 4), (2, 5), (2, 6), (0, 7), (2, 8), (2, 9), (2, 10)] #[true, true, true, true, true, true, true, true, true, true, true] (by kernel_rfl) (by kernel_rfl) (by decide) (by kernel_rfl) (by kernel_rfl) (fun _ _ _ _ _ h => h) (by (exact r1.drew)) (fun hS0 => ?_)
    simp only [List.map_cons, List.map_nil, List.getElem?_toArray, List.getElem?_cons_succ, List.getElem?_cons_zero]
    (iterate 3 ((apply lxP (by rfl); (focus (intro w; go_simp; (try with_reducible rfl); done)); simp only [Act.put, zA35, zB35, zC35]))); (apply lxT (by rfl); (focus (intro w hw; (try dsimp only at hw); go_simp; (try with_reducible rfl); done)); simp only [Act.put, zA35, zB35, zC35]); (iterate 3 ((apply lxP (by rfl); (focus (intro w; go_simp; (try with_reducible rfl); done)); simp only [Act.put, zA35, zB35, zC35]))); (apply lxT (by rfl); (focus (intro w hw; (try dsimp only at hw); go_simp; (try with_reducible rfl); done)); simp only [Act.put, zA35, zB35, zC35]); (iterate 3 ((apply lxP (by rfl); (focus (intro w; go_simp; (try with_reducible rfl); done)); simp only [Act.put, zA35, zB35, zC35])))
    refine lxN (fun _ => wqD (by kernel_rfl) ?_ _)
    go_wp2_with fail
    with_reducible refine HST.out.mono ?_
    rintro e w2 ⟨rfl, hn2⟩
    have H2 : Hid (GW w w2 nb q G (u + 5) (g + 2)) := hide (GW.first (HF.out.2.1.trans (GS.stay r1.drew)) hn2 rfl (Int.le_refl _) (Int.le_refl _) (by omega) (by omega))
    clear hn2 HST
    go_wp2
    go_end0
    exact ⟨rfl, H2.out⟩
   ·have u1 : decide (12 + 7 * G.id < G.quiet + 1) = false := decide_eq_false hz
    clear h h1 hi hi1 hV s1 hw1 hz hro hid HST
    go_enter Tryz.func20, Tryz.ntmps20
    go_upto_region 6 with fail
    rw [HF.out.2.2.2.2]
    clear q15 f15 y0
    refine lxR (fun w' => Below w1.heap.size w1 w') [] 0 [(2, 0), (2, 1), (2, 2), (0, 3), (2, 4), (2, 5), (2, 6), (0, 7), (2, 8), (2, 9), (2, 10)] #[true, true, true, true, true, true, true, true, true, true, true] (by kernel_rfl) (by kernel_rfl) (by decide) (by kernel_rfl) (by kernel_rfl) (fun _ _ _ _ _ h => h) (by (exact r1.drew)) (fun hS0 => ?_)
    simp only [List.map_cons, List.map_nil, List.getElem?_toArray, List.getElem?_cons_succ, List.getElem?_cons_zero]
    (iterate 3 ((apply lxP (by rfl); (focus (intro w; go_simp; (try with_reducible rfl); done)); simp only [Act.put, zA35, zB35, zC35]))); (apply lxT (by rfl); (focus (intro w hw; (try dsimp only at hw); go_simp; (try with_reducible rfl); done)); simp only [Act.put, zA35, zB35, zC35]); (iterate 3 ((apply lxP (by rfl); (focus (intro w; go_simp; (try with_reducible rfl); done)); simp only [Act.put, zA35, zB35, zC35]))); (apply lxT (by rfl); (focus (intro w hw; (try dsimp only at hw); go_simp; (try with_reducible rfl); done)); simp only [Act.put, zA35, zB35, zC35]); (iterate 3 ((apply lxP (by rfl); (focus (intro w; go_simp; (try with_reducible rfl); done)); simp only [Act.put, zA35, zB35, zC35])))
    refine lxN (fun _ => wqD (by kernel_rfl) ?_ _)
    go_wp2
    go_end0
    exact ⟨rfl, q, _, HF.out.1.below r1.drew, HF.out.2.2.1.up (by omega), HF.out.2.2.2.1.up (by omega), rfl, Int.le_refl _, Int.le_refl _, HF.out.2.1.trans (GS.stay r1.drew)⟩
end
end Go.Proofs.YteppdlkmjgladaaGreat
