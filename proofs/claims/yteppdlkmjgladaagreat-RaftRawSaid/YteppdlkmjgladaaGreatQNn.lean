/- One text of: Nn. -/
import Derived.Test.YteppdlkmjgladaaGreatQNm
namespace Go.Proofs.YteppdlkmjgladaaGreat
open Go.RowKit Go.Proofs Go.Maps
set_option linter.unusedVariables false
set_option linter.unusedSimpArgs false
theorem zA29 {α : Type} (l : List α) (i : Nat) (a : α) : l.toArray.setIfInBounds i a = (l.set i a).toArray := by simp
theorem zB29 {α : Type} (x a : α) (l : List α) : (x :: l).set 0 a = a :: l := rfl
theorem zC29 {α : Type} (x a : α) (l : List α) (n : Nat) : (x :: l).set (n + 1) a = x :: l.set n a := rfl

section
variable {w w' : World} {nb : Nat} {p : Pl} {Fl Fv : List Nat} {N : Nd}
set_option maxHeartbeats 4000000 in
set_option maxRecDepth 100000 in
theorem nstatus_calls (h : NP w nb p Fl Fv N) (hk : ConOk N.L) (hl : N.L.length ≤ 1000) :
  Calls Tryz.prog 12 #[.pointer (some ⟨nb, 0, none⟩)] w fun e w' => ∃ A c, e = .returned (.agg #[.int .i64 N.bt, .int .i64 N.role, .int .i64 N.leader, .int .i64 N.commit, .int .i64 (N.L.length : Nat), .slice A N.sm.length c]) ∧ OwnI w w' A c N.sm ∧ Below w.heap.size w w' := by
 obtain ⟨w0, hw0⟩ : ∃ w0, w.alloc (.cells #[.int .i64 0, .int .i64 0, .int .i64 0, .int .i64 0, .int .i64 0, .slice none 0 0] 35) = w0 := ⟨_, rfl⟩
 obtain ⟨xb, hxb⟩ : ∃ xb, w.heap.size = xb := ⟨_, rfl⟩
 have hb0 : Below w.heap.size w w0 := hw0 ▸ belowL (Below.refl _ _) _
 have bX : Blk w0 xb 35 [.int .i64 0, .int .i64 0, .int .i64 0, .int .i64 0, .int .i64 0, .slice none 0 0] := by rw [← hw0, ← hxb]; exact Blk.new rfl
 have h0 := h.below hb0
 have y9 : w0.cell? ⟨nb, 9, none⟩ = some (.pointer (some ⟨p.lb, 0, none⟩)) := h0.blk.cell 9
 have HLA := hide (lg_last0 h0.log (by omega))
 have HW := hide (And.intro hw0 hxb)
 obtain ⟨n, hn⟩ : ∃ n, N.L.length = n := ⟨_, rfl⟩
 rw [hn] at HLA ⊢
 have H := hide (And.intro h0 (And.intro hk (And.intro hb0 (And.intro bX (And.intro hl hn)))))
 clear h h0 hk hl hb0 bX hw0 hxb hn
 go_enter Tryz.func12, Tryz.ntmps12
 go_upto_region 1 with fail
 (try rw [HW.out.1])
 (try rw [HW.out.2])
 go_wp2_with fail
 with_reducible refine HLA.out.mono ?_
 rintro e w1 ⟨rfl, q1, rfl⟩
 have hb1 := below_drewN (Below.refl w0.heap.size w0) q1
 have HM := hide (nmem_calls (H.out.1.below hb1) H.out.2.1.kind H.out.2.1.few (by have := H.out.2.2.2.2.1; omega))
 have HB1 := hide hb1
 clear hb1 y9 HLA
 go_wp2_with fail
 with_reducible refine HM.out.mono ?_
 rintro e w2 ⟨rfl, hb2⟩
 have hb02 := belowA hb2 HB1.out
 have h2 := H.out.1.below hb02
 have r2 := Below.refl w2.heap.size w2
 have y3 := h2.blk.rule 3 _ rfl
 have y13 := h2.blk.rule 13 _ rfl
 have y14 := h2.blk.rule 14 _ rfl
 have y10 := h2.blk.rule 10 _ rfl
 have bX2 := H.out.2.2.2.1.below hb02
 have HCL := hide (fun (w' : World) (hb : Below w2.heap.size w2 w') => cloneI_calls p.Am N.sm.length p.cm N.sm [] w' rfl (h2.below hb).sm.sl)
 have H2 := hide (And.intro hb02 (And.intro bX2 hb2))
 clear hb2 hb02 h2 bX2 HM
 go_upto_region 3 with fail
 refine lxR (fun w' => Below w2.heap.size w2 w') [21] 0 [(2, 0), (2, 1), (2, 2), (2, 3), (0, 4), (2, 5), (2, 6), (2, 7), (0, 8), (2, 9), (2, 10), (2, 11), (0, 12), (2, 13), (2, 14), (2, 15), (0, 16), (2, 17), (2, 18), (1, 19), (2, 20), (3, 21)] #[true, true, true, true, true, true, true, true, true, true, true, true, true, true, true, true, true, true, true, true, true, true] (by kernel_rfl) (by kernel_rfl) (by decide) (by kernel_rfl) (by kernel_rfl) (fun _ _ _ _ _ h => h) (by (first | exact r2.drew | exact hb4')) (fun hS0 => ?_)
 simp only [List.map_cons, List.map_nil, List.getElem?_toArray, List.getElem?_cons_succ, List.getElem?_cons_zero]
 (iterate 4 ((apply lxP (by rfl); (focus (intro w; go_simp; (try with_reducible rfl); done)); simp only [Act.put, zA29, zB29, zC29]))); (apply lxT (by rfl); (focus (intro w hw; (try dsimp only at hw); go_simp; (try with_reducible rfl); done)); simp only [Act.put, zA29, zB29, zC29]); (iterate 3 ((apply lxP (by rfl); (focus (intro w; go_simp; (try with_reducible rfl); done)); simp only [Act.put, zA29, zB29, zC29]))); (apply lxT (by rfl); (focus (intro w hw; (try dsimp only at hw); go_simp; (try with_reducible rfl); done)); simp only [Act.put, zA29, zB29, zC29]); (iterate 3 ((apply lxP (by rfl); (focus (intro w; go_simp; (try with_reducible rfl); done)); simp only [Act.put, zA29, zB29, zC29]))); (apply lxT (by rfl); (focus (intro w hw; (try dsimp only at hw); go_simp; (try with_reducible rfl); done)); simp only [Act.put, zA29, zB29, zC29]); (iterate 3 ((apply lxP (by rfl); (focus (intro w; go_simp; (try with_reducible rfl); done)); simp only [Act.put, zA29, zB29, zC29]))); (apply lxT (by rfl); (focus (intro w hw; (try dsimp only at hw); go_simp; (try with_reducible rfl); done)); simp only [Act.put, zA29, zB29, zC29]); (iterate 2 ((apply lxP (by rfl); (focus (intro w; go_simp; (try with_reducible rfl); done)); simp only [Act.put, zA29, zB29, zC29]))); (refine lxE (by rfl) ?_; go_simp; ((go_at_call 35; with_reducible refine (HCL.out _ r2.drew).mono ?_; rintro e w4 ⟨A4, c4, rfl, ho4, hb4⟩; have hb4' := belowA hb4 r2.drew; have b4 := H2.out.2.1.below hb4'; have s0 := b4.cell 0; have s1 := b4.cell 1; have s2 := b4.cell 2; have s3 := b4.cell 3; have s4 := b4.cell 4; have s5 := b4.cell 5; have t0 := b4.frozen 0; have t1 := b4.frozen 1; have t2 := b4.frozen 2; have t3 := b4.frozen 3; have t4 := b4.frozen 4; have t5 := b4.frozen 5; simp only [List.getElem?_cons_succ, List.getElem?_cons_zero] at s0 s1 s2 s3 s4 s5)); refine lxB (by (first | exact r2.drew | exact hb4')) (fun hS1 => ?_)); (apply lxP (by rfl); (focus (intro w; go_simp; (try with_reducible rfl); done)); simp only [Act.put, zA29, zB29, zC29]); (refine lxF (by rfl) ?_; go_simp)
 refine lxN (fun _ => wqD (by kernel_rfl) ?_ _)
 obtain ⟨w5, hw5⟩ : ∃ w5, (((((w4.setCell ⟨xb, 0, none⟩ (.int .i64 N.bt)).setCell ⟨xb, 1, none⟩ (.int .i64 N.role)).setCell ⟨xb, 2, none⟩ (.int .i64 N.leader)).setCell ⟨xb, 3, none⟩ (.int .i64 N.commit)).setCell ⟨xb, 4, none⟩ (.int .i64 (n : Int))).setCell ⟨xb, 5, none⟩ (.slice A4 N.sm.length c4) = w5 := ⟨_, rfl⟩
 have c5 : Chg [xb] w4 w5 := by rw [← hw5]; exact ((((((Chg.refl [xb] w4).setCell (p := ⟨xb, 0, none⟩) (Or.inl (by simp)) _).setCell (p := ⟨xb, 1, none⟩) (Or.inl (by simp)) _).setCell (p := ⟨xb, 2, none⟩) (Or.inl (by simp)) _).setCell (p := ⟨xb, 3, none⟩) (Or.inl (by simp)) _).setCell (p := ⟨xb, 4, none⟩) (Or.inl (by simp)) _).setCell (p := ⟨xb, 5, none⟩) (Or.inl (by simp)) _
 have b5 := (((((b4.set 0 (.int .i64 N.bt)).set 1 (.int .i64 N.role)).set 2 (.int .i64 N.leader)).set 3 (.int .i64 N.commit)).set 4 (.int .i64 (n : Int))).set 5 (.slice A4 N.sm.length c4)
 rw [hw5] at b5
 rw [hw5]
 have u0 : w5.cell? ⟨xb, 0, none⟩ = some (.int .i64 N.bt) := b5.cell 0
 have u1 : w5.cell? ⟨xb, 1, none⟩ = some (.int .i64 N.role) := b5.cell 1
 have u2 : w5.cell? ⟨xb, 2, none⟩ = some (.int .i64 N.leader) := b5.cell 2
 have u3 : w5.cell? ⟨xb, 3, none⟩ = some (.int .i64 N.commit) := b5.cell 3
 have u4 : w5.cell? ⟨xb, 4, none⟩ = some (.int .i64 (n : Int)) := b5.cell 4
 have u5 : w5.cell? ⟨xb, 5, none⟩ = some (.slice A4 N.sm.length c4) := b5.cell 5
 have hxl : xb < w2.heap.size := H2.out.2.1.lt
 have hb04 := belowA hb4' (belowA H2.out.1 H.out.2.2.1)
 have ho5 : OwnI w w5 A4 c4 N.sm := ⟨own_chg ho4.1 c5 (fun g hg hx => by
  rw [owS] at hg
  have h1 := ho4.2 g hg
  rw [List.mem_singleton.1 hx] at h1
  have h2 : w2.drew.heap.size = w2.heap.size := rfl
  omega), fun g hg => Nat.le_trans (belowA r2.drew (belowA H2.out.1 H.out.2.2.1)).size (ho4.2 g hg)⟩
 have hbw5 := Chg.onto hb04 hb04.size c5 (fun z hz => by rw [List.mem_singleton.1 hz, ← HW.out.2]; exact Nat.le_refl _)
 have HF := hide (And.intro ho5 hbw5)
 clear hw5 c5 b5 hxl hb04 ho5 hbw5 b4 s0 s1 s2 s3 s4 s5 t0 t1 t2 t3 t4 t5 hS0 hS1 hb4 hb4' ho4
 go_wp2
 exact bodyPost_ret (v := .agg #[.int .i64 N.bt, .int .i64 N.role, .int .i64 N.leader, .int .i64 N.commit, .int .i64 (n : Int), .slice A4 N.sm.length c4]) (by simp [results, Tryz.results12, go_sem, *]) rfl ⟨A4, c4, rfl, HF.out⟩
def Nd.prop (N : Nd) (b : List Nat) : Nd := ((N.pushE 1 b).hand).settle
set_option maxHeartbeats 4000000 in
set_option maxRecDepth 100000 in
theorem nprop_calls (h : NP w nb p Fl Fv N) (hs : Solo N) (hm : MatOk N) (hd : N.dead = false) (hr : N.role = 2) (hl : N.L.length ≤ 900) {g : Nat} (hV : VltOk N.V g) (hg : g < 2 ^ 60) {A : Option Addr} {c : Nat} {b : List Nat} (hb : Rb w [] A c b) (hbb : ∀ x ∈ b, x < 256) (hbl : b.length ≤ 800) :
  Calls Tryz.prog 13 #[.pointer (some ⟨nb, 0, none⟩), .slice A b.length c] w fun e w' => e = .returned (.tuple #[.int .i64 (N.L.length + 1 : Nat), .int .i64 N.bt, .int .i64 0]) ∧ NodeT w w' nb (ft nb p Fl Fv) (N.prop b) ∧ VltOk (N.prop b).V (g + 1) := by
 have y2 : w.cell? ⟨nb, 2, none⟩ = some (.bool false) := by have := h.blk.cell 2; simp only [Nd.cells, List.getElem?_cons_succ, List.getElem?_cons_zero, hd] at this; exact this
 have y13 : w.cell? ⟨nb, 13, none⟩ = some (.int .i64 2) := by have := h.blk.cell 13; simp only [Nd.cells, List.getElem?_cons_succ, List.getElem?_cons_zero, hr] at this; exact this
 have u1 : ¬ (800 : Int) < b.length := by omega
 have r0 := Below.refl w.heap.size w
 have s0 : w.drew.cell? ⟨nb, 3, none⟩ = some (.int .i64 N.bt) := h.blk.rule 3 _ rfl _ r0.drew
 have HCL := hide (cloneB_calls A c b w.drew (by omega) (hb.below r0.drew).rd)
 have H := hide (And.intro h (And.intro hs (And.intro hm (And.intro hl (And.intro hV (And.intro hg (And.intro hbb hbl)))))))
 clear h hs hm hd hr hV hb hbb
 obtain ⟨i, hi⟩ : ∃ i, N.L.length + 1 = i := ⟨_, rfl⟩
 rw [hi]
 have HPUr : Hid (∀ (w1 : World) (A1 : Option Addr) (c1 : Nat), Below w.heap.size w w1 → OwnB w.drew w1 A1 c1 b → Calls Tryz.prog 43 #[.pointer (some ⟨nb, 0, none⟩), .int .i64 1, .slice A1 b.length c1] w1 fun e w' => e = .returned (.int .i64 i) ∧ NodeP w1 w' nb p Fl Fv (N.pushE 1 b) ∧ VltOk (N.pushE 1 b).V (g + 1)) := hide (fun w1 A1 c1 hb1 ho => by
  have hcm : c1 ≤ maxLen := by obtain ⟨A2, c2, e, _, h2, _⟩ := own_view ho.1; cases e; exact h2
  have h9 := npush_calls (H.out.1.below hb1) H.out.2.2.2.2.1 H.out.2.2.2.2.2.1 (by have := H.out.2.1.bt; omega) H.out.2.1.id (by have := H.out.2.2.2.1; omega) 1 (by omega) ho.bt H.out.2.2.2.2.2.2.1 (by have := H.out.2.2.2.2.2.2.2; omega) hcm
  rw [hi] at h9
  exact h9)
 go_enter Tryz.func13, Tryz.ntmps13
 go_upto_region 5 with fail
 clear y2 y13
 refine lxR (fun w' => w'.cell? ⟨nb, 3, none⟩ = some (.int .i64 N.bt)) [] 0 [(2, 0), (2, 1), (2, 4), (2, 5), (2, 6), (2, 7), (0, 8), (1, 2), (1, 3), (2, 9), (2, 10)] #[true, true, true, true, true, true, true, true, true, true, true] (by kernel_rfl) (by kernel_rfl) (by decide) (by kernel_rfl) (by kernel_rfl) (fun _ _ _ _ _ h => h) (by (first | exact s0 | exact s1 | exact s2)) (fun hS0 => ?_)
 simp only [List.map_cons, List.map_nil, List.getElem?_toArray, List.getElem?_cons_succ, List.getElem?_cons_zero]
 (iterate 6 ((apply lxP (by rfl); (focus (intro w; go_simp; (try with_reducible rfl); done)); simp only [Act.put, zA29, zB29, zC29]))); (apply lxT (by rfl); (focus (intro w hw; (try dsimp only at hw); go_simp; (try with_reducible rfl); done)); simp only [Act.put, zA29, zB29, zC29]); (iterate 2 ((refine lxE (by rfl) ?_; go_simp; (first | (go_at_call 44; (with_reducible refine HCL.out.mono ?_); rintro e w1 ⟨A1, c1, rfl, ho1, hb1⟩; have hb01 := belowA hb1 r0.drew; have s1 : w1.cell? ⟨nb, 3, none⟩ = some (.int .i64 N.bt) := H.out.1.blk.rule 3 _ rfl _ hb01) | (go_at_call 43; (with_reducible refine (HPUr.out _ _ _ hb01 ho1).mono ?_); rintro e w2 ⟨rfl, ⟨Fl2, Fv2, h2, hc2, hl2, hv2⟩, hok2⟩; have s2 : w2.cell? ⟨nb, 3, none⟩ = some (.int .i64 N.bt) := by have h8 := h2.blk.cell 3; simp only [Nd.cells, List.getElem?_cons_succ, List.getElem?_cons_zero, (N.pushE_same 1 b).2.1] at h8; exact h8)); refine lxB (by (first | exact s0 | exact s1 | exact s2)) (fun hS1 => ?_)))); (iterate 2 ((apply lxP (by rfl); (focus (intro w; go_simp; (try with_reducible rfl); done)); simp only [Act.put, zA29, zB29, zC29])))
 refine lxN (fun _ => wqD (by kernel_rfl) ?_ _)
 have hsame := N.pushE_same 1 b
 have hs1 := H.out.2.1.push (k := 1) (b := b) (by omega) (by omega) H.out.2.2.2.1
 have hm1 := H.out.2.2.1.push 1 b
 have hn1 : 1 ≤ (N.pushE 1 b).L.length := by rw [hsame.2.2.2.1, List.length_append, List.length_singleton]; omega
 obtain ⟨N1, hN1⟩ : ∃ N1, N.pushE 1 b = N1 := ⟨_, rfl⟩
 rw [hN1] at h2 hok2 hs1 hm1 hn1
 have HSP := hide (nspread_calls h2 hs1 hn1)
 have hc02 : Chg (ft nb p Fl Fv) w w2 := (Chg.of_below hb01).trans hc2 (fun z hz => Or.inl hz)
 have hl02 := ft_step (nb := nb) (p := p) (s := w.heap.size) (fun x hx => (hl2 x hx).imp id (fun h => Nat.le_trans hb01.size h)) (fun x hx => (hv2 x hx).imp id (fun h => Nat.le_trans hb01.size h))
 have H2 := hide (And.intro hs1 (And.intro hm1 (And.intro hn1 (And.intro hc02 (And.intro hl02 (And.intro hok2 hN1))))))
 clear h2 hc2 hl2 hv2 hok2 hs1 hm1 hn1 hc02 hl02 hsame hN1 s0 s1 s2 hS0 hS1 ho1 hb1 hb01 HCL HPUr
 go_wp2_with fail
 with_reducible refine HSP.out.mono ?_
 rintro e w5 ⟨rfl, h5, hc5⟩
 have HSE := hide (nsettle_calls h5 (H2.out.1.hand H2.out.2.2.1) H2.out.2.1)
 have hc05 := H2.out.2.2.2.1.trans hc5 (fun z hz => H2.out.2.2.2.2.1 z (ft_mem.2 (Or.inr (Or.inl (List.mem_singleton.1 hz)))))
 have HC5 := hide hc05
 clear h5 hc5 hc05 HSP
 go_wp2_with fail
 with_reducible refine HSE.out.mono ?_
 rintro e w6 ⟨rfl, h6, hc6⟩
 have hc06 := HC5.out.trans hc6 (fun z hz => H2.out.2.2.2.2.1 z (ft_mem.2 (Or.inl (List.mem_singleton.1 hz))))
 have hle : N1.hand.settle = N.prop b := by unfold Nd.prop; rw [H2.out.2.2.2.2.2.2]
 have hv6 : VltOk N1.hand.settle.V (g + 1) := by rw [N1.hand.settle_same.1]; exact H2.out.2.2.2.2.2.1
 rw [hle] at h6 hv6
 have HF := hide (And.intro (NP.node h6 hc06 H2.out.2.2.2.2.1) hv6)
 clear h6 hc6 hc06 hle hv6 HSE
 go_wp2
 go_ret3
 exact ⟨rfl, HF.out⟩
end
end Go.Proofs.YteppdlkmjgladaaGreat
