/- One text of: Gp. -/
import Derived.Test.YteppdlkmjgladaaGreatQGD
namespace Go.Proofs.YteppdlkmjgladaaGreat
open Go.RowKit Go.Proofs Go.Maps
set_option linter.unusedVariables false
set_option linter.unusedSimpArgs false
theorem zA37 {α : Type} (l : List α) (i : Nat) (a : α) : l.toArray.setIfInBounds i a = (l.set i a).toArray := by simp
theorem zB37 {α : Type} (x a : α) (l : List α) : (x :: l).set 0 a = a :: l := rfl
theorem zC37 {α : Type} (x a : α) (l : List α) (n : Nat) : (x :: l).set (n + 1) a = x :: l.set n a := rfl

section
variable {W w w' w1 w2 : World} {nb u j g : Nat} {q q1 q' : Gl} {G G1 : Gd} {b o : Nat} {N : List Int}
theorem GP.revoteT (h : GP w nb q G) (hc : Chg (nb :: q.vb) w w') {A : Option Addr} {c : Nat} {vs : List Int} (ho : w'.ownsRow 0 3 1 (.slice A vs.length c) vs.length (vs.map (Value.int .i64))) (hf : ∀ x ∈ (A.map Addr.block).toList, x ∈ q.vb ∨ w.heap.size ≤ x)
  (hb : Blk w' nb 97 (Gd.cells { G with m := { G.m with votes := vs } } { q with Av := A, cv := c })) :
  GP w' nb { q with Av := A, cv := c } { G with m := { G.m with votes := vs } } := by
 have s := h.sep
 have hn : ∀ x ∈ nb :: q.vb, x ∈ gt nb q ++ q.vb ∨ w.heap.size ≤ x := fun x hx => Or.inl (by
  rcases List.mem_cons.1 hx with rfl | hx
  ·exact List.mem_append_left _ (gt_mem.2 (Or.inl rfl))
  ·exact List.mem_append_right _ hx)
 have hh : ∀ x, x ∈ gt nb q → x ≠ nb → x ∉ nb :: q.vb := fun x hx h1 h2 => (List.mem_cons.1 h2).elim h1 (fun h3 => h.vnot x h3 hx)
 have nob : NoB w (nb :: q.vb) := fun x hx => by
  rcases List.mem_cons.1 hx with rfl | hx
  ·exact Or.inl fun cs => (h.hard x (gt_mem.2 (Or.inl rfl))).notBlk (Or.inl rfl)
  ·obtain ⟨cs, hv⟩ := h.vblk x hx
   exact Or.inl fun cs' hv' => absurd (hv.one hv').2 (by decide)
 have nby : ∀ x ∈ nb :: q.vb, ¬ ByteBlk w x := fun x hx => by
  rcases List.mem_cons.1 hx with rfl | hx
  ·exact (h.hard x (gt_mem.2 (Or.inl rfl))).notByte
  ·obtain ⟨cs, hv⟩ := h.vblk x hx
   exact hv.notByte (by decide)
 have hsm : It w' q.Am q.cm G.m.sm := by
  have hno : ∀ a, q.Am = some a → a.block ∉ nb :: q.vb := fun a ha hx => by
   rcases List.mem_cons.1 hx with e | hx
   ·obtain ⟨cs, hb⟩ := h.sm.ty a ha
    exact (h.hard nb (gt_mem.2 (Or.inl rfl))).notBlk (Or.inr rfl) (e ▸ hb)
   ·exact s.vs _ hx a ha rfl
  refine ⟨((show Sl w (nb :: q.vb) q.Am q.cm G.m.sm from ⟨h.sm.sl.le, h.sm.sl.ln, h.sm.sl.rd, fun a ha => ⟨(h.sm.sl.ap a ha).1, hno a ha, (h.sm.sl.ap a ha).2.2⟩⟩).chg hc (fun x hx => Or.inl hx)).sub (by simp), fun a ha => ?_⟩
  obtain ⟨cs, hb⟩ := h.sm.ty a ha
  exact ⟨cs, hb.chg hc (hno a ha)⟩
 refine ⟨hb, h.vlt.chg hc (fun x hx => hh x (gt_mem.2 (by simp [hx])) (s.v x hx).1) nob, h.log.keep hc (fun x hx => hh x (gt_mem.2 (by simp [hx])) (s.l x hx).1) nby, hsm, trivial, ho, h.nx.chg hc (hh _ (gt_mem.2 (by simp)) s.nx), h.mx.chg hc (hh _ (gt_mem.2 (by simp)) s.mx), ?_, ⟨s.nx, s.mx, s.xx, s.o, s.l, s.v, fun x hx a ha e => ?_⟩⟩
 ·obtain ⟨xs, hou⟩ := h.out
  exact ⟨xs, own_chg hou hc (fun g hg => by
   rw [owS] at hg
   have h1 : g ∈ q.ob := by unfold Gl.ob; rw [hg]; simp
   exact hh g (gt_mem.2 (by simp [h1])) (s.o g h1).1)⟩
 ·rcases hf x hx with h1 | h1
  ·exact s.vs x h1 a ha e
  ·have := (h.sm.sl.ap a ha).2.2
   omega
structure GT (w w' : World) (nb : Nat) (q q' : Gl) : Prop where
 c : Chg (gt nb q ++ q.vb) w w'
 g : ∀ x ∈ gt nb q' ++ q'.vb, x ∈ gt nb q ++ q.vb ∨ w.heap.size ≤ x
theorem GS.gt (s : GS w w' nb q q') : GT w w' nb q q' := ⟨s.c.mono (fun x hx => Or.inl (List.mem_append_left _ hx)), fun x hx => (List.mem_append.1 hx).elim (fun hx => (s.g x hx).imp (List.mem_append_left _) id) (fun hx => (s.v x hx).imp (List.mem_append_right _) id)⟩
theorem GT.trans {q2 : Gl} (h : GT w w1 nb q q1) (k : GT w1 w2 nb q1 q2) : GT w w2 nb q q2 := ⟨h.c.trans k.c h.g, fun x hx => (k.g x hx).elim (h.g x) (fun e => Or.inr (Nat.le_trans h.c.size e))⟩
theorem GA.move (h : GA W w nb q) (s : GT w w' nb q q') : GA W w' nb q' := ⟨Chg.onto h.be h.be.size s.c h.ge, fun x hx => (s.g x hx).elim (h.ge x) (fun e => Nat.le_trans h.be.size e)⟩
def GV (w w' : World) (nb : Nat) (q : Gl) (G : Gd) (u g : Nat) : Prop := ∃ q' G', GP w' nb q' G' ∧ GI u G' ∧ VltOk G'.m.V g ∧ G'.id = G.id ∧ G.bt ≤ G'.bt ∧ G.commit ≤ G'.commit ∧ GT w w' nb q q'
theorem GW.gv (h : GW w w' nb q G u g) : GV w w' nb q G u g := by
 obtain ⟨q', G', h1, h2, h3, h4, h5, h6, h7⟩ := h
 exact ⟨q', G', h1, h2, h3, h4, h5, h6, h7.gt⟩
theorem GV.first {u' g' : Nat} (hs : GT w w1 nb q q1) (h : GV w1 w2 nb q1 G1 u g) (h1 : G1.id = G.id) (h2 : G.bt ≤ G1.bt) (h3 : G.commit ≤ G1.commit) (hu : u ≤ u') (hg : g ≤ g') : GV w w2 nb q G u' g' := by
 obtain ⟨q', G', k1, k2, k3, k4, k5, k6, k7⟩ := h
 exact ⟨q', G', k1, k2.up hu, k3.up hg, k4.trans h1, Int.le_trans h2 k5, Int.le_trans h3 k6, hs.trans k7⟩
set_option maxHeartbeats 4000000 in
set_option maxRecDepth 100000 in
theorem gvoteOk_calls (h : GP w nb q G) (hA : GA W w nb q) (hi : GI u G) (hu : u ≤ 880) (hV : VltOk G.m.V g) (hg : g + 2 < 2 ^ 60) (fr : Int) (hfr : 0 ≤ fr ∧ fr ≤ 15) (k n0 n1 : Int) (hn : NU W b o [n0, n1]) (c1 : Nat) (A2 A3 : Option Addr) (m2 m3 c2 c3 : Nat) :
  Calls Tryz.prog 52 #[.pointer (some ⟨nb, 0, none⟩), .int .i64 fr, .agg #[.int .i64 k, .slice (some ⟨b, o, none⟩) 2 c1, .slice A2 m2 c2, .slice A3 m3 c3]] w fun e w' => e = .returned (.tuple #[]) ∧ GV w w' nb q G (u + 3) (g + 1) := by
 obtain ⟨w0, hw0⟩ : ∃ w0, w.alloc (.cells #[.int .i64 k, .slice (some ⟨b, o, none⟩) 2 c1, .slice A2 m2 c2, .slice A3 m3 c3] 52) = w0 := ⟨_, rfl⟩
 obtain ⟨xb, hxb⟩ : ∃ xb, w.heap.size = xb := ⟨_, rfl⟩
 have hb0 : Below w.heap.size w w0 := hw0 ▸ belowL (Below.refl _ _) _
 have bX : Blk w0 xb 52 [.int .i64 k, .slice (some ⟨b, o, none⟩) 2 c1, .slice A2 m2 c2, .slice A3 m3 c3] := by rw [← hw0, ← hxb]; exact Blk.new rfl
 have h0 := h.below hb0
 have r0 := Below.refl w0.heap.size w0
 have x1 := bX.rule 1 _ rfl
 have y3 := h0.blk.rule 3 _ rfl
 have y13 := h0.blk.rule 13 _ rfl
 have hA0 := (hA.low hb0).be
 have p0 : ∀ w', Below w0.heap.size w0 w' → w'.cell? ⟨b, o, none⟩ = some (.int .i64 n0) := fun w' hb => hn.at_ hA0 hb 0 rfl
 have p1 : ∀ w', Below w0.heap.size w0 w' → w'.cell? ⟨b, o + 1, none⟩ = some (.int .i64 n1) := fun w' hb => hn.at_ hA0 hb 1 rfl
 have HW := hide (And.intro hw0 hxb)
 have HST : Hid (∀ w', Below w0.heap.size w0 w' → GV w w' nb q G (u + 3) (g + 1)) := hide (fun w' hb => (GW.stay h (hi.up (show u ≤ u + 3 by omega)) (hV.up (show g ≤ g + 1 by omega)) (belowA hb hb0)).gv)
 have H := hide (And.intro h0 (And.intro hb0 (And.intro hi (And.intro hV (And.intro hg hfr)))))
 clear h h0 hA hi hV hg hfr hn hb0 bX hA0 hw0 hxb
 rcases (show G.role ≠ 1 ∨ (G.role = 1 ∧ n0 ≠ G.bt) ∨ (G.role = 1 ∧ n0 = G.bt ∧ n1 ≠ 1) ∨ (G.role = 1 ∧ n0 = G.bt ∧ n1 = 1) by omega) with hc | hc | hc | hc
 rotate_right
 ·have u1 : (G.role == 1) = true := by simp [hc.1]
  have u2 : (n0 == G.bt) = true := by simp [hc.2.1]
  have u3 : (n1 == 1) = true := by simp [hc.2.2]
  clear hc
  go_enter Tryz.func52, Tryz.ntmps52
  go_upto_region 1 with fail
  (try rw [HW.out.1])
  (try rw [HW.out.2])
  refine lxR (fun w' => Below w0.heap.size w0 w') [] 0 [(2, 0), (2, 1), (2, 2), (0, 3), (2, 4), (2, 5), (2, 6), (0, 7), (2, 8), (0, 9), (2, 10), (2, 11), (2, 12), (2, 13), (0, 14), (2, 15), (2, 16), (2, 17), (2, 18), (0, 19), (2, 20), (0, 21), (2, 22), (2, 23)] #[true, true, true, true, true, true, true, true, true, true, true, true, true, true, true, true, true, true, true, true, true, true, true, true] (by kernel_rfl) (by kernel_rfl) (by decide) (by kernel_rfl) (by kernel_rfl) (fun _ _ _ _ _ h => h) (by (exact r0.drew)) (fun hS0 => ?_)
  simp only [List.map_cons, List.map_nil, List.getElem?_toArray, List.getElem?_cons_succ, List.getElem?_cons_zero]
  (iterate 3 ((apply lxP (by rfl); (focus (intro w; go_simp; (try with_reducible rfl); done)); simp only [Act.put, zA37, zB37, zC37]))); (apply lxT (by rfl); (focus (intro w hw; (try dsimp only at hw); go_simp; (try with_reducible rfl); done)); simp only [Act.put, zA37, zB37, zC37]); (iterate 2 ((apply lxP (by rfl); (focus (intro w; go_simp; (try with_reducible rfl); done)); simp only [Act.put, zA37, zB37, zC37]))); (first | (apply lxP (by rfl); (focus (intro w; go_simp; (try with_reducible rfl); done)); simp only [Act.put, zA37, zB37, zC37]) | (refine lxQ (by rfl) ?_; simp only [Act.put, zA37, zB37, zC37])); (first | (apply lxT (by rfl); (focus (intro w hw; (try dsimp only at hw); go_simp; (try with_reducible rfl); done)); simp only [Act.put, zA37, zB37, zC37]) | (refine lxS (by rfl) ?_; simp only [Act.put, zA37, zB37, zC37])); (first | (apply lxP (by rfl); (focus (intro w; go_simp; (try with_reducible rfl); done)); simp only [Act.put, zA37, zB37, zC37]) | (refine lxQ (by rfl) ?_; simp only [Act.put, zA37, zB37, zC37])); (first | (apply lxT (by rfl); (focus (intro w hw; (try dsimp only at hw); go_simp; (try with_reducible rfl); done)); simp only [Act.put, zA37, zB37, zC37]) | (refine lxS (by rfl) ?_; simp only [Act.put, zA37, zB37, zC37])); (iterate 4 (first | (apply lxP (by rfl); (focus (intro w; go_simp; (try with_reducible rfl); done)); simp only [Act.put, zA37, zB37, zC37]) | (refine lxQ (by rfl) ?_; simp only [Act.put, zA37, zB37, zC37]))); (first | (apply lxT (by rfl); (focus (intro w hw; (try dsimp only at hw); go_simp; (try with_reducible rfl); done)); simp only [Act.put, zA37, zB37, zC37]) | (refine lxS (by rfl) ?_; simp only [Act.put, zA37, zB37, zC37])); (first | (apply lxP (by rfl); (focus (intro w; go_simp; (try with_reducible rfl); done)); simp only [Act.put, zA37, zB37, zC37]) | (refine lxQ (by rfl) ?_; simp only [Act.put, zA37, zB37, zC37]))
  (iterate 2 ((apply lxP (by rfl); (focus (intro w; go_simp; (try with_reducible rfl); done)); simp only [Act.put, zA37, zB37, zC37]))); (first | (apply lxP (by rfl); (focus (intro w; go_simp; (try with_reducible rfl); done)); simp only [Act.put, zA37, zB37, zC37]) | (refine lxQ (by rfl) ?_; simp only [Act.put, zA37, zB37, zC37])); (first | (apply lxT (by rfl); (focus (intro w hw; (try dsimp only at hw); go_simp; (try with_reducible rfl); done)); simp only [Act.put, zA37, zB37, zC37]) | (refine lxS (by rfl) ?_; simp only [Act.put, zA37, zB37, zC37])); (first | (apply lxP (by rfl); (focus (intro w; go_simp; (try with_reducible rfl); done)); simp only [Act.put, zA37, zB37, zC37]) | (refine lxQ (by rfl) ?_; simp only [Act.put, zA37, zB37, zC37])); (first | (apply lxT (by rfl); (focus (intro w hw; (try dsimp only at hw); go_simp; (try with_reducible rfl); done)); simp only [Act.put, zA37, zB37, zC37]) | (refine lxS (by rfl) ?_; simp only [Act.put, zA37, zB37, zC37])); (first | (apply lxP (by rfl); (focus (intro w; go_simp; (try with_reducible rfl); done)); simp only [Act.put, zA37, zB37, zC37]) | (refine lxQ (by rfl) ?_; simp only [Act.put, zA37, zB37, zC37])); (apply lxP (by rfl); (focus (intro w; go_simp; (try with_reducible rfl); done)); simp only [Act.put, zA37, zB37, zC37])
  refine lxN (fun _ => wqD (by kernel_rfl) ?_ _)
  clear y13 y3 x1 p0 p1
  obtain ⟨w2, hw2⟩ : ∃ w2, w0.drew = w2 := ⟨_, rfl⟩
  have h2 := H.out.1.below r0.drew
  have hb2 := belowA r0.drew H.out.2.1
  rw [hw2] at h2 hb2 ⊢
  obtain ⟨L, hL⟩ : ∃ L, G.m.votes = L := ⟨_, rfl⟩
  have y17 : w2.cell? ⟨nb, 17, none⟩ = some (.slice q.Av L.length q.cv) := by rw [← hL]; exact h2.blk.cell 17
  have HVO := hide h2.vo
  rw [hL] at HVO
  have HLn := hide (show L.length ≤ 100000 by rw [← hL]; have := H.out.2.2.1.m.votes.1; omega)
  have H2 := hide (And.intro h2 (And.intro hb2 hL))
  clear hw2 h2 hb2 hL hS0
  go_wp2_with (at_builtin; refine wpList_appendI2 rfl _ _ rfl HVO.out HLn.out rfl rfl ?_)
  intro A4 c4 w4 ho4
  have h2 := H2.out.1
  have hnv : nb ∉ (q.Av.map Addr.block).toList := fun hx => h2.vnot nb (by unfold Gl.vb; exact hx) (gt_mem.2 (Or.inl rfl))
  have b4 := h2.blk.chg ho4.2.1 hnv
  have q17 := b4.cell 17
  have f17 := b4.frozen 17
  simp only [Gd.cells, List.getElem?_cons_succ, List.getElem?_cons_zero] at q17
  obtain ⟨w5, hw5⟩ : ∃ w5, w4.setCell ⟨nb, 17, none⟩ (.slice A4 (L.length + 1) c4) = w5 := ⟨_, rfl⟩
  have c45 : Chg [nb] w4 w5 := by rw [← hw5]; exact (Chg.refl [nb] w4).setCell (p := ⟨nb, 17, none⟩) (Or.inl (by simp)) _
  have c25 : Chg (nb :: q.vb) w2 w5 := (ho4.2.1.mono (L' := nb :: q.vb) (fun x hx => Or.inl (List.mem_cons_of_mem _ hx))).trans c45 (fun x hx => Or.inl (by rw [List.mem_singleton.1 hx]; simp))
  have hf4 : ∀ x ∈ (A4.map Addr.block).toList, x ∈ q.vb ∨ w2.heap.size ≤ x := fun x hx => (ho4.2.2 x (by simpa using hx)).imp (fun e => by unfold Gl.vb; rw [e]; simp) id
  have ho5 := own_chg ho4.1 c45 (fun g hg hx => by
   rw [owS] at hg
   have h1 : g = nb := List.mem_singleton.1 hx
   rcases hf4 g (by rw [hg]; simp) with h3 | h3
   ·exact hnv (h1 ▸ h3)
   ·have := h2.blk.lt; omega)
  have b5 := b4.set 17 (.slice A4 (L.length + 1) c4)
  rw [hw5] at b5
  have hlen : (L ++ [fr]).length = L.length + 1 := by simp
  have h5 := h2.revoteT (vs := L ++ [fr]) c25 ho5 hf4 (by simp only [Gd.cells, hlen]; exact b5)
  have hs5 : GT w2 w5 nb q { q with Av := A4, cv := c4 } := ⟨c25.mono (fun x hx => Or.inl (by
   rcases List.mem_cons.1 hx with rfl | hx
   ·exact List.mem_append_left _ (gt_mem.2 (Or.inl rfl))
   ·exact List.mem_append_right _ hx)), fun x hx => by
   rcases List.mem_append.1 hx with hx | hx
   ·exact Or.inl (List.mem_append_left _ hx)
   ·exact (hf4 x hx).imp (List.mem_append_right _) id⟩
  obtain ⟨_, hb0, hi, hV, hg, hfr⟩ := H.out
  have hi5 : GI (u + 1) { G with m := { G.m with votes := L ++ [fr] } } := by
   have e := hi.up (Nat.le_succ u)
   refine ⟨e.id, e.bt, e.bv, e.com, e.told, e.quiet, e.beats, ⟨e.m.si, e.m.st, e.m.li, e.m.lt, e.m.sm, e.m.sb, e.m.L, e.m.n, ⟨?_, fun x hx => ?_⟩, e.m.next, e.m.mat, e.m.on⟩⟩
   ·have := hi.m.votes.1; rw [H2.out.2.2] at this; show (L ++ [fr]).length ≤ _; rw [hlen]; omega
   ·rcases List.mem_append.1 hx with hx | hx
    ·exact hi.m.votes.2 x (by rw [H2.out.2.2]; exact hx)
    ·rw [List.mem_singleton.1 hx]; exact hfr
  have HCO := hide (gcount_calls h5 hi5 (by omega) (show VltOk G.m.V g from hV) (by omega))
  have HS := hide (((GS.stay (nb := nb) (q := q) H2.out.2.1).gt).trans hs5)
  have HW5 := hide hw5
  clear h2 hnv b4 c45 c25 hf4 ho5 b5 hlen h5 hs5 hi5 hb0 hi hV hg hfr ho4 hw5 HVO HLn
  go_wp2_with fail
  rw [HW5.out]
  with_reducible refine HCO.out.mono ?_
  rintro e w6 ⟨rfl, hg6⟩
  have HF : Hid (GV w w6 nb q G (u + 3) (g + 1)) := hide (GV.first HS.out hg6.gv rfl (Int.le_refl _) (Int.le_refl _) (by omega) (by omega))
  clear hg6 HCO
  go_wp2
  go_end0
  exact ⟨rfl, HF.out⟩
 ·have u1 : (G.role == 1) = false := by simpa using hc
  clear hc
  go_enter Tryz.func52, Tryz.ntmps52
  go_upto_region 1 with fail
  (try rw [HW.out.1])
  (try rw [HW.out.2])
  refine lxR (fun w' => Below w0.heap.size w0 w') [] 0 [(2, 0), (2, 1), (2, 2), (0, 3), (2, 4), (2, 5), (2, 6), (0, 7), (2, 8), (0, 9), (2, 10), (2, 11), (2, 12), (2, 13), (0, 14), (2, 15), (2, 16), (2, 17), (2, 18), (0, 19), (2, 20), (0, 21), (2, 22), (2, 23)] #[true, true, true, true, true, true, true, true, true, true, true, true, true, true, true, true, true, true, true, true, true, true, true, true] (by kernel_rfl) (by kernel_rfl) (by decide) (by kernel_rfl) (by kernel_rfl) (fun _ _ _ _ _ h => h) (by (exact r0.drew)) (fun hS0 => ?_)
  simp only [List.map_cons, List.map_nil, List.getElem?_toArray, List.getElem?_cons_succ, List.getElem?_cons_zero]
  (iterate 3 ((apply lxP (by rfl); (focus (intro w; go_simp; (try with_reducible rfl); done)); simp only [Act.put, zA37, zB37, zC37]))); (apply lxT (by rfl); (focus (intro w hw; (try dsimp only at hw); go_simp; (try with_reducible rfl); done)); simp only [Act.put, zA37, zB37, zC37]); (iterate 2 ((apply lxP (by rfl); (focus (intro w; go_simp; (try with_reducible rfl); done)); simp only [Act.put, zA37, zB37, zC37]))); (first | (apply lxP (by rfl); (focus (intro w; go_simp; (try with_reducible rfl); done)); simp only [Act.put, zA37, zB37, zC37]) | (refine lxQ (by rfl) ?_; simp only [Act.put, zA37, zB37, zC37])); (first | (apply lxT (by rfl); (focus (intro w hw; (try dsimp only at hw); go_simp; (try with_reducible rfl); done)); simp only [Act.put, zA37, zB37, zC37]) | (refine lxS (by rfl) ?_; simp only [Act.put, zA37, zB37, zC37])); (first | (apply lxP (by rfl); (focus (intro w; go_simp; (try with_reducible rfl); done)); simp only [Act.put, zA37, zB37, zC37]) | (refine lxQ (by rfl) ?_; simp only [Act.put, zA37, zB37, zC37])); (first | (apply lxT (by rfl); (focus (intro w hw; (try dsimp only at hw); go_simp; (try with_reducible rfl); done)); simp only [Act.put, zA37, zB37, zC37]) | (refine lxS (by rfl) ?_; simp only [Act.put, zA37, zB37, zC37])); (iterate 4 (first | (apply lxP (by rfl); (focus (intro w; go_simp; (try with_reducible rfl); done)); simp only [Act.put, zA37, zB37, zC37]) | (refine lxQ (by rfl) ?_; simp only [Act.put, zA37, zB37, zC37]))); (first | (apply lxT (by rfl); (focus (intro w hw; (try dsimp only at hw); go_simp; (try with_reducible rfl); done)); simp only [Act.put, zA37, zB37, zC37]) | (refine lxS (by rfl) ?_; simp only [Act.put, zA37, zB37, zC37])); (first | (apply lxP (by rfl); (focus (intro w; go_simp; (try with_reducible rfl); done)); simp only [Act.put, zA37, zB37, zC37]) | (refine lxQ (by rfl) ?_; simp only [Act.put, zA37, zB37, zC37]))
  (iterate 2 ((apply lxP (by rfl); (focus (intro w; go_simp; (try with_reducible rfl); done)); simp only [Act.put, zA37, zB37, zC37]))); (first | (apply lxP (by rfl); (focus (intro w; go_simp; (try with_reducible rfl); done)); simp only [Act.put, zA37, zB37, zC37]) | (refine lxQ (by rfl) ?_; simp only [Act.put, zA37, zB37, zC37])); (first | (apply lxT (by rfl); (focus (intro w hw; (try dsimp only at hw); go_simp; (try with_reducible rfl); done)); simp only [Act.put, zA37, zB37, zC37]) | (refine lxS (by rfl) ?_; simp only [Act.put, zA37, zB37, zC37])); (first | (apply lxP (by rfl); (focus (intro w; go_simp; (try with_reducible rfl); done)); simp only [Act.put, zA37, zB37, zC37]) | (refine lxQ (by rfl) ?_; simp only [Act.put, zA37, zB37, zC37])); (first | (apply lxT (by rfl); (focus (intro w hw; (try dsimp only at hw); go_simp; (try with_reducible rfl); done)); simp only [Act.put, zA37, zB37, zC37]) | (refine lxS (by rfl) ?_; simp only [Act.put, zA37, zB37, zC37])); (first | (apply lxP (by rfl); (focus (intro w; go_simp; (try with_reducible rfl); done)); simp only [Act.put, zA37, zB37, zC37]) | (refine lxQ (by rfl) ?_; simp only [Act.put, zA37, zB37, zC37])); (apply lxP (by rfl); (focus (intro w; go_simp; (try with_reducible rfl); done)); simp only [Act.put, zA37, zB37, zC37])
  refine lxN (fun _ => wqD (by kernel_rfl) ?_ _)
  clear y13 y3 x1 p0 p1
  go_wp2
  go_end0
  exact ⟨rfl, HST.out _ r0.drew⟩
 ·have u1 : (G.role == 1) = true := by simp [hc.1]
  have u2 : (n0 == G.bt) = false := by simpa using hc.2
  clear hc
  go_enter Tryz.func52, Tryz.ntmps52
  go_upto_region 1 with fail
  (try rw [HW.out.1])
  (try rw [HW.out.2])
  refine lxR (fun w' => Below w0.heap.size w0 w') [] 0 [(2, 0), (2, 1), (2, 2), (0, 3), (2, 4), (2, 5), (2, 6), (0, 7), (2, 8), (0, 9), (2, 10), (2, 11), (2, 12), (2, 13), (0, 14), (2, 15), (2, 16), (2, 17), (2, 18), (0, 19), (2, 20), (0, 21), (2, 22), (2, 23)] #[true, true, true, true, true, true, true, true, true, true, true, true, true, true, true, true, true, true, true, true, true, true, true, true] (by kernel_rfl) (by kernel_rfl) (by decide) (by kernel_rfl) (by kernel_rfl) (fun _ _ _ _ _ h => h) (by (exact r0.drew)) (fun hS0 => ?_)
  simp only [List.map_cons, List.map_nil, List.getElem?_toArray, List.getElem?_cons_succ, List.getElem?_cons_zero]
  (iterate 3 ((apply lxP (by rfl); (focus (intro w; go_simp; (try with_reducible rfl); done)); simp only [Act.put, zA37, zB37, zC37]))); (apply lxT (by rfl); (focus (intro w hw; (try dsimp only at hw); go_simp; (try with_reducible rfl); done)); simp only [Act.put, zA37, zB37, zC37]); (iterate 2 ((apply lxP (by rfl); (focus (intro w; go_simp; (try with_reducible rfl); done)); simp only [Act.put, zA37, zB37, zC37]))); (first | (apply lxP (by rfl); (focus (intro w; go_simp; (try with_reducible rfl); done)); simp only [Act.put, zA37, zB37, zC37]) | (refine lxQ (by rfl) ?_; simp only [Act.put, zA37, zB37, zC37])); (first | (apply lxT (by rfl); (focus (intro w hw; (try dsimp only at hw); go_simp; (try with_reducible rfl); done)); simp only [Act.put, zA37, zB37, zC37]) | (refine lxS (by rfl) ?_; simp only [Act.put, zA37, zB37, zC37])); (first | (apply lxP (by rfl); (focus (intro w; go_simp; (try with_reducible rfl); done)); simp only [Act.put, zA37, zB37, zC37]) | (refine lxQ (by rfl) ?_; simp only [Act.put, zA37, zB37, zC37])); (first | (apply lxT (by rfl); (focus (intro w hw; (try dsimp only at hw); go_simp; (try with_reducible rfl); done)); simp only [Act.put, zA37, zB37, zC37]) | (refine lxS (by rfl) ?_; simp only [Act.put, zA37, zB37, zC37])); (iterate 4 (first | (apply lxP (by rfl); (focus (intro w; go_simp; (try with_reducible rfl); done)); simp only [Act.put, zA37, zB37, zC37]) | (refine lxQ (by rfl) ?_; simp only [Act.put, zA37, zB37, zC37]))); (first | (apply lxT (by rfl); (focus (intro w hw; (try dsimp only at hw); go_simp; (try with_reducible rfl); done)); simp only [Act.put, zA37, zB37, zC37]) | (refine lxS (by rfl) ?_; simp only [Act.put, zA37, zB37, zC37])); (first | (apply lxP (by rfl); (focus (intro w; go_simp; (try with_reducible rfl); done)); simp only [Act.put, zA37, zB37, zC37]) | (refine lxQ (by rfl) ?_; simp only [Act.put, zA37, zB37, zC37]))
  (iterate 2 ((apply lxP (by rfl); (focus (intro w; go_simp; (try with_reducible rfl); done)); simp only [Act.put, zA37, zB37, zC37]))); (first | (apply lxP (by rfl); (focus (intro w; go_simp; (try with_reducible rfl); done)); simp only [Act.put, zA37, zB37, zC37]) | (refine lxQ (by rfl) ?_; simp only [Act.put, zA37, zB37, zC37])); (first | (apply lxT (by rfl); (focus (intro w hw; (try dsimp only at hw); go_simp; (try with_reducible rfl); done)); simp only [Act.put, zA37, zB37, zC37]) | (refine lxS (by rfl) ?_; simp only [Act.put, zA37, zB37, zC37])); (first | (apply lxP (by rfl); (focus (intro w; go_simp; (try with_reducible rfl); done)); simp only [Act.put, zA37, zB37, zC37]) | (refine lxQ (by rfl) ?_; simp only [Act.put, zA37, zB37, zC37])); (first | (apply lxT (by rfl); (focus (intro w hw; (try dsimp only at hw); go_simp; (try with_reducible rfl); done)); simp only [Act.put, zA37, zB37, zC37]) | (refine lxS (by rfl) ?_; simp only [Act.put, zA37, zB37, zC37])); (first | (apply lxP (by rfl); (focus (intro w; go_simp; (try with_reducible rfl); done)); simp only [Act.put, zA37, zB37, zC37]) | (refine lxQ (by rfl) ?_; simp only [Act.put, zA37, zB37, zC37])); (apply lxP (by rfl); (focus (intro w; go_simp; (try with_reducible rfl); done)); simp only [Act.put, zA37, zB37, zC37])
  refine lxN (fun _ => wqD (by kernel_rfl) ?_ _)
  clear y13 y3 x1 p0 p1
  go_wp2
  go_end0
  exact ⟨rfl, HST.out _ r0.drew⟩
 ·have u1 : (G.role == 1) = true := by simp [hc.1]
  have u2 : (n0 == G.bt) = true := by simp [hc.2.1]
  have u3 : (n1 == 1) = false := by simpa using hc.2.2
  clear hc
  go_enter Tryz.func52, Tryz.ntmps52
  go_upto_region 1 with fail
  (try rw [HW.out.1])
  (try rw [HW.out.2])
  refine lxR (fun w' => Below w0.heap.size w0 w') [] 0 [(2, 0), (2, 1), (2, 2), (0, 3), (2, 4), (2, 5), (2, 6), (0, 7), (2, 8), (0, 9), (2, 10), (2, 11), (2, 12), (2, 13), (0, 14), (2, 15), (2, 16), (2, 17), (2, 18), (0, 19), (2, 20), (0, 21), (2, 22), (2, 23)] #[true, true, true, true, true, true, true, true, true, true, true, true, true, true, true, true, true, true, true, true, true, true, true, true] (by kernel_rfl) (by kernel_rfl) (by decide) (by kernel_rfl) (by kernel_rfl) (fun _ _ _ _ _ h => h) (by (exact r0.drew)) (fun hS0 => ?_)
  simp only [List.map_cons, List.map_nil, List.getElem?_toArray, List.getElem?_cons_succ, List.getElem?_cons_zero]
  (iterate 3 ((apply lxP (by rfl); (focus (intro w; go_simp; (try with_reducible rfl); done)); simp only [Act.put, zA37, zB37, zC37]))); (apply lxT (by rfl); (focus (intro w hw; (try dsimp only at hw); go_simp; (try with_reducible rfl); done)); simp only [Act.put, zA37, zB37, zC37]); (iterate 2 ((apply lxP (by rfl); (focus (intro w; go_simp; (try with_reducible rfl); done)); simp only [Act.put, zA37, zB37, zC37]))); (first | (apply lxP (by rfl); (focus (intro w; go_simp; (try with_reducible rfl); done)); simp only [Act.put, zA37, zB37, zC37]) | (refine lxQ (by rfl) ?_; simp only [Act.put, zA37, zB37, zC37])); (first | (apply lxT (by rfl); (focus (intro w hw; (try dsimp only at hw); go_simp; (try with_reducible rfl); done)); simp only [Act.put, zA37, zB37, zC37]) | (refine lxS (by rfl) ?_; simp only [Act.put, zA37, zB37, zC37])); (first | (apply lxP (by rfl); (focus (intro w; go_simp; (try with_reducible rfl); done)); simp only [Act.put, zA37, zB37, zC37]) | (refine lxQ (by rfl) ?_; simp only [Act.put, zA37, zB37, zC37])); (first | (apply lxT (by rfl); (focus (intro w hw; (try dsimp only at hw); go_simp; (try with_reducible rfl); done)); simp only [Act.put, zA37, zB37, zC37]) | (refine lxS (by rfl) ?_; simp only [Act.put, zA37, zB37, zC37])); (iterate 4 (first | (apply lxP (by rfl); (focus (intro w; go_simp; (try with_reducible rfl); done)); simp only [Act.put, zA37, zB37, zC37]) | (refine lxQ (by rfl) ?_; simp only [Act.put, zA37, zB37, zC37]))); (first | (apply lxT (by rfl); (focus (intro w hw; (try dsimp only at hw); go_simp; (try with_reducible rfl); done)); simp only [Act.put, zA37, zB37, zC37]) | (refine lxS (by rfl) ?_; simp only [Act.put, zA37, zB37, zC37])); (first | (apply lxP (by rfl); (focus (intro w; go_simp; (try with_reducible rfl); done)); simp only [Act.put, zA37, zB37, zC37]) | (refine lxQ (by rfl) ?_; simp only [Act.put, zA37, zB37, zC37]))
  (iterate 2 ((apply lxP (by rfl); (focus (intro w; go_simp; (try with_reducible rfl); done)); simp only [Act.put, zA37, zB37, zC37]))); (first | (apply lxP (by rfl); (focus (intro w; go_simp; (try with_reducible rfl); done)); simp only [Act.put, zA37, zB37, zC37]) | (refine lxQ (by rfl) ?_; simp only [Act.put, zA37, zB37, zC37])); (first | (apply lxT (by rfl); (focus (intro w hw; (try dsimp only at hw); go_simp; (try with_reducible rfl); done)); simp only [Act.put, zA37, zB37, zC37]) | (refine lxS (by rfl) ?_; simp only [Act.put, zA37, zB37, zC37])); (first | (apply lxP (by rfl); (focus (intro w; go_simp; (try with_reducible rfl); done)); simp only [Act.put, zA37, zB37, zC37]) | (refine lxQ (by rfl) ?_; simp only [Act.put, zA37, zB37, zC37])); (first | (apply lxT (by rfl); (focus (intro w hw; (try dsimp only at hw); go_simp; (try with_reducible rfl); done)); simp only [Act.put, zA37, zB37, zC37]) | (refine lxS (by rfl) ?_; simp only [Act.put, zA37, zB37, zC37])); (first | (apply lxP (by rfl); (focus (intro w; go_simp; (try with_reducible rfl); done)); simp only [Act.put, zA37, zB37, zC37]) | (refine lxQ (by rfl) ?_; simp only [Act.put, zA37, zB37, zC37])); (apply lxP (by rfl); (focus (intro w; go_simp; (try with_reducible rfl); done)); simp only [Act.put, zA37, zB37, zC37])
  refine lxN (fun _ => wqD (by kernel_rfl) ?_ _)
  clear y13 y3 x1 p0 p1
  go_wp2
  go_end0
  exact ⟨rfl, HST.out _ r0.drew⟩
end
end Go.Proofs.YteppdlkmjgladaaGreat
