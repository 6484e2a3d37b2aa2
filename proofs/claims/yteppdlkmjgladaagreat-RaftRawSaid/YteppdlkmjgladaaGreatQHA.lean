/- One text of: Ha Hc. -/
import Derived.Test.YteppdlkmjgladaaGreatQGI
import Derived.Test.YteppdlkmjgladaaGreatQGz
namespace Go.Proofs.YteppdlkmjgladaaGreat
open Go.RowKit Go.Proofs Go.Maps
set_option linter.unusedVariables false
set_option linter.unusedSimpArgs false
theorem zA45 {α : Type} (l : List α) (i : Nat) (a : α) : l.toArray.setIfInBounds i a = (l.set i a).toArray := by simp
theorem zB45 {α : Type} (x a : α) (l : List α) : (x :: l).set 0 a = a :: l := rfl
theorem zC45 {α : Type} (x a : α) (l : List α) (n : Nat) : (x :: l).set (n + 1) a = x :: l.set n a := rfl

section
variable {w w' : World} {nb u g : Nat} {q : Gl} {G : Gd}
def STT (w w' : World) (G : Gd) (e : Ending) : Prop := ∃ (z : Int) (A : Option Addr) (n c : Nat), e = .returned (.agg #[.int .i64 G.bt, .int .i64 G.role, .int .i64 G.leader, .int .i64 G.commit, .int .i64 z, .slice A n c]) ∧ Below w.heap.size w w'
set_option maxHeartbeats 4000000 in
set_option maxRecDepth 100000 in
theorem gstatus_calls (h : GP w nb q G) (hi : GI u G) (hu : u ≤ 1000) :
  Calls Tryz.prog 12 #[.pointer (some ⟨nb, 0, none⟩)] w fun e w' => STT w w' G e := by
 obtain ⟨w0, hw0⟩ : ∃ w0, w.alloc (.cells #[.int .i64 0, .int .i64 0, .int .i64 0, .int .i64 0, .int .i64 0, .slice none 0 0] 35) = w0 := ⟨_, rfl⟩
 obtain ⟨xb, hxb⟩ : ∃ xb, w.heap.size = xb := ⟨_, rfl⟩
 have hb0 : Below w.heap.size w w0 := hw0 ▸ belowL (Below.refl _ _) _
 have bX : Blk w0 xb 35 [.int .i64 0, .int .i64 0, .int .i64 0, .int .i64 0, .int .i64 0, .slice none 0 0] := by rw [← hw0, ← hxb]; exact Blk.new rfl
 have h0 := h.below hb0
 have y9 : w0.cell? ⟨nb, 9, none⟩ = some (.pointer (some ⟨q.lb, 0, none⟩)) := h0.blk.cell 9
 have HLA := lg_last h0.log (by rw [hi.m.li]; exact hi.m.si.1) (by rw [hi.m.li]; have := hi.m.si.2; omega) (by have := hi.m.n; omega)
 have HW := hide (And.intro hw0 hxb)
 obtain ⟨n, hn⟩ : ∃ n, G.m.li + (G.m.L.length : Int) = n := ⟨_, rfl⟩
 rw [hn] at HLA
 have HLA := hide HLA
 have H := hide (And.intro h0 (And.intro hi (And.intro hb0 bX)))
 clear h h0 hi hb0 bX hw0 hxb hn
 go_enter Tryz.func12, Tryz.ntmps12
 go_upto_region 1 with fail
 (try rw [HW.out.1])
 (try rw [HW.out.2])
 go_wp2_with fail
 with_reducible refine HLA.out.mono ?_
 rintro e w1 ⟨rfl, q1, rfl⟩
 have hb1 := below_drewN (Below.refl w0.heap.size w0) q1
 have HM := hide (gmem_calls (H.out.1.below hb1) H.out.2.1.m (by omega))
 have HB1 := hide hb1
 clear hb1 y9 HLA
 go_wp2_with fail
 with_reducible refine HM.out.mono ?_
 rintro e w2 ⟨Am, cm, lm, im, rfl, hit, _, _, _, hb2⟩
 have hb02 := belowA hb2 HB1.out
 have h2 := H.out.1.below hb02
 have r2 := Below.refl w2.heap.size w2
 have y3 := h2.blk.rule 3 _ rfl
 have y13 := h2.blk.rule 13 _ rfl
 have y14 := h2.blk.rule 14 _ rfl
 have y10 := h2.blk.rule 10 _ rfl
 have bX2 := H.out.2.2.2.below hb02
 have HCL := hide (fun (w' : World) (hb : Below w2.heap.size w2 w') => cloneI_calls Am lm.length cm lm [] w' rfl (hit.sl.below hb))
 have H2 := hide (And.intro hb02 (And.intro bX2 hb2))
 clear hb2 hb02 h2 bX2 HM hit
 go_upto_region 3 with fail
 refine lxR (fun w' => Below w2.heap.size w2 w') [21] 0 [(2, 0), (2, 1), (2, 2), (2, 3), (0, 4), (2, 5), (2, 6), (2, 7), (0, 8), (2, 9), (2, 10), (2, 11), (0, 12), (2, 13), (2, 14), (2, 15), (0, 16), (2, 17), (2, 18), (1, 19), (2, 20), (3, 21)] #[true, true, true, true, true, true, true, true, true, true, true, true, true, true, true, true, true, true, true, true, true, true] (by kernel_rfl) (by kernel_rfl) (by decide) (by kernel_rfl) (by kernel_rfl) (fun _ _ _ _ _ h => h) (by (first | exact r2.drew | exact hb4')) (fun hS0 => ?_)
 simp only [List.map_cons, List.map_nil, List.getElem?_toArray, List.getElem?_cons_succ, List.getElem?_cons_zero]
 (iterate 4 ((apply lxP (by rfl); (focus (intro w; go_simp; (try with_reducible rfl); done)); simp only [Act.put, zA45, zB45, zC45]))); (apply lxT (by rfl); (focus (intro w hw; (try dsimp only at hw); go_simp; (try with_reducible rfl); done)); simp only [Act.put, zA45, zB45, zC45]); (iterate 3 ((apply lxP (by rfl); (focus (intro w; go_simp; (try with_reducible rfl); done)); simp only [Act.put, zA45, zB45, zC45]))); (apply lxT (by rfl); (focus (intro w hw; (try dsimp only at hw); go_simp; (try with_reducible rfl); done)); simp only [Act.put, zA45, zB45, zC45]); (iterate 3 ((apply lxP (by rfl); (focus (intro w; go_simp; (try with_reducible rfl); done)); simp only [Act.put, zA45, zB45, zC45]))); (apply lxT (by rfl); (focus (intro w hw; (try dsimp only at hw); go_simp; (try with_reducible rfl); done)); simp only [Act.put, zA45, zB45, zC45]); (iterate 3 ((apply lxP (by rfl); (focus (intro w; go_simp; (try with_reducible rfl); done)); simp only [Act.put, zA45, zB45, zC45]))); (apply lxT (by rfl); (focus (intro w hw; (try dsimp only at hw); go_simp; (try with_reducible rfl); done)); simp only [Act.put, zA45, zB45, zC45]); (iterate 2 ((apply lxP (by rfl); (focus (intro w; go_simp; (try with_reducible rfl); done)); simp only [Act.put, zA45, zB45, zC45]))); (refine lxE (by rfl) ?_; go_simp; ((go_at_call 35; with_reducible refine (HCL.out _ r2.drew).mono ?_; rintro e w4 ⟨A4, c4, rfl, ho4, hb4⟩; have hb4' := belowA hb4 r2.drew; have b4 := H2.out.2.1.below hb4'; have s0 := b4.cell 0; have s1 := b4.cell 1; have s2 := b4.cell 2; have s3 := b4.cell 3; have s4 := b4.cell 4; have s5 := b4.cell 5; have t0 := b4.frozen 0; have t1 := b4.frozen 1; have t2 := b4.frozen 2; have t3 := b4.frozen 3; have t4 := b4.frozen 4; have t5 := b4.frozen 5; simp only [List.getElem?_cons_succ, List.getElem?_cons_zero] at s0 s1 s2 s3 s4 s5)); refine lxB (by (first | exact r2.drew | exact hb4')) (fun hS1 => ?_)); (apply lxP (by rfl); (focus (intro w; go_simp; (try with_reducible rfl); done)); simp only [Act.put, zA45, zB45, zC45]); (refine lxF (by rfl) ?_; go_simp)
 refine lxN (fun _ => wqD (by kernel_rfl) ?_ _)
 obtain ⟨w5, hw5⟩ : ∃ w5, (((((w4.setCell ⟨xb, 0, none⟩ (.int .i64 G.bt)).setCell ⟨xb, 1, none⟩ (.int .i64 G.role)).setCell ⟨xb, 2, none⟩ (.int .i64 G.leader)).setCell ⟨xb, 3, none⟩ (.int .i64 G.commit)).setCell ⟨xb, 4, none⟩ (.int .i64 n)).setCell ⟨xb, 5, none⟩ (.slice A4 lm.length c4) = w5 := ⟨_, rfl⟩
 have c5 : Chg [xb] w4 w5 := by rw [← hw5]; exact ((((((Chg.refl [xb] w4).setCell (p := ⟨xb, 0, none⟩) (Or.inl (by simp)) _).setCell (p := ⟨xb, 1, none⟩) (Or.inl (by simp)) _).setCell (p := ⟨xb, 2, none⟩) (Or.inl (by simp)) _).setCell (p := ⟨xb, 3, none⟩) (Or.inl (by simp)) _).setCell (p := ⟨xb, 4, none⟩) (Or.inl (by simp)) _).setCell (p := ⟨xb, 5, none⟩) (Or.inl (by simp)) _
 have b5 := (((((b4.set 0 (.int .i64 G.bt)).set 1 (.int .i64 G.role)).set 2 (.int .i64 G.leader)).set 3 (.int .i64 G.commit)).set 4 (.int .i64 n)).set 5 (.slice A4 lm.length c4)
 rw [hw5] at b5
 rw [hw5]
 have u0 : w5.cell? ⟨xb, 0, none⟩ = some (.int .i64 G.bt) := b5.cell 0
 have u1 : w5.cell? ⟨xb, 1, none⟩ = some (.int .i64 G.role) := b5.cell 1
 have u2 : w5.cell? ⟨xb, 2, none⟩ = some (.int .i64 G.leader) := b5.cell 2
 have u3 : w5.cell? ⟨xb, 3, none⟩ = some (.int .i64 G.commit) := b5.cell 3
 have u4 : w5.cell? ⟨xb, 4, none⟩ = some (.int .i64 n) := b5.cell 4
 have u5 : w5.cell? ⟨xb, 5, none⟩ = some (.slice A4 lm.length c4) := b5.cell 5
 have hxl : xb < w2.heap.size := H2.out.2.1.lt
 have hb04 := belowA hb4' (belowA H2.out.1 H.out.2.2.1)
 have hbw5 := Chg.onto hb04 hb04.size c5 (fun z hz => by rw [List.mem_singleton.1 hz, ← HW.out.2]; exact Nat.le_refl _)
 have HF := hide hbw5
 clear hw5 c5 b5 hxl hb04 hbw5 b4 s0 s1 s2 s3 s4 s5 t0 t1 t2 t3 t4 t5 hS0 hS1 hb4 hb4' ho4
 go_wp2
 exact bodyPost_ret (v := .agg #[.int .i64 G.bt, .int .i64 G.role, .int .i64 G.leader, .int .i64 G.commit, .int .i64 n, .slice A4 lm.length c4]) (by simp [results, Tryz.results12, go_sem, *]) rfl ⟨n, A4, lm.length, c4, rfl, HF.out⟩
end
def Gd.first (id : Int) (V : Vlt) (d : Bool) (l : List Int) : Gd := ⟨id, d, 0, -1, 0, 0, false, 0, -1, 0, 0, ⟨V, 0, 0, l, [], 0, 0, [], [], noF, noF, 0⟩⟩
def Pl.gl (p : Pl) (Fl Fv : List Nat) : Gl := ⟨p.v, p.d, p.lb, p.nx, p.mx, p.Am, p.cm, none, 0, none, 0, none, 0, Fl, Fv⟩
theorem Nd.new_eq (id : Int) (V : Vlt) (l : List Int) : ∃ d, Nd.new id V l = { id := id, V := (Nd.new id V l).V, dead := d, bt := 0, bv := -1, sm := l, L := [], commit := 0, told := 0, role := 0, leader := -1, quiet := 0, beats := 0, votes := [], next := noF, mat := noF } := by
 unfold Nd.new Nd.put
 rw [if_neg (by simp)]
 exact ⟨_, rfl⟩
theorem GP.of_new {w : World} {nb : Nat} {p : Pl} {Fl Fv : List Nat} {id : Int} {V : Vlt} {l : List Int} (h : NP w nb p Fl Fv (Nd.new id V l)) (hv : p.Av = none ∧ p.cv = 0) (hid : 0 ≤ id ∧ id ≤ 15) (hm : memOk l) :
  ∃ d, GP w nb (p.gl Fl Fv) (Gd.first id (Nd.new id V l).V d l) ∧ GI 1 (Gd.first id (Nd.new id V l).V d l) := by
 obtain ⟨d, e⟩ := Nd.new_eq id V l
 obtain ⟨V', hV⟩ : ∃ V', (Nd.new id V l).V = V' := ⟨_, rfl⟩
 rw [hV] at e ⊢
 rw [e] at h
 have s := h.sep
 have hb := h.blk
 unfold Nd.cells at hb
 simp only [] at hb
 rw [hv.1, hv.2] at hb
 have no : ∀ x, x ∈ (p.gl Fl Fv).ob → False := fun x hx => by simp [Gl.ob, Pl.gl] at hx
 have nv : ∀ x, x ∈ (p.gl Fl Fv).vb → False := fun x hx => by simp [Gl.vb, Pl.gl] at hx
 have ne : ∀ x, x ∈ Fl ++ Fv → x ≠ nb ∧ x ≠ p.nx ∧ x ≠ p.mx := fun x hx => ⟨fun e => s.e (by rw [← e]; simp only [List.mem_cons]; exact Or.inr (Or.inr hx)), fun e => s.b (e ▸ hx), fun e => s.c (e ▸ hx)⟩
 refine ⟨d, ⟨hb, h.vlt, h.log, h.sm, trivial, ?_, h.nx, h.mx, ⟨[], ?_⟩, ⟨fun e => s.e (by rw [← e]; simp [Pl.gl]), fun e => s.e (by rw [← e]; simp [Pl.gl]), s.a, fun x hx => (no x hx).elim, fun x hx => ?_, fun x hx => ?_, fun x hx => (nv x hx).elim⟩⟩, ?_⟩
 ·exact World.ownsRow_nil _ _ _ _
 ·exact World.ownsRow_nil _ _ _ _
 ·have h1 := ne x (List.mem_append_left _ hx)
  exact ⟨h1.1, h1.2.1, h1.2.2, fun h => no x h⟩
 ·have h1 := ne x (List.mem_append_right _ hx)
  exact ⟨h1.1, h1.2.1, h1.2.2, fun h => no x h, fun h => s.d x h hx⟩
 ·refine ⟨hid, ?_, ?_, ?_, ?_, ?_, ?_, ⟨?_, ?_, rfl, rfl, hm, ?_, fun c hc => ?_, ?_, ⟨?_, fun x hx => ?_⟩, fun x => ?_, fun x => ?_, ?_⟩⟩
  all_goals (first | (simp [Gd.first, noF]; done) | (simp [Gd.first] at hc; done) | (simp [Gd.first] at hx; done) | (simp only [Gd.first]; omega) | skip)
section
variable {w w' : World} {no : List Nat} {A : Option Addr} {c : Nat}
theorem freshN_calls {l : List Int} (h : Sl w no A c l) (id : Int) (hid : 0 ≤ id ∧ id ≤ 15) (hr : RightP l) : Calls Tryz.prog 18 #[.int .i64 id, .slice A l.length c] w fun e w' => ∃ nb d q G, e = .returned (.tuple #[.pointer (some ⟨nb, 0, none⟩), .pointer (some ⟨d, 0, none⟩)]) ∧ GP w' nb q G ∧ GI 1 G ∧ VltOk G.m.V 1 ∧ GA w w' nb q :=
 (freshG_calls h id hid hr).mono fun e w' ⟨nb, p, Fl, Fv, d, h1, h2, h3, h4, h5, h6⟩ => by
  obtain ⟨dd, h7, h8⟩ := GP.of_new h2 h6 hid hr.mem
  refine ⟨nb, d, _, _, h1, h7, h8, h5, ⟨h4, fun x hx => h3 x ?_⟩⟩
  rcases List.mem_append.1 hx with hx | hx
  ·rcases gt_mem.1 hx with e | e | e | e | e | e
   ·exact ft_mem.2 (Or.inl e)
   ·exact ft_mem.2 (Or.inr (Or.inl e))
   ·exact ft_mem.2 (Or.inr (Or.inr (Or.inl e)))
   ·simp [Gl.ob, Pl.gl] at e
   ·exact ft_mem.2 (Or.inr (Or.inr (Or.inr (Or.inl e))))
   ·exact ft_mem.2 (Or.inr (Or.inr (Or.inr (Or.inr e))))
  ·simp [Gl.vb, Pl.gl] at hx
end
end Go.Proofs.YteppdlkmjgladaaGreat

namespace Go.Proofs.YteppdlkmjgladaaGreat
open Go.RowKit Go.Proofs Go.Maps
set_option linter.unusedVariables false
set_option linter.unusedSimpArgs false

def stC (a r l b z : Int) (A : Option Addr) (n c : Nat) : List Value := [.int .i64 a, .int .i64 r, .int .i64 l, .int .i64 b, .int .i64 z, .slice A n c]
def RJ (W w : World) (nb xb : Nat) (a b : Int) (u g : Nat) : Prop := ∃ q G, GP w nb q G ∧ GI u G ∧ VltOk G.m.V g ∧ GA W w nb q ∧ xb ∉ gt nb q ++ q.vb ∧ W.heap.size ≤ xb ∧ a ≤ G.bt ∧ b ≤ G.commit ∧ ∃ r l z A n c, Blk w xb 35 (stC a r l b z A n c)
def STJ (W w w' : World) (nb xb : Nat) (a b : Int) (u g : Nat) (e : Ending) : Prop := ∃ bt r l cm z A n c, e = .returned (.agg #[.int .i64 bt, .int .i64 r, .int .i64 l, .int .i64 cm, .int .i64 z, .slice A n c]) ∧ a ≤ bt ∧ b ≤ cm ∧ Below w.heap.size w w' ∧ (∃ r l z A n c, Blk w' xb 35 (stC a r l b z A n c)) ∧
 ∀ w1 w2, Below w'.heap.size w' w1 → Chg [xb] w1 w2 → Blk w2 xb 35 (stC bt r l cm z A n c) → RJ W w2 nb xb bt cm u g
section
variable {W w w' w1 w2 : World} {nb xb u g : Nat} {q q' : Gl} {G G' : Gd} {a b : Int}
theorem GP.other (h : GP w nb q G) (hB : HardL w [xb]) (hn : xb ∉ gt nb q ++ q.vb) (hc : Chg [xb] w w') : GP w' nb q G ∧ ∀ x ∈ gt nb q ++ q.vb, x ≠ xb := by
 have hne : ∀ x ∈ gt nb q ++ q.vb, x ∉ [xb] := fun x hx hy => hn (List.mem_singleton.1 hy ▸ hx)
 have hg : ∀ x, x ∈ gt nb q → x ∉ [xb] := fun x hx => hne x (List.mem_append_left _ hx)
 obtain ⟨xs, ho⟩ := h.out
 refine ⟨⟨h.blk.chg hc (hg _ (gt_mem.2 (Or.inl rfl))), h.vlt.chg hc (fun x hx => hg _ (gt_mem.2 (by simp [hx]))) hB.nob, h.log.keep hc (fun x hx => hg _ (gt_mem.2 (by simp [hx]))) (fun x hx => (hB x hx).notByte), h.sm.chg hc hB, trivial, ?_, h.nx.chg hc (hg _ (gt_mem.2 (by simp))), h.mx.chg hc (hg _ (gt_mem.2 (by simp))), ⟨xs, ?_⟩, h.sep⟩, fun x hx e => hne x hx (by rw [e]; exact List.mem_singleton.2 rfl)⟩
 ·exact own_chg h.vo hc (fun z hz hx => hne z (List.mem_append_right _ (by rw [owS] at hz; unfold Gl.vb; rw [hz]; simp)) hx)
 ·exact own_chg ho hc (fun z hz hx => hg z (gt_mem.2 (Or.inr (Or.inr (Or.inr (Or.inl (by rw [owS] at hz; unfold Gl.ob; rw [hz]; simp)))))) hx)
theorem RJ.start (h : GP w nb q G) (hi : GI u G) (hV : VltOk G.m.V g) (hA : GA W w nb q) (r l z : Int) (A : Option Addr) (n c : Nat) : RJ W (w.alloc (.cells #[.int .i64 G.bt, .int .i64 r, .int .i64 l, .int .i64 G.commit, .int .i64 z, .slice A n c] 35)) nb w.heap.size G.bt G.commit u g :=
 have hb := belowL (Below.refl w.heap.size w) (.cells #[.int .i64 G.bt, .int .i64 r, .int .i64 l, .int .i64 G.commit, .int .i64 z, .slice A n c] 35)
 ⟨q, G, h.below hb, hi, hV, hA.low hb, fun hx => by have := h.lt _ hx; omega, hA.be.size, Int.le_refl _, Int.le_refl _, r, l, z, A, n, c, Blk.new rfl⟩
theorem RJ.gv (h : GV w w' nb q G u g) (hA : GA W w nb q) (hx : xb ∉ gt nb q ++ q.vb) (hW : W.heap.size ≤ xb) (h1 : a ≤ G.bt) (h2 : b ≤ G.commit) {r l z : Int} {A : Option Addr} {n c : Nat} (hB : Blk w xb 35 (stC a r l b z A n c)) : RJ W w' nb xb a b u g := by
 obtain ⟨q', G', k1, k2, k3, k4, k5, k6, k7⟩ := h
 have hlt := hB.lt
 exact ⟨q', G', k1, k2, k3, hA.move k7, fun hx' => (k7.g _ hx').elim hx (fun e => by omega), hW, Int.le_trans h1 k5, Int.le_trans h2 k6, r, l, z, A, n, c, hB.chg k7.c hx⟩
theorem RJ.below (h : RJ W w nb xb a b u g) (hb : Below w.heap.size w w') : RJ W w' nb xb a b u g := by
 obtain ⟨q, G, h1, h2, h3, h4, h5, h6, h7, h8, r, l, z, A, n, c, h9⟩ := h
 exact ⟨q, G, h1.below hb, h2, h3, h4.low hb, h5, h6, h7, h8, r, l, z, A, n, c, h9.below hb⟩
theorem RJ.up {v k : Nat} (h : RJ W w nb xb a b u g) (hu : u ≤ v) (hg : g ≤ k) : RJ W w nb xb a b v k := by
 obtain ⟨q, G, h1, h2, h3, h4⟩ := h
 exact ⟨q, G, h1, h2.up hu, h3.up hg, h4⟩
theorem RJ.be (h : RJ W w nb xb a b u g) : Below W.heap.size W w := by
 obtain ⟨q, G, h1, h2, h3, h4, _⟩ := h
 exact h4.be
theorem RJ.handle {A1 A2 A3 : Option Addr} {N : List Int} {B : List Nat} {c1 c2 c3 m3 : Nat} (h : RJ W w nb xb a b u g) (hu : u ≤ 840) (hg : g + 4398046511200 < 2 ^ 60) (fr k : Int) (hk : i64ok k) (hm : MsgW W A1 N c1 A2 B c2 A3 m3) :
  Calls Tryz.prog 19 #[.pointer (some ⟨nb, 0, none⟩), .int .i64 fr, .agg #[.int .i64 k, .slice A1 N.length c1, .slice A2 B.length c2, .slice A3 m3 c3]] w fun e w' => e = .returned (.tuple #[]) ∧ RJ W w' nb xb a b (u + 6) (g + 2199023255600) := by
 obtain ⟨q, G, h1, h2, h3, h4, h5, h6, h7, h8, r, l, z, A, n, c, h9⟩ := h
 exact (ghandle_calls h1 h4 h2 hu h3 hg fr k hk hm).mono fun e w' ⟨he, hv⟩ => ⟨he, RJ.gv hv h4 h5 h6 h7 h8 h9⟩
theorem RJ.tick (h : RJ W w nb xb a b u g) (hu : u ≤ 890) (hg : g + 2 < 2 ^ 60) :
  Calls Tryz.prog 20 #[.pointer (some ⟨nb, 0, none⟩)] w fun e w' => e = .returned (.tuple #[]) ∧ RJ W w' nb xb a b (u + 5) (g + 2) := by
 obtain ⟨q, G, h1, h2, h3, h4, h5, h6, h7, h8, r, l, z, A, n, c, h9⟩ := h
 exact (gtick_calls h1 h2 hu h3 hg).mono fun e w' ⟨he, hv⟩ => ⟨he, RJ.gv hv.gv h4 h5 h6 h7 h8 h9⟩
theorem RJ.applied (h : RJ W w nb xb a b u g) (hu : u ≤ 890) :
  Calls Tryz.prog 17 #[.pointer (some ⟨nb, 0, none⟩)] w fun e w' => (∃ v, e = .returned v) ∧ RJ W w' nb xb a b u g := by
 obtain ⟨q, G, h1, h2, h3, h4, h5, h6, h7, h8, r, l, z, A, n, c, h9⟩ := h
 refine (gapplied_calls h1 h2 hu).mono fun e w' ⟨v, t, he, k1, k2, k3⟩ => ⟨⟨v, he⟩, ?_⟩
 have hlt := h9.lt
 exact ⟨q, _, k1, k2, h3, h4.step k3, h5, h6, h7, h8, r, l, z, A, n, c, h9.chg k3.c (fun hx => h5 (List.mem_append_left _ hx))⟩
theorem RJ.status (h : RJ W w nb xb a b u g) (hu : u ≤ 1000) :
  Calls Tryz.prog 12 #[.pointer (some ⟨nb, 0, none⟩)] w fun e w' => STJ W w w' nb xb a b u g e := by
 obtain ⟨q, G, h1, h2, h3, h4, h5, h6, h7, h8, r, l, z, A, n, c, h9⟩ := h
 refine (gstatus_calls h1 h2 hu).mono fun e w' ⟨z', A', n', c', he, hb⟩ => ?_
 refine ⟨G.bt, G.role, G.leader, G.commit, z', A', n', c', he, h7, h8, hb, ⟨r, l, z, A, n, c, h9.below hb⟩, fun w1 w2 hb1 hc hB => ?_⟩
 have hb01 := belowA hb1 hb
 have h91 := h9.below hb01
 have hh : HardL w1 [xb] := HardL.cons (h91.hard (by decide) (by decide)) (fun g hg => by cases hg)
 have k := (h1.below hb01).other hh h5 hc
 have hA1 := h4.low hb01
 exact ⟨q, G, k.1, h2, h3, ⟨Chg.onto hA1.be hA1.be.size hc (fun x hx => by rw [List.mem_singleton.1 hx]; exact h6), h4.ge⟩, h5, h6, Int.le_refl _, Int.le_refl _, G.role, G.leader, z', A', n', c', hB⟩
theorem sl_three {w : World} {b : Nat} (h : Blk w b 3 [.int .i64 0, .int .i64 1, .int .i64 2]) : Sl w [] (some ⟨b, 0, none⟩) 3 [0, 1, 2] :=
 ⟨Nat.le_refl _, by simp, ⟨by simp, fun _ => ⟨b, 0, rfl, h.lt, fun j u hu => by rw [Nat.zero_add, h.cell j]; exact hu⟩⟩, fun a ha => by cases ha; exact ⟨rfl, by simp, h.lt⟩⟩
end
end Go.Proofs.YteppdlkmjgladaaGreat
