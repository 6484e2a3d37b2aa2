/- One text of: Mz Mr Ms. -/
import Derived.Test.YtcahcjfgmdpdoaaGreatQMB
import Derived.Test.YtcahcjfgmdpdoaaGreatQNp
import Derived.Test.YtcahcjfgmdpdoaaGreatQDA
import Derived.Test.YtcahcjfgmdpdoaaGreatQVO
import Derived.Test.YtcahcjfgmdpdoaaGreatQPL
set_option maxHeartbeats 4000000
set_option maxRecDepth 100000
namespace Go.Proofs.YtcahcjfgmdpdoaaGreat
open Go.RowKit Go.Proofs Go.Maps
set_option linter.unusedVariables false
set_option linter.unusedSimpArgs false

theorem setCell_stay {w : World} {b : Nat} {t : TypeId} {v : Value} (h : Blk w b t [v]) : w.setCell ⟨b, 0, none⟩ v = w := by
 have h2 : w.heap[b]? = some (.cells #[v] t (0, 0)) := h; have hl := h.lt
 have h3 : w.heap[b] = .cells #[v] t (0, 0) := by rw [Array.getElem?_eq_getElem hl] at h2; exact Option.some.inj h2
 unfold World.setCell
 have hm : ∀ f : Obj → Obj, f (.cells #[v] t (0, 0)) = .cells #[v] t (0, 0) → w.heap.modify b f = w.heap := fun f hf => by
  apply Array.ext
  ·simp
  ·intro i h4 h5
   rw [Array.getElem_modify]
   split
   ·rename_i e
    subst e; rw [h3, hf]
   ·rfl
 simp only []; rw [hm _ (by simp)]
section
variable {W w w' : World} {mb rb sb nb n cr k t : Nat} {G F : List Nat} {N : Nd} {Z Z' : List Con} {S : Vst} {R : Int → Option Value} {ix : Int} {b2 b3 b4 b5 b6 : Nat}
theorem It.chgN {K : List Nat} {A : Option Addr} {c : Nat} {l : List Int} (h : It w A c l) (hc : Chg K w w') (hn : ∀ a, A = some a → a.block ∉ K) : It w' A c l := by
 have h2 : Sl w K A c l := ⟨h.sl.le, h.sl.ln, h.sl.rd, fun a ha => ⟨(h.sl.ap a ha).1, hn a ha, (h.sl.ap a ha).2.2⟩⟩
 exact ⟨(h2.chg hc (fun x hx => Or.inl hx)).sub (by simp), fun a ha => by
  obtain ⟨cs, hb⟩ := h.ty a ha
  exact ⟨cs, hb.chg hc (hn a ha)⟩⟩
theorem NP.boxes {p : Pl} {Fl Fv K : List Nat} (h : NP w nb p Fl Fv N) (hc : Chg K w w') (hn : ∀ x ∈ ft nb p Fl Fv, x ∉ K) (hK : NoB w K) (hb : ∀ x ∈ K, ¬ ByteBlk w x) (hA : ∀ a, p.Am = some a → a.block ∉ K) (hV : ∀ a, p.Av = some a → a.block ∉ K) : NP w' nb p Fl Fv N :=
 ⟨h.blk.chg hc (hn _ (ft_mem.2 (Or.inl rfl))), h.vlt.chg hc (fun x hx => hn _ (ft_mem.2 (by simp [hx]))) hK, h.log.keep hc (fun x hx => hn _ (ft_mem.2 (by simp [hx]))) hb, h.sm.chgN hc hA, h.vo.chgN hc hV, h.nx.chg hc (hn _ (ft_mem.2 (by simp))), h.mx.chg hc (hn _ (ft_mem.2 (by simp))), h.sep⟩
theorem MP.boxes (h : MP w mb rb sb nb G F N S n ix cr R) {K : List Nat} (hc : Chg K w w') (hK : ∀ x ∈ K, x ∈ G) (np : NodeM w' nb F N) : MP w' mb rb sb nb G F N S n ix cr R := by
 have ne := h.ne; simp only [List.mem_append, not_or] at ne
 exact ⟨h.blk.chg hc (fun hx => ne.2.1.1 (hK _ hx)), np, h.vf.chg hc (fun x hx => Or.inl (by simp [hK x hx])), h.ok, h.rm.chg hc (fun hx => ne.2.2.1 (hK _ hx)), h.cl, h.ne, fun x hx => ⟨Nat.lt_of_lt_of_le (h.gl x hx).1 hc.size, (h.gl x hx).2⟩⟩
theorem MP.sub (h : MP w mb rb sb nb G F N S n ix cr R) {G' : List Nat} (hG : ∀ x ∈ G', x ∈ G) : MP w mb rb sb nb G' F N S n ix cr R := by
 have ne := h.ne; simp only [List.mem_append, not_or] at ne
 refine ⟨h.blk, h.np, h.vf.sub (fun x hx => ?_), h.ok, h.rm, h.cl, ⟨ne.1, ?_, ?_⟩, fun x hx => h.gl x (hG x hx)⟩
 ·simp only [List.mem_cons, List.mem_append] at hx ⊢
  rcases hx with e | e | e | e
  ·exact Or.inl e
  ·exact Or.inr (Or.inl e)
  ·exact Or.inr (Or.inr (Or.inl (hG x e)))
  ·exact Or.inr (Or.inr (Or.inr e))
 ·simp only [List.mem_append, not_or]
  exact ⟨fun e => ne.2.1.1 (hG _ e), ne.2.1.2⟩
 ·simp only [List.mem_append, not_or]
  exact ⟨fun e => ne.2.2.1 (hG _ e), ne.2.2.2⟩
structure DoB (w : World) (mb : Nat) (q : Cmd) (b2 b3 b4 b5 b6 : Nat) (i t e : Int) : Prop where
 x2 : Blk w b2 24 [.pointer (some ⟨mb, 0, none⟩)]
 x3 : Blk w b3 35 q.cells
 x4 : Blk w b4 3 [.int .i64 i]
 x5 : Blk w b5 3 [.int .i64 t]
 x6 : Blk w b6 29 [.int .i64 e]
theorem NS.prop (h : NS k t Z N) (h1 : 1 ≤ Z.length) (hZ : Z.length ≤ 8) {b : List Nat} (hb : b.length ≤ 700) (hbb : ∀ x ∈ b, x < 256) : NS k t (Z ++ [(1, 1, bi b)]) (N.prop b) := by
 rcases h with ⟨rfl, _⟩ | ⟨_, h⟩
 ·simp at h1
 ·exact Or.inr ⟨by simp, h.prop hZ hb hbb⟩
theorem mdo1_calls {p : Pl} {Fl Fv : List Nat} (h : NP w nb p Fl Fv N) (hmb : w.cell? ⟨mb, 0, none⟩ = some (.pointer (some ⟨nb, 0, none⟩))) (hN : NS k Z.length Z N) (h1 : 1 ≤ Z.length) (hZ : Z.length ≤ 7) (hk : ConOk Z) (q : Cmd) (hq : q.plain) (hl : q.bytes.length ≤ 100) (hB : DoB w mb q b2 b3 b4 b5 b6 0 0 0)
  (hf : ∀ x ∈ ft nb p Fl Fv, x < b2 ∧ x < b3 ∧ x < b4 ∧ x < b5 ∧ x < b6) (hd : b4 ≠ b5 ∧ b4 ≠ b6 ∧ b5 ≠ b6 ∧ b2 ≠ b4 ∧ b2 ≠ b5 ∧ b2 ≠ b6) (hm : mb < b4 ∧ mb < b5 ∧ mb < b6) :
  Calls Tryz.prog 21 #[.pointer (some ⟨b2, 0, none⟩), .pointer (some ⟨b3, 0, none⟩), .pointer (some ⟨b4, 0, none⟩), .pointer (some ⟨b5, 0, none⟩), .pointer (some ⟨b6, 0, none⟩)] w fun e w' => e = .returned (.tuple #[]) ∧ ∃ w1, NodeP w w1 nb p Fl Fv (N.prop q.bytes) ∧ Chg [b4, b5, b6] w1 w' ∧ Blk w' b4 3 [.int .i64 ((Z.length : Int) + 1)] ∧ Blk w' b5 3 [.int .i64 1] ∧ Blk w' b6 29 [.int .i64 0] := by
 have r0 := Below.refl w.heap.size w; have hml : mb < w.heap.size := World.block_lt_of_cell? w _ hmb
 have y0 : ∀ w', Below w.heap.size w w' → w'.cell? ⟨mb, 0, none⟩ = some (.pointer (some ⟨nb, 0, none⟩)) := fun w' hb => (hb.cell (p := ⟨mb, 0, none⟩) hml).trans hmb
 have hM : M2 k (Z.length : Int) Z N := by
  rcases hN with ⟨rfl, _⟩ | ⟨_, h⟩
  ·simp at h1
  ·exact h
 have HPR := fun (w1 : World) (A : Option Addr) (c : Nat) (hb : Below w.heap.size w w1) (hr : Rb w1 [] A c q.bytes) => npropP_calls (h.below hb) (hM.solo (by omega) hk) hM.matOk hM.dead hM.role (by rw [hM.L]; omega) hM.V.1.ok (by omega) hr (encs_byte _) (by omega)
 have HPU := fun w => vput_calls w q (fun n hn => (hq n hn).2)
 rw [hM.L, hM.bt] at HPR; obtain ⟨bl, hbl⟩ : ∃ n, q.bytes.length = n := ⟨_, rfl⟩; simp only [hbl] at HPU HPR; obtain ⟨B, hBB⟩ : ∃ B, q.bytes = B := ⟨_, rfl⟩; simp only [hBB] at HPU HPR hbl ⊢; obtain ⟨k0, a0, b0, c0, ⟨qr, qw, ql, qb⟩⟩ := q; unfold Cmd.val Cmd.cells at HPU; simp only [] at HPU; have z2 := hB.x2.rule 0 _ rfl; have v0 := hB.x3.rule 0 _ rfl; have v1 := hB.x3.rule 1 _ rfl; have v2 := hB.x3.rule 2 _ rfl; have v3 := hB.x3.rule 3 _ rfl; have v4 := hB.x3.rule 4 _ rfl; have v5 := hB.x3.rule 5 _ rfl; have v6 := hB.x3.rule 6 _ rfl; have v7 := hB.x3.rule 7 _ rfl; simp only [] at v0 v1 v2 v3 v4 v5 v6 v7; have H := hd5 hB hf hd hm hbl; have HPU := hide HPU; have HPR := hide HPR; clear h hmb hN h1 hZ hk hq hl hB hf hd hm hml hM hBB hbl
 go_enter Tryz.func21, Tryz.ntmps21
 go_upto_region 0 with fail
 refine region_lx (fun w' => Below w.heap.size w w') [6] [0, 2, 2, 0, 0, 1, 3, 2, 2, 2, 2, 3, 3, 3] (by (first | exact r0.drew | exact hb1')) (fun hS0 => ?_)
 (iterate 5 (first | refine lxt ?_ | refine lxp ?_))
 (refine lxe ?_; go_simp; (first | (go_at_call 23; (with_reducible refine (HPU.out _).mono ?_); rintro e w1 ⟨A, c, rfl, ho, hb1⟩; have hb1' := belowA hb1 r0.drew; have hrb := ho.bt.rb) | (go_at_call 22; (with_reducible refine (HPR.out _ A c hb1' hrb).mono ?_); rintro e w2 ⟨rfl, hnp, _⟩; have hnp' := NodeP.step (Chg.of_below hb1') (fun x hx => Or.inl hx) (fun x hx => Or.inl hx) hnp; obtain ⟨Fl2, Fv2, k1, k2, k3, k4⟩ := hnp'; have x4 := H.out.1.x4.chg k2 (fun hx => by have := H.out.2.1 b4 hx; omega); have x5 := H.out.1.x5.chg k2 (fun hx => by have := H.out.2.1 b5 hx; omega); have x6 := H.out.1.x6.chg k2 (fun hx => by have := H.out.2.1 b6 hx; omega); have s4 := x4.cell 0; have s5 := x5.cell 0; have s6 := x6.cell 0; have f4 := x4.frozen 0; have f5 := x5.frozen 0; have f6 := x6.frozen 0; simp only [List.getElem?_cons_zero] at s4 s5 s6; have HDD := H.out.2.2.1.1; have HDE := H.out.2.2.1.2.1; have HDF := H.out.2.2.1.2.2.1)); refine lxB (by (first | exact r0.drew | exact hb1')) (fun hS1 => ?_))
 (refine lxn ?_; go_simp; (first | (go_at_call 23; (with_reducible refine (HPU.out _).mono ?_); rintro e w1 ⟨A, c, rfl, ho, hb1⟩; have hb1' := belowA hb1 r0.drew; have hrb := ho.bt.rb) | (go_at_call 22; (with_reducible refine (HPR.out _ A c hb1' hrb).mono ?_); rintro e w2 ⟨rfl, hnp, _⟩; have hnp' := NodeP.step (Chg.of_below hb1') (fun x hx => Or.inl hx) (fun x hx => Or.inl hx) hnp; obtain ⟨Fl2, Fv2, k1, k2, k3, k4⟩ := hnp'; have x4 := H.out.1.x4.chg k2 (fun hx => by have := H.out.2.1 b4 hx; omega); have x5 := H.out.1.x5.chg k2 (fun hx => by have := H.out.2.1 b5 hx; omega); have x6 := H.out.1.x6.chg k2 (fun hx => by have := H.out.2.1 b6 hx; omega); have s4 := x4.cell 0; have s5 := x5.cell 0; have s6 := x6.cell 0; have f4 := x4.frozen 0; have f5 := x5.frozen 0; have f6 := x6.frozen 0; simp only [List.getElem?_cons_zero] at s4 s5 s6; have HDD := H.out.2.2.1.1; have HDE := H.out.2.2.1.2.1; have HDF := H.out.2.2.1.2.2.1)))
 (iterate 4 (refine lxp ?_)); (iterate 3 ((refine lxn ?_; go_simp)))
 refine lxN ?_
 have c4 : Chg [b4, b5, b6] w2 (((w2.setCell ⟨b4, 0, none⟩ (.int .i64 ((Z.length : Int) + 1))).setCell ⟨b5, 0, none⟩ (.int .i64 1)).setCell ⟨b6, 0, none⟩ (.int .i64 0)) := (((Chg.refl [b4, b5, b6] w2).setCell (p := ⟨b4, 0, none⟩) (Or.inl (by simp)) _).setCell (p := ⟨b5, 0, none⟩) (Or.inl (by simp)) _).setCell (p := ⟨b6, 0, none⟩) (Or.inl (by simp)) _; have e4 := x4.set 0 (.int .i64 ((Z.length : Int) + 1)); obtain ⟨w3, hw3⟩ : ∃ w3, w2.setCell ⟨b4, 0, none⟩ (.int .i64 ((Z.length : Int) + 1)) = w3 := ⟨_, rfl⟩; rw [hw3] at c4 e4 ⊢
 have h23 : Chg [b4] w2 w3 := by rw [← hw3]; exact (Chg.refl [b4] w2).setCell (p := ⟨b4, 0, none⟩) (Or.inl (by simp)) _
 have e5 := (x5.chg h23 (fun hx => HDD (List.mem_singleton.1 hx).symm)).set 0 (.int .i64 1); have e6 := x6.chg h23 (fun hx => HDE (List.mem_singleton.1 hx).symm); obtain ⟨w4, hw4⟩ : ∃ w4, w3.setCell ⟨b5, 0, none⟩ (.int .i64 1) = w4 := ⟨_, rfl⟩; rw [hw4] at c4 e5 ⊢
 have h34 : Chg [b5] w3 w4 := by rw [← hw4]; exact (Chg.refl [b5] w3).setCell (p := ⟨b5, 0, none⟩) (Or.inl (by simp)) _
 have g6 := (e6.chg h34 (fun hx => HDF (List.mem_singleton.1 hx).symm)).set 0 (.int .i64 0); have g4 := e4.chg h34 (fun hx => HDD (List.mem_singleton.1 hx)); obtain ⟨w5, hw5⟩ : ∃ w5, w4.setCell ⟨b6, 0, none⟩ (.int .i64 0) = w5 := ⟨_, rfl⟩; rw [hw5] at c4 g6 ⊢
 have h45 : Chg [b6] w4 w5 := by rw [← hw5]; exact (Chg.refl [b6] w4).setCell (p := ⟨b6, 0, none⟩) (Or.inl (by simp)) _
 have HF := hd8 k1 k2 k3 k4 c4 (g4.chg h45 (fun hx => HDE (List.mem_singleton.1 hx))) (e5.chg h45 (fun hx => HDF (List.mem_singleton.1 hx))) g6
 go_end0
 exact ⟨rfl, w2, ⟨Fl2, Fv2, HF.out.1, HF.out.2.1, HF.out.2.2.1, HF.out.2.2.2.1⟩, HF.out.2.2.2.2⟩
def DOT (W w' : World) (mb sb : Nat) (G : List Nat) (k : Nat) (Z : List Con) (S : Vst) (R : Int → Option Value) (n : Nat) (q : Cmd) : Prop := MS W w' mb sb G k (Z ++ [(1, 1, bi q.bytes)]) (S.apply q).1 (updV R ((Z.length + 1 : Nat) : Int) (some (.int .i64 (S.apply q).2))) (n + 1)
theorem runA_do (q : Cmd) (hq : q.plain) (Z : List Con) (S : Vst) (R : Int → Option Value) : runA Z.length ((Z ++ [(1, 1, bi q.bytes)]).drop Z.length) (S, R) = ((S.apply q).1, updV R ((Z.length + 1 : Nat) : Int) (some (.int .i64 (S.apply q).2))) := by
 rw [List.drop_left]; unfold runA runA stepA; simp only [bi_nat, hq.rcmd]; rw [if_pos (by simp)]
theorem ConOk.snoc {Z : List Con} (h : ConOk Z) {b : List Nat} (hb : b.length ≤ 700) : ConOk (Z ++ [(1, 1, bi b)]) := fun c hc => by
 rcases List.mem_append.1 hc with h1 | h1
 ·exact h c h1
 ·rw [List.mem_singleton.1 h1]
  exact ⟨1, 1, b, rfl, by omega, by omega, by omega, by omega⟩
theorem mwithD_calls {p : Pl} {Fl Fv : List Nat} (h : MP w mb rb sb nb (b4 :: b5 :: b6 :: G) (ft nb p Fl Fv) N S n (Z.length : Nat) cr R) (hp : NP w nb p Fl Fv N) (hge : ∀ x ∈ mb :: rb :: sb :: ft nb p Fl Fv, W.heap.size ≤ x) (hW : Below W.heap.size W w) (hN : NS k Z.length Z N) (h1 : 1 ≤ Z.length) (hZ : Z.length ≤ 7) (hk : ConOk Z) (hn : n ≤ 700) (q : Cmd) (hq : q.plain) (hl : q.bytes.length ≤ 100) (hB : DoB w mb q b2 b3 b4 b5 b6 0 0 0)
  (hf : ∀ x ∈ ft nb p Fl Fv, x < b2 ∧ x < b3 ∧ x < b4 ∧ x < b5 ∧ x < b6) (hd : b4 ≠ b5 ∧ b4 ≠ b6 ∧ b5 ≠ b6 ∧ b2 ≠ b4 ∧ b2 ≠ b5 ∧ b2 ≠ b6) (hm : mb < b4 ∧ mb < b5 ∧ mb < b6) (hsr : sb < b4 ∧ sb < b5 ∧ sb < b6 ∧ rb < b4 ∧ rb < b5 ∧ rb < b6) (hA : ∀ a, p.Am = some a → a.block < b4 ∧ a.block < b5 ∧ a.block < b6) (hV : ∀ a, p.Av = some a → a.block < b4 ∧ a.block < b5 ∧ a.block < b6) (hWb : W.heap.size ≤ b4 ∧ W.heap.size ≤ b5 ∧ W.heap.size ≤ b6) :
  Calls Tryz.prog 18 #[.pointer (some ⟨mb, 0, none⟩), .func (.func 21) #[] #[.pointer (some ⟨b2, 0, none⟩), .pointer (some ⟨b3, 0, none⟩), .pointer (some ⟨b4, 0, none⟩), .pointer (some ⟨b5, 0, none⟩), .pointer (some ⟨b6, 0, none⟩)]] w fun e w' => e = .returned (.tuple #[]) ∧ DOT W w' mb sb G k Z S R n q ∧ Blk w' b4 3 [.int .i64 ((Z.length : Int) + 1)] ∧ Blk w' b5 3 [.int .i64 1] ∧ Blk w' b6 29 [.int .i64 0] := by
 have y0 : w.cell? ⟨mb, 0, none⟩ = some (.pointer (some ⟨nb, 0, none⟩)) := h.blk.cell 0; have hen : ∀ args w, (callFunc 21 args).run Tryz.prog w = .ok (.enter 21 args) w := enters_of Tryz.func21 (by kernel_rfl) rfl; have HD := hide (mdo1_calls hp y0 hN h1 hZ hk q hq hl hB hf hd hm); have HNP := hide (hN.prop h1 (by omega) (b := q.bytes) (by omega) (encs_byte _)); clear y0
 go_enter Tryz.func18, Tryz.ntmps18
 go_wp2_with fail
 go_at_fn 21
 refine HD.out.mono ?_; rintro e w1 ⟨rfl, wm, hnp, hcb, x4, x5, x6⟩; obtain ⟨Fl2, Fv2, k1, k2, k3, k4⟩ := hnp; have hf1 : ∀ x ∈ ft nb p Fl2 Fv2, x ∈ ft nb p Fl Fv ∨ w.heap.size ≤ x := ft_step k3 k4; have hM1 := h.raftF ⟨p, Fl2, Fv2, k1, rfl⟩ k2 hf1; have hbl := hB.x4.lt; have hbl5 := hB.x5.lt; have hbl6 := hB.x6.lt
 have hfw : ∀ x ∈ ft nb p Fl2 Fv2, x ∉ [b4, b5, b6] := fun x hx hy => by
  simp only [List.mem_cons, List.not_mem_nil, or_false] at hy
  rcases hf1 x hx with h9 | h9
  ·have := hf x h9
   omega
  ·omega
 have y4 := hB.x4.chg k2 (fun hx => by have := hf _ hx; omega); have y5 := hB.x5.chg k2 (fun hx => by have := hf _ hx; omega); have y6 := hB.x6.chg k2 (fun hx => by have := hf _ hx; omega)
 have hno : NoB wm [b4, b5, b6] := fun g hg => by
  simp only [List.mem_cons, List.not_mem_nil, or_false] at hg
  rcases hg with rfl | rfl | rfl
  ·exact NoB.blk y4 (by decide) _ (by simp)
  ·exact NoB.blk y5 (by decide) _ (by simp)
  ·exact NoB.blk y6 (by decide) _ (by simp)
 have hnby : ∀ x ∈ [b4, b5, b6], ¬ ByteBlk wm x := fun g hg => by
  simp only [List.mem_cons, List.not_mem_nil, or_false] at hg
  rcases hg with rfl | rfl | rfl
  ·exact y4.notByte (by decide)
  ·exact y5.notByte (by decide)
  ·exact y6.notByte (by decide)
 have hM2 := hM1.boxes hcb (fun x hx => by simp only [List.mem_cons, List.not_mem_nil, or_false] at hx ⊢; rcases hx with e | e | e <;> simp [e]) ⟨p, Fl2, Fv2, k1.boxes hcb hfw hno hnby (fun a ha hx => by have := hA a ha; simp only [List.mem_cons, List.not_mem_nil, or_false] at hx; omega) (fun a ha hx => by have := hV a ha; simp only [List.mem_cons, List.not_mem_nil, or_false] at hx; omega), rfl⟩
 have hge2 : ∀ x ∈ mb :: rb :: sb :: ft nb p Fl2 Fv2, W.heap.size ≤ x := fun x hx => by
  simp only [List.mem_cons] at hx
  rcases hx with e | e | e | hx
  ·exact hge x (by simp [e])
  ·exact hge x (by simp [e])
  ·exact hge x (by simp [e])
  ·exact (hf1 x hx).elim (fun e => hge x (by simp [e])) (fun e => Nat.le_trans hW.size e)
 have hWm : Below W.heap.size W wm := Chg.onto hW hW.size k2 (fun x hx => hge x (by simp [hx]))
 have hW1 : Below W.heap.size W w1 := Chg.onto hWm hWm.size hcb (fun x hx => by
  simp only [List.mem_cons, List.not_mem_nil, or_false] at hx
  rcases hx with e | e | e <;> omega)
 have hML := (hM2.sub (G' := G) (fun x hx => by simp [hx])); have HR := mrest_calls hML hge2 hW1 HNP.out (hk.snoc (by omega)) (by simp; omega) (by simp) (by omega); rw [runA_do q hq] at HR
 have hnz : n + ((Z ++ [((1 : Int), (1 : Int), bi q.bytes)]).length - Z.length) = n + 1 := by simp
 rw [hnz] at HR; have HR := hide HR; have HX := hd3 x4 x5 x6
 have hnin : ∀ y, y = b4 ∨ y = b5 ∨ y = b6 → y ∉ mb :: rb :: sb :: ft nb p Fl2 Fv2 := fun y hy hx => by
  simp only [List.mem_cons] at hx
  rcases hx with e | e | e | hx
  ·omega
  ·omega
  ·omega
  ·exact hfw y hx (by simp [hy])
 have HNI := hide hnin; clear h hp hge hW hN h1 hZ hk hn hq hl hB hf hd hm hsr hA hV hWb hen HD HNP k1 k2 k3 k4 hf1 hM1 hbl hbl5 hbl6 hfw y4 y5 y6 hno hnby hM2 hge2 hWm hW1 hML hnz hcb x4 x5 x6 hnin; go_wp2_with fail
 with_reducible refine HR.out.mono ?_
 rintro e w2 ⟨rfl, hms, hcc⟩; have HF : Hid (DOT W w2 mb sb G k Z S R n q ∧ Blk w2 b4 3 [.int .i64 ((Z.length : Int) + 1)] ∧ Blk w2 b5 3 [.int .i64 1] ∧ Blk w2 b6 29 [.int .i64 0]) := hide ⟨hms, HX.out.1.chg hcc (HNI.out _ (by simp)), HX.out.2.1.chg hcc (HNI.out _ (by simp)), HX.out.2.2.chg hcc (HNI.out _ (by simp))⟩; clear hms hcc HR; go_wp2
 go_end0
 exact ⟨rfl, HF.out⟩
theorem mdo_calls (h : MS W w mb sb G k Z S R n) (h1 : 1 ≤ Z.length) (hZ : Z.length ≤ 7) (hk : ConOk Z) (hn : n ≤ 700) (q : Cmd) (hq : q.plain) (hl : q.bytes.length ≤ 100) :
  Calls Tryz.prog 8 #[.pointer (some ⟨mb, 0, none⟩), q.val] w fun e w' => e = .returned (.tuple #[.int .i64 ((Z.length : Int) + 1), .int .i64 1, .int .i64 0]) ∧ DOT W w' mb sb G k Z S R n q := by
 obtain ⟨rb, nb, F, N, cr, hM, hge, hW, hN⟩ := h; obtain ⟨p, Fl, Fv, hp, rfl⟩ := hM.np
 have HPL := fun w => mplain_calls q hq (by omega) (fun x hx => encs_byte _ x hx) w
 obtain ⟨k0, a0, b0, c0, ⟨qr, qw, ql, qb⟩⟩ := q; obtain ⟨q, hqd⟩ : ∃ q, (⟨k0, a0, b0, c0, ⟨qr, qw, ql, qb⟩⟩ : Cmd) = q := ⟨_, rfl⟩; unfold Cmd.val Cmd.cells at HPL; unfold Cmd.val Cmd.cells; simp only [] at HPL ⊢; rw [hqd] at hq hl ⊢; have HPL := hide HPL; obtain ⟨b2, hb2⟩ : ∃ x, w.heap.size = x := ⟨_, rfl⟩; obtain ⟨wa, hwa⟩ : ∃ x, w.alloc (.cells #[.pointer (some ⟨mb, 0, none⟩)] 24) = x := ⟨_, rfl⟩; obtain ⟨wb, hwb⟩ : ∃ x, wa.alloc (.cells #[.int .i64 k0, .int .i64 a0, .int .i64 b0, .int .i64 c0, .int .i64 qr, .int .i64 qw, .int .i64 ql, .int .i64 qb] 35) = x := ⟨_, rfl⟩; obtain ⟨wc, hwc⟩ : ∃ x, wb.alloc (.cells #[.int .i64 0] 3) = x := ⟨_, rfl⟩; obtain ⟨wd, hwd⟩ : ∃ x, wc.alloc (.cells #[.int .i64 0] 3) = x := ⟨_, rfl⟩; obtain ⟨we, hwe⟩ : ∃ x, wd.alloc (.cells #[.int .i64 0] 29) = x := ⟨_, rfl⟩
 have s1 : wa.heap.size = b2 + 1 := by rw [← hwa, ← hb2]; simp
 have s2 : wb.heap.size = b2 + 1 + 1 := by rw [← hwb]; simp [s1]
 have s3 : wc.heap.size = b2 + 1 + 1 + 1 := by rw [← hwc]; simp [s2]
 have s4 : wd.heap.size = b2 + 1 + 1 + 1 + 1 := by rw [← hwd]; simp [s3]
 go_enter Tryz.func8, Tryz.ntmps8
 go_upto_region 1 with fail
 have bl {u v : World} {o : Obj} (e : u.alloc o = v) : Below u.heap.size u v := e ▸ belowL (Below.refl _ _) _
 have hab : Below w.heap.size w wa := bl hwa; have hbb := bl hwb; have hcc := bl hwc; have hdd := bl hwd; have hee := bl hwe
 have x2 : Blk wa b2 24 [.pointer (some ⟨mb, 0, none⟩)] := by rw [← hwa, ← hb2]; exact Blk.new rfl
 have x3 : Blk wb (b2 + 1) 35 [.int .i64 k0, .int .i64 a0, .int .i64 b0, .int .i64 c0, .int .i64 qr, .int .i64 qw, .int .i64 ql, .int .i64 qb] := by rw [← hwb, ← s1]; exact Blk.new rfl
 have x4 : Blk wc (b2 + 1 + 1) 3 [.int .i64 0] := by rw [← hwc, ← s2]; exact Blk.new rfl
 have x5 : Blk wd (b2 + 1 + 1 + 1) 3 [.int .i64 0] := by rw [← hwd, ← s3]; exact Blk.new rfl
 have x6 : Blk we (b2 + 1 + 1 + 1 + 1) 29 [.int .i64 0] := by rw [← hwe, ← s4]; exact Blk.new rfl
 have m4 := (hM.below (belowA hbb hab)).beside hcc (x := b2 + 1 + 1) (by omega) (by omega); have m5 := m4.beside hdd (x := b2 + 1 + 1 + 1) (by omega) (by omega)
 have s5 : we.heap.size = b2 + 1 + 1 + 1 + 1 + 1 := by rw [← hwe]; simp [s4]
 have m6 := m5.beside hee (x := b2 + 1 + 1 + 1 + 1) (by omega) (by omega); have hwe' : Below w.heap.size w we := belowA hee (belowA hdd (belowA hcc (belowA hbb hab))); have hlts := hM.lts; have hsb := hM.vf.lt; have hm0 := hlts mb (by simp); have hr0 := hlts rb (by simp)
 have hfl : ∀ x ∈ ft nb p Fl Fv, x < b2 := fun x hx => by rw [← hb2]; exact hM.np.lt x hx
 have hAm : ∀ a, p.Am = some a → a.block < b2 := fun a ha => by rw [← hb2]; exact (hp.sm.sl.ap a ha).2.2
 have hAv : ∀ a, p.Av = some a → a.block < b2 := fun a ha => by rw [← hb2]; exact (hp.vo.sl.ap a ha).2.2
 have hWs := hW.size; rw [hb2] at hsb hm0 hr0 hWs; obtain ⟨b3, e3⟩ : ∃ x, b2 + 1 = x := ⟨_, rfl⟩; rw [e3] at x3 x4 x5 x6 m6 ⊢; obtain ⟨b4, e4⟩ : ∃ x, b3 + 1 = x := ⟨_, rfl⟩; rw [e4] at x4 x5 x6 m6 ⊢; obtain ⟨b5, e5⟩ : ∃ x, b4 + 1 = x := ⟨_, rfl⟩; rw [e5] at x5 x6 m6 ⊢; obtain ⟨b6, e6⟩ : ∃ x, b5 + 1 = x := ⟨_, rfl⟩; rw [e6] at x6 m6 ⊢; have hDB : DoB we mb q b2 b3 b4 b5 b6 0 0 0 := ⟨x2.below (belowA hee (belowA hdd (belowA hcc hbb))), by rw [← hqd]; exact x3.below (belowA hee (belowA hdd hcc)), x4.below (belowA hee hdd), x5.below hee, x6⟩; have z2 : we.cell? ⟨b2, 0, none⟩ = some (.pointer (some ⟨mb, 0, none⟩)) := hDB.x2.cell 0
 have y0 : we.cell? ⟨b3, 0, none⟩ = some (.int .i64 k0) := by have := hDB.x3.cell 0; rw [← hqd] at this; exact this
 have y1 : we.cell? ⟨b3, 1, none⟩ = some (.int .i64 a0) := by have := hDB.x3.cell 1; rw [← hqd] at this; exact this
 have y2 : we.cell? ⟨b3, 2, none⟩ = some (.int .i64 b0) := by have := hDB.x3.cell 2; rw [← hqd] at this; exact this
 have y3 : we.cell? ⟨b3, 3, none⟩ = some (.int .i64 c0) := by have := hDB.x3.cell 3; rw [← hqd] at this; exact this
 have y4 : we.cell? ⟨b3, 4, none⟩ = some (.int .i64 qr) := by have := hDB.x3.cell 4; rw [← hqd] at this; exact this
 have y5 : we.cell? ⟨b3, 5, none⟩ = some (.int .i64 qw) := by have := hDB.x3.cell 5; rw [← hqd] at this; exact this
 have y6 : we.cell? ⟨b3, 6, none⟩ = some (.int .i64 ql) := by have := hDB.x3.cell 6; rw [← hqd] at this; exact this
 have y7 : we.cell? ⟨b3, 7, none⟩ = some (.int .i64 qb) := by have := hDB.x3.cell 7; rw [← hqd] at this; exact this
 have HWI := hide (fun (w1 : World) (hb : Below we.heap.size we w1) => mwithD_calls (W := W) (w := w1) (b2 := b2) (b3 := b3) (b4 := b4) (b5 := b5) (b6 := b6) (G := G) ((m6.sub (G' := b4 :: b5 :: b6 :: G) (fun x hx => by simp only [List.mem_cons] at hx ⊢; rcases hx with e | e | e | e <;> simp [e])).below hb) (hp.below (belowA hb hwe')) hge (belowA (belowA hb hwe') hW) hN h1 hZ hk hn q hq hl ⟨hDB.x2.below hb, hDB.x3.below hb, hDB.x4.below hb, hDB.x5.below hb, hDB.x6.below hb⟩ (fun x hx => by have := hfl x hx; omega) (by omega) (by omega) (by omega) (fun a ha => by have := hAm a ha; omega) (fun a ha => by have := hAv a ha; omega) (by omega)); have z2r := hDB.x2.rule 0 _ rfl; clear hM hp hge hW hN h1 hZ hk hn hq hl hb2 hwa hwb hwc hwd hwe s1 s2 s3 s4 s5 bl hab hbb hcc hdd hee x2 x3 x4 x5 x6 m4 m5 m6 hwe' hlts hsb hm0 hr0 hfl hAm hAv hWs hDB; go_wp2_with fail
 with_reducible refine (HPL.out _).mono ?_
 rintro e w1 ⟨rfl, hb1⟩; have z2' := z2r w1 hb1; have HWD := hide (HWI.out w1 hb1); clear HWI HPL hb1 z2 y0 y1 y2 y3 y4 y5 y6 y7 z2r; go_wp2_with fail
 with_reducible refine HWD.out.mono ?_
 rintro e w2 ⟨rfl, hdo, x4, x5, x6⟩; have d4 := x4.drewT; have d5 := x5.drewT; have d6 := x6.drewT; have r2 := Below.refl w2.heap.size w2; have s4 := x4.rule 0 _ rfl; have s5 := x5.rule 0 _ rfl; have s6 := x6.rule 0 _ rfl; have f4 := d4.frozen 0; have f5 := d5.frozen 0; have f6 := d6.frozen 0; have q4 := d4.cell 0; have q5 := d5.cell 0; have q6 := d6.cell 0; simp only [List.getElem?_cons_zero] at q4 q5 q6; obtain ⟨rb', nb', F', N', cr', k1, k2, k3, k4⟩ := hdo; have HF : Hid (DOT W w2.drew mb sb G k Z S R n q) := hide ⟨rb', nb', F', N', cr', k1.below r2.drew, k2, belowA r2.drew k3, k4⟩; clear k1 k2 k3 k4 HWD
 go_upto_region 4 with fail
 refine region_lx (fun w' => Below w2.heap.size w2 w') [] [0, 0, 0, 1, 1, 1] (by (exact r2.drew)) (fun hS0 => ?_)
 (iterate 3 (refine lxt ?_))
 (refine lxe ?_; (go_simp; rw [setCell_stay x4]); (try simp only [Act.put]); refine lxB (by (exact r2.drew)) (fun hS1 => ?_))
 (refine lxe ?_; (go_simp; rw [setCell_stay x5]); (try simp only [Act.put]); refine lxB (by (exact r2.drew)) (fun hS1 => ?_))
 (refine lxe ?_; (go_simp; rw [setCell_stay x6]); (try simp only [Act.put]); refine lxB (by (exact r2.drew)) (fun hS1 => ?_))
 refine lxN ?_
 go_wp2
 exact bodyPost_ret (v := .tuple #[.int .i64 ((Z.length : Int) + 1), .int .i64 1, .int .i64 0]) (by simp [results, Tryz.results8, go_sem, *]) rfl ⟨rfl, HF.out⟩
end

def nw0 : Vst := ⟨[], [], [], 1⟩
theorem VF.made {w w' : World} {no F : List Nat} {b m1 m2 m3 : Nat} (h : VM w' no b m1 m2 m3 nw0 [] []) (hb : Below w.heap.size w w') (hno : ∀ x ∈ no, w.heap.size ≤ x) (hF : ∀ x ∈ F, x < w.heap.size) : VF F w' b nw0 :=
 ⟨F ++ no, m1, m2, m3, [], [], ⟨h.blk, h.t1, h.t2, h.t3, h.eV, h.eC, by simp, by simp, List.mem_append_right _ h.ib, List.mem_append_right _ h.i1, List.mem_append_right _ h.i2, List.mem_append_right _ h.i3, fun x hx => by
  rcases List.mem_append.1 hx with hx | hx
  ·exact Nat.lt_of_lt_of_le (hF x hx) hb.size
  ·exact h.lt x hx, h.ne⟩, fun x hx => by
  have h0 := hF x hx; have g0 := hno b h.ib; have g1 := hno m1 h.i1; have g2 := hno m2 h.i2; have g3 := hno m3 h.i3
  exact ⟨List.mem_append_left _ hx, by omega, by omega, by omega, by omega⟩⟩
section
variable {W w w' : World} {mb rb sb nb n cr k t v d c i : Nat} {G F no : List Nat} {N : Nd} {Z Z' : List Con} {S : Vst} {R : Int → Option Value} {A : Option Addr}
def MNW (W w' : World) (mb : Nat) : Prop := ∃ sb, MS W w' mb sb [] 0 [] nw0 (fun _ => none) 0
theorem mnew_calls (hv : VltM w v d F (Vlt.first 512)) (hF : ∀ x ∈ F, W.heap.size ≤ x) (hW : Below W.heap.size W w) (h : Sl w no A c [0]) :
  Calls Tryz.prog 17 #[.int .i64 0, .pointer (some ⟨v, 0, none⟩), .slice A 1 c] w fun e w' => ∃ mb, e = .returned (.tuple #[.pointer (some ⟨mb, 0, none⟩), .int .i64 0]) ∧ MNW W w' mb := by
 have HN := nnew_calls hv ((Vlt.first_well (n := 512) (by omega) (by omega)).ok) (by omega) rfl h 0 (by omega) (Or.inr (rightP_one (by omega))); rw [show ([0] : List Int).length = 1 from rfl] at HN; have hM0 := new_M0; obtain ⟨N, hN⟩ : ∃ N, Nd.new 0 (Vlt.first 512) [0] = N := ⟨_, rfl⟩; rw [hN] at HN hM0; have HN := hide HN; have HM0 := hide hM0; have H := hd2 hF hW; clear hv hF hW h hN hM0; have hmm := @run_makeMap Tryz.prog
 go_enter Tryz.func17, Tryz.ntmps17
 go_wp2_with fail
 with_reducible refine HN.out.mono ?_
 rintro e w1 ⟨nb, p, Fl, Fv, rfl, hn1, _, hc1, hf1⟩
 have hf : ∀ x ∈ ft nb p Fl Fv, W.heap.size ≤ x := fun x hx => (hf1 x hx).elim (H.out.1 x) (fun h => Nat.le_trans H.out.2.size h)
 have hb1 : Below W.heap.size W w1 := Chg.onto H.out.2 H.out.2.size hc1 H.out.1; have HV := hide (vnew_calls w1); have H1 := hd3 hn1 hf hb1; clear hn1 hc1 hf1 hf hb1 HN; go_wp2_with fail
 with_reducible refine HV.out.mono ?_
 rintro e w2 ⟨no2, sb, m1, m2, m3, rfl, hv2, hb2, hno⟩; obtain ⟨w3, hw3⟩ : ∃ w3, w2.alloc (.map #[] 0) = w3 := ⟨_, rfl⟩; obtain ⟨rb, hrb⟩ : ∃ rb, w2.heap.size = rb := ⟨_, rfl⟩; obtain ⟨w4, hw4⟩ : ∃ w4, w3.alloc (.cells #[.pointer (some ⟨nb, 0, none⟩), .pointer (some ⟨sb, 0, none⟩), .int .i64 0, .map (some rb)] 63) = w4 := ⟨_, rfl⟩; obtain ⟨mb, hmb⟩ : ∃ mb, rb + 1 = mb := ⟨_, rfl⟩
 have s3 : w3.heap.size = mb := by rw [← hw3, ← hmb, ← hrb]; simp
 have hb23 : Below w2.heap.size w2 w3 := hw3 ▸ belowL (Below.refl _ _) _
 have hb34 : Below w3.heap.size w3 w4 := hw4 ▸ belowL (Below.refl _ _) _
 have hb24 := belowA hb34 hb23; have hb14 := belowA hb24 hb2; have hbW := belowA hb14 H1.out.2.2
 have hfl : ∀ x ∈ ft nb p Fl Fv, x < w1.heap.size := fun x hx => (H1.out.1.hard x hx).lt
 have hsz1 := hb2.size; have hsW := H1.out.2.2.size; have hsb : W.heap.size ≤ sb := Nat.le_trans hsW (hno sb hv2.ib)
 have hmbl : mb < w4.heap.size := by rw [← hw4]; simp [s3]
 have hr4 : rb < w4.heap.size := by omega
 have hvf := (VF.made hv2 hb2 hno hfl).grow (L := []) (F' := mb :: rb :: ([] ++ ft nb p Fl Fv)) (Chg.of_below hb24) (fun x hx => by cases hx) (fun x hx => by
  rw [List.nil_append] at hx
  rcases List.mem_cons.1 hx with rfl | hx
  ·exact ⟨Or.inr (by omega), hmbl⟩
  ·rcases List.mem_cons.1 hx with rfl | hx
   ·exact ⟨Or.inr (by omega), hr4⟩
   ·exact ⟨Or.inl hx, by have := hfl x hx; have := hb14.size; omega⟩)
 have hgm : GM w3 rb 0 (fun _ => none) := by rw [← hw3, ← hrb]; exact GM.made w2
 have hmp : MP w4 mb rb sb nb [] (ft nb p Fl Fv) N nw0 0 ((0 : Nat) : Int) 0 (fun _ => none) := ⟨by rw [← hw4, ← s3]; exact Blk.new rfl, ⟨p, Fl, Fv, H1.out.1.below hb14, rfl⟩, hvf, VOk.start, hgm.chg (L := []) (Chg.of_below hb34) (by simp), Nat.le_refl _,
  ⟨by omega, fun hx => by have := hfl mb hx; omega, fun hx => by have := hfl rb hx; omega⟩, fun x hx => by cases hx⟩
 have HR := mrest_calls (W := W) (k := 0) (Z := []) hmp (fun x hx => by
  simp only [List.mem_cons] at hx
  rcases hx with rfl | rfl | rfl | hx
  ·omega
  ·omega
  ·exact hsb
  ·exact H1.out.2.1 x hx) hbW (Or.inl ⟨rfl, by omega, rfl, HM0.out⟩) (fun c hc => by cases hc) (by simp) (by simp) (by omega)
 rw [runA_end (by simp)] at HR; have HR := hide HR; have HW := hd4 hw3 hrb hw4 hmb; clear hw3 hrb hw4 hmb s3 hb23 hb34 hb24 hb14 hbW hfl hsz1 hsW hsb hmbl hr4 hvf hgm hmp hv2 hb2 hno HV; go_wp2_with fail; rw [HW.out.1, HW.out.2.1, HW.out.2.2.1, HW.out.2.2.2]
 with_reducible refine HR.out.mono ?_
 rintro e w5 ⟨rfl, hms, _⟩; have HF : Hid (MNW W w5 mb) := hide ⟨sb, hms⟩; clear hms HR; go_wp2
 go_ret2
 exact ⟨mb, rfl, HF.out⟩
theorem mmade_calls (hd : DevM w d F (Dev.new 512)) (hF : ∀ x ∈ F, W.heap.size ≤ x) (hW : Below W.heap.size W w) (h : Sl w F A c [0]) :
  Calls Tryz.prog 5 #[.int .i64 0, .pointer (some ⟨d, 0, none⟩), .slice A 1 c] w fun e w' => ∃ mb, e = .returned (.pointer (some ⟨mb, 0, none⟩)) ∧ MNW W w' mb := by
 have HO := vopen_calls hd (by simp [Dev.new]); rw [vopen_new (by omega)] at HO; have HO := hide HO; have H := hd3 hF hW h; clear hd hF hW h
 go_enter Tryz.func5, Tryz.ntmps5
 go_wp2_with fail
 with_reducible refine HO.out.mono ?_
 rintro e w2 ⟨pv, rfl, _, hvo⟩; obtain ⟨v, F2, rfl, hv2, hvm, hc2, hF2⟩ := hvo rfl; have hb2 : Below W.heap.size W w2 := Chg.onto H.out.2.1 H.out.2.1.size hc2 H.out.1
 have hf2 : ∀ x ∈ F2, W.heap.size ≤ x := fun x hx => (hF2 x hx).elim (H.out.1 x) (fun h => Nat.le_trans H.out.2.1.size h)
 have HNW := hide (mnew_calls hvm hf2 hb2 (H.out.2.2.chg hc2 (fun x hx => Or.inl hx))); clear hv2 hvm hc2 hF2 hb2 hf2 HO hvo; go_wp2_with fail
 with_reducible refine HNW.out.mono ?_
 rintro e w3 ⟨mb, rfl, hm⟩; have HM := hide hm; clear hm HNW; go_wp2; go_ret
 exact ⟨mb, rfl, HM.out⟩
theorem MS.below (h : MS W w mb sb G k Z S R n) (hb : Below w.heap.size w w') : MS W w' mb sb G k Z S R n := by
 obtain ⟨rb, nb, F, N, cr, k1, k2, k3, k4⟩ := h
 exact ⟨rb, nb, F, N, cr, k1.below hb, k2, belowA hb k3, k4⟩
theorem MS.world (h : MS W w mb sb G k Z S R n) : Below W.heap.size W w := by
 obtain ⟨rb, nb, F, N, cr, k1, k2, k3, k4⟩ := h
 exact k3
theorem MS.ok (h : MS W w mb sb G k Z S R n) : VOk S n := by
 obtain ⟨rb, nb, F, N, cr, k1, k2, k3, k4⟩ := h
 exact k1.ok
theorem MS.beside (h : MS W w mb sb G k Z S R n) (hb : Below w.heap.size w w') {x : Nat} (h1 : w.heap.size ≤ x) (h2 : x < w'.heap.size) : MS W w' mb sb (x :: G) k Z S R n := by
 obtain ⟨rb, nb, F, N, cr, k1, k2, k3, k4⟩ := h
 exact ⟨rb, nb, F, N, cr, k1.beside hb h1 h2, k2, belowA hb k3, k4⟩
theorem MS.other (h : MS W w mb sb G k Z S R n) (hc : Chg G w w') (hG : HardL w G) (hge : ∀ x ∈ G, W.heap.size ≤ x) : MS W w' mb sb G k Z S R n := by
 obtain ⟨rb, nb, F, N, cr, k1, k2, k3, k4⟩ := h
 exact ⟨rb, nb, F, N, cr, k1.other hc hG, k2, Chg.onto k3 k3.size hc hge, k4⟩
theorem MS.state_calls (h : MS W w mb sb G k Z S R n) (hs : SerOk S) (hn : n ≤ 60) (K : List Nat) (hK : ∀ x ∈ K, x < w.heap.size) :
  Calls Tryz.prog 9 #[.pointer (some ⟨mb, 0, none⟩)] w fun e w' => STA K w w' S n e := by
 obtain ⟨rb, nb, F, N, cr, k1, k2, k3, k4⟩ := h
 exact mstate_calls k1 hs hn K hK
theorem MS.result_calls (h : MS W w mb sb G k Z S R n) (x : Int) (hx : i64ok x) :
  Calls Tryz.prog 11 #[.pointer (some ⟨mb, 0, none⟩), .int .i64 x] w fun e w' => e = .returned (.tuple #[(R x).getD (.int .i64 0), .bool (R x).isSome]) ∧ w = w' := by
 obtain ⟨rb, nb, F, N, cr, k1, k2, k3, k4⟩ := h
 exact mresult_calls k1 x hx
theorem MS.index_calls (h : MS W w mb sb G k Z S R n) :
  Calls Tryz.prog 15 #[.pointer (some ⟨mb, 0, none⟩)] w fun e w' => e = .returned (.int .i64 (Z.length : Nat)) ∧ w = w' := by
 obtain ⟨rb, nb, F, N, cr, k1, k2, k3, k4⟩ := h
 exact mindex_calls k1
def KX (i : Nat) : Nat := if i ≤ 12 then i else i - 13
def ZX (i : Nat) : List Con := if i ≤ 12 then [] else [(1, 0, bi [])]
theorem tick_X (i : Nat) : tickK (KX i) (ZX i) = KX (i + 1) ∧ tickZ (KX i) (ZX i) = ZX (i + 1) := by
 unfold tickK tickZ KX ZX
 rcases Nat.lt_trichotomy i 12 with h | h | h
 ·rw [if_pos (show i ≤ 12 by omega), if_pos (show i ≤ 12 by omega), if_pos (show i + 1 ≤ 12 by omega), if_pos (show i + 1 ≤ 12 by omega), if_neg (by omega), if_neg (by omega)]
  exact ⟨rfl, rfl⟩
 ·subst h
  exact ⟨rfl, rfl⟩
 ·rw [if_neg (show ¬ i ≤ 12 by omega), if_neg (show ¬ i ≤ 12 by omega), if_neg (show ¬ i + 1 ≤ 12 by omega), if_neg (show ¬ i + 1 ≤ 12 by omega), if_neg (by simp), if_neg (by simp)]
  exact ⟨by omega, rfl⟩
theorem ZX_ok (i : Nat) : ConOk (ZX i) ∧ (ZX i).length ≤ 1 := by
 unfold ZX
 split
 ·exact ⟨fun c hc => by (cases hc), by simp⟩
 ·exact ⟨fun c hc => by
   rw [List.mem_singleton.1 hc]
   exact ⟨1, 0, [], rfl, by omega, by omega, by omega, by simp⟩, by simp⟩
def MX (W w : World) (mb i : Nat) : Prop := ∃ sb, MS W w mb sb [] (KX i) (ZX i) nw0 (fun _ => none) i
theorem mtickX_calls (h : MX W w mb i) (hi : i ≤ 40) : Calls Tryz.prog 7 #[.pointer (some ⟨mb, 0, none⟩)] w fun e w' => e = .returned (.tuple #[]) ∧ MX W w' mb (i + 1) := by
 obtain ⟨sb, h⟩ := h
 refine (mtick_calls h (ZX_ok i).1 (by have := (ZX_ok i).2; omega) (by unfold KX; split <;> omega) (by omega)).mono fun e w' ⟨h1, h2⟩ => ⟨h1, sb, ?_⟩
 rw [(tick_X i).1, (tick_X i).2] at h2
 exact h2
theorem sl_zero {b : Nat} (h : Blk w b 3 [.int .i64 0]) (hb : b ∉ no) : Sl w no (some ⟨b, 0, none⟩) 1 [0] :=
 ⟨Nat.le_refl _, by simp, ⟨by simp, fun _ => ⟨b, 0, rfl, h.lt, fun j u hu => by rw [Nat.zero_add, h.cell j]; exact hu⟩⟩, fun a ha => by cases ha; exact ⟨rfl, hb, h.lt⟩⟩
end

def nw1 : Vst := ⟨[(2, 5)], [], [], 1⟩
def nw2 : Vst := ⟨[(2, 5)], [⟨1, 9, ⟨0, 1, 0, 0⟩, 1, [1, 2]⟩], [⟨1, 1, 1, [2], []⟩, ⟨2, 1, 1, [2], []⟩], 3⟩
def nq1 : Cmd := ⟨1, 2, 5, 0, ⟨0, 0, 0, 0⟩⟩
def nq2 : Cmd := ⟨2, 1, 9, 1, ⟨0, 1, 0, 0⟩⟩
theorem nw_a : nw0.apply nq1 = (nw1, 0) := by
 have h : nw0.act nq1 = (nw1, 0) := by simp [Vst.act, Vst.server, ins, nw0, nw1, nq1]
 have h2 : nw1.admits = true := by decide
 unfold Vst.apply; simp only [h, h2]
 rfl
theorem chosen1 (x : Ld) : chosen [x] 1 = [x.id] := by
 unfold chosen sortLd
 simp
theorem nw_b : nw1.apply nq2 = (nw2, 0) := by
 have hr : (⟨0, 1, 0, 0⟩ : Pol).ok = true := by decide
 have h : nw1.act nq2 = (nw2, 0) := by
  simp [Vst.act, Vst.create, hr, nw1, nw2, nq2, Vst.grow, lack, growN, fd_nil, Vst.loads, chosen1, ins]
 have h2 : nw2.admits = true := by decide
 unfold Vst.apply; simp only [h, h2]
 rfl
theorem Cmd.plain.len {q : Cmd} (h : q.plain) : q.bytes.length ≤ 100 := by
 have := encs_len (q.nums.map Int.toNat) (fun n hn => by
  obtain ⟨x, hx, rfl⟩ := List.mem_map.1 hn; have := h x hx
  omega)
 have e : (q.nums.map Int.toNat).length = 8 := by simp [Cmd.nums]
 rw [e] at this; unfold Cmd.bytes
 omega
theorem nq1_p : nq1.plain := by
 intro n hn
 simp only [nq1, Cmd.nums, List.mem_cons, List.not_mem_nil, or_false] at hn
 omega
theorem nq2_p : nq2.plain := by
 intro n hn
 simp only [nq2, Cmd.nums, List.mem_cons, List.not_mem_nil, or_false] at hn
 omega
theorem nw2_ok : VBy nw2 ∧ VIn nw2 := by
 have h0 := VOk.start.apply (by omega) nq1; have h1 := VBy.start.apply VOk.start nq1; have h2 := VIn.start.apply VOk.start nq1; rw [show (⟨[], [], [], 1⟩ : Vst).apply nq1 = (nw1, 0) from nw_a] at h0 h1 h2; have h3 := h1.apply h0 nq2; have h4 := h2.apply h0 nq2; rw [nw_b] at h3 h4
 exact ⟨h3, h4⟩
theorem mawake_calls (w : World) : Calls Tryz.prog 4 #[] w fun e w' => e = .returned (.bool true) ∧ Below w.heap.size w w' := by
 have HDN := dnew_calls 512 (by omega) (by omega) w; rw [show ((512 : Nat) : Int) = 512 from rfl] at HDN; have HDN := hide HDN
 go_enter Tryz.func4, Tryz.ntmps4
 go_wp2_with fail
 with_reducible refine HDN.out.mono ?_
 rintro e w1 ⟨d, F, rfl, hdz1, hF1, hb1⟩; obtain ⟨w2, hw2⟩ : ∃ x, w1.alloc (.cells #[.int .i64 0] 3) = x := ⟨_, rfl⟩; obtain ⟨xb, hxb⟩ : ∃ x, w1.heap.size = x := ⟨_, rfl⟩
 have hb12 : Below w1.heap.size w1 w2 := hw2 ▸ belowL (Below.refl _ _) _
 have bX : Blk w2 xb 3 [.int .i64 0] := by rw [← hw2, ← hxb]; exact Blk.new rfl
 have HM := hide (mmade_calls (W := w) (c := 1) (hdz1.below hb12) hF1 (belowA hb12 hb1) (sl_zero bX (fun hx => by have := hdz1.lt _ hx; omega))); have HW := hd2 hw2 hxb; clear hdz1 hF1 hb1 hw2 hxb hb12 bX HDN; go_wp2_with fail; rw [HW.out.1, HW.out.2]
 with_reducible refine HM.out.mono ?_
 rintro e w3 ⟨mb, rfl, sb, hms⟩; have HX : Hid (MX w w3 mb 0) := hide ⟨sb, hms⟩; clear hms HM HW; go_wp2
 go_loopw [2, 19, 20, 21, 22, 23, 24] (fun iv _ _ _ _ _ _ wr => ∃ (i : Nat), i ≤ 20 ∧ iv = .int .i64 i ∧ Hid (MX w wr mb i)) (fun iv _ _ _ _ _ _ _ => 20 - (Go.RowKit.intOf iv).toNat)
 case atStart => exact ⟨0, Nat.zero_le _, rfl, HX⟩
 case round =>
  obtain ⟨i, hi, rfl, hI⟩ := hrel; clear HX
  by_cases hlt : i < 20
  ·have i1 : (i : Int) < 20 := by omega
   have HT := hide (mtickX_calls hI.out (by omega)); clear hI; go_wp2_with fail
   with_reducible refine HT.out.mono ?_
   rintro e w4 ⟨rfl, hx⟩; have HX2 := hide hx; clear hx HT; go_wp2
   go_roundw
   case rel => exact ⟨i + 1, by omega, by go_num, HX2⟩
   case measure => simp [Go.RowKit.intOf]; omega
  ·have i1 : ¬ (i : Int) < 20 := by omega
   obtain rfl : i = 20 := by omega
   obtain ⟨sb, hms⟩ := hI.out; have hms : MS w wr mb sb [] 7 [(1, 0, bi [])] nw0 (fun _ => none) 20 := hms
   have HD := mdo_calls hms (by simp) (by simp) (fun c hc => by
    rw [List.mem_singleton.1 hc]
    exact ⟨1, 0, [], rfl, by omega, by omega, by omega, by simp⟩) (by omega) nq1 nq1_p nq1_p.len
   unfold DOT at HD; rw [nw_a] at HD; obtain ⟨B1, hB1⟩ : ∃ B, nq1.bytes = B := ⟨_, rfl⟩; have hl1 := nq1_p.len; rw [hB1] at HD hl1; unfold Cmd.val Cmd.cells nq1 at HD; have HD := hide HD; clear hI hms; simp only [show ((20 : Nat) : Int) = 20 from rfl] at *; go_wp2_with fail
   with_reducible refine HD.out.mono ?_
   rintro e w4 ⟨rfl, hms⟩; have HR := hms.result_calls 2 (by unfold i64ok; omega); rw [show (updV (fun _ => none) ((([(1, 0, bi [])] : List Con).length + 1 : Nat) : Int) (some (Value.int .i64 0))) 2 = some (.int .i64 0) by simp [updV]] at HR; have HR := hide HR; have HM2 := hide hms; clear hms HD; go_wp2_with fail
   with_reducible refine HR.out.mono ?_
   rintro e w5 ⟨rfl, rfl⟩; have HD2 := mdo_calls HM2.out (by simp) (by simp) ((ZX_ok 20).1.snoc (by omega)) (by omega) nq2 nq2_p nq2_p.len; unfold DOT at HD2; rw [nw_b] at HD2; obtain ⟨B2, hB2⟩ : ∃ B, nq2.bytes = B := ⟨_, rfl⟩; rw [hB2] at HD2; unfold Cmd.val Cmd.cells nq2 at HD2; have HD2 := hide HD2; clear HR HM2 hB1 hl1 hB2; go_wp2_with fail
   with_reducible refine HD2.out.mono ?_
   rintro e w6 ⟨rfl, hms⟩; have HS := hide (hms.state_calls (nw2_ok.1.ser hms.ok nw2_ok.2 (by omega)) (by omega) [] (by simp)); have HM3 := hide hms; clear hms HD2; go_wp2_with fail
   with_reducible refine HS.out.mono ?_
   rintro e w7 ⟨tb, rfl, hv, _, hb7⟩; have HV := hide (hv.vs.volume (id := 1) (by unfold i64ok; omega)); have HM4 := hide (HM3.out.below hb7); clear hv hb7 HS HM3; go_wp2_with fail
   with_reducible refine HV.out.mono ?_
   rintro e w8 ⟨y, rfl, hy, _, _, hb8⟩; rw [show fd Vo.id nw2.vs 1 = some ⟨1, 9, ⟨0, 1, 0, 0⟩, 1, [1, 2]⟩ from rfl] at hy ⊢; obtain ⟨v, A, c⟩ := y
   obtain rfl : ⟨1, 9, ⟨0, 1, 0, 0⟩, 1, [1, 2]⟩ = v := by
    rcases hy with h | ⟨h, _⟩
    ·exact Option.some.inj h
    ·cases h
   have HM5 := hide (HM4.out.below hb8); clear hy hb8 HV HM4; unfold VoM.val VoM.cells; simp only [Option.isSome_some, List.length_cons, List.length_nil]
   go_upto_region 15 with fail
   obtain ⟨w9, hw9⟩ : ∃ x, w8.alloc (.cells #[.int .i64 1, .int .i64 9, .int .i64 0, .int .i64 1, .int .i64 0, .int .i64 0, .int .i64 1, .slice A 2 c] 46) = x := ⟨_, rfl⟩; obtain ⟨yb, hyb⟩ : ∃ x, w8.heap.size = x := ⟨_, rfl⟩; rw [hw9, hyb]
   have hb89 : Below w8.heap.size w8 w9 := hw9 ▸ belowL (Below.refl _ _) _
   have hY : Blk w9 yb 46 [.int .i64 1, .int .i64 9, .int .i64 0, .int .i64 1, .int .i64 0, .int .i64 0, .int .i64 1, .slice A 2 c] := by rw [← hw9, ← hyb]; exact Blk.new rfl
   have y1 : w9.cell? ⟨yb, 1, none⟩ = some (.int .i64 9) := hY.cell 1; have HI := (HM5.out.below hb89).index_calls; simp only [List.length_append, List.length_cons, List.length_nil, Nat.zero_add, Nat.reduceAdd] at HI; have HI := hide HI; have HBW := hide (HM5.out.below hb89).world; clear hw9 hyb hb89 hY HM5; go_wp2_with fail
   with_reducible refine HI.out.mono ?_
   rintro e w10 ⟨rfl, rfl⟩; clear HI; go_wp2_with fail; go_ret
   exact ⟨rfl, HBW.out⟩
end Go.Proofs.YtcahcjfgmdpdoaaGreat
