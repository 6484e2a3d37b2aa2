/- One text of: Vmg Vmh Vaw. -/
import Derived.Test.YtcahcjfgmdpdoaaGreatQVE
import Derived.Test.YtcahcjfgmdpdoaaGreatQVO
set_option maxHeartbeats 4000000
set_option maxRecDepth 100000
namespace Go.Proofs.YtcahcjfgmdpdoaaGreat
open Go.RowKit Go.Proofs Go.Maps
set_option linter.unusedVariables false
set_option linter.unusedSimpArgs false

section
variable {w : World} {b c : Nat} {f : Int → Option Value} {mt et : TypeId}
end
def cmdG (k : Int) : Option Nat :=
 if k = 1 then some 57 else if k = 2 then some 58 else if k = 3 then some 59 else if k = 4 then some 60
 else if k = 5 then some 61 else if k = 6 then some 62 else if k = 7 then some 63 else if k = 8 then some 64 else none
def cmdF (k : Int) : Option Value := (cmdG k).map fun g => .func (.func g) #[] #[]
theorem commands_calls (w : World) : Calls Tryz.prog 25 #[] w fun e w' => ∃ b, e = .returned (.map (some b)) ∧ GM w' b 8 cmdF ∧ Below w.heap.size w w' ∧ w.heap.size ≤ b := by
 have hmm := @run_makeMap Tryz.prog; have g0 := GM.made w; have q0 := (Below.refl w.heap.size w).alloc (Nat.le_refl _) (.map #[] 0); obtain ⟨w1, e1, g1, c1⟩ := g0.put (mt := 70) (k := 1) (by unfold i64ok; omega) Tryz.underlying70 (.func (.func 57) #[] #[]) (by omega)
 replace g1 := g1.congr (c' := 1) (by simp [updV]) (fun _ _ => rfl)
 have q1 := Chg.onto q0 q0.size c1 (fun x hx => by simp at hx; omega); obtain ⟨w2, e2, g2, c2⟩ := g1.put (mt := 70) (k := 2) (by unfold i64ok; omega) Tryz.underlying70 (.func (.func 58) #[] #[]) (by omega)
 replace g2 := g2.congr (c' := 2) (by simp [updV]) (fun _ _ => rfl)
 have q2 := Chg.onto q1 q1.size c2 (fun x hx => by simp at hx; omega); obtain ⟨w3, e3, g3, c3⟩ := g2.put (mt := 70) (k := 3) (by unfold i64ok; omega) Tryz.underlying70 (.func (.func 59) #[] #[]) (by omega)
 replace g3 := g3.congr (c' := 3) (by simp [updV]) (fun _ _ => rfl)
 have q3 := Chg.onto q2 q2.size c3 (fun x hx => by simp at hx; omega); obtain ⟨w4, e4, g4, c4⟩ := g3.put (mt := 70) (k := 4) (by unfold i64ok; omega) Tryz.underlying70 (.func (.func 60) #[] #[]) (by omega)
 replace g4 := g4.congr (c' := 4) (by simp [updV]) (fun _ _ => rfl)
 have q4 := Chg.onto q3 q3.size c4 (fun x hx => by simp at hx; omega); obtain ⟨w5, e5, g5, c5⟩ := g4.put (mt := 70) (k := 5) (by unfold i64ok; omega) Tryz.underlying70 (.func (.func 61) #[] #[]) (by omega)
 replace g5 := g5.congr (c' := 5) (by simp [updV]) (fun _ _ => rfl)
 have q5 := Chg.onto q4 q4.size c5 (fun x hx => by simp at hx; omega); obtain ⟨w6, e6, g6, c6⟩ := g5.put (mt := 70) (k := 6) (by unfold i64ok; omega) Tryz.underlying70 (.func (.func 62) #[] #[]) (by omega)
 replace g6 := g6.congr (c' := 6) (by simp [updV]) (fun _ _ => rfl)
 have q6 := Chg.onto q5 q5.size c6 (fun x hx => by simp at hx; omega); obtain ⟨w7, e7, g7, c7⟩ := g6.put (mt := 70) (k := 7) (by unfold i64ok; omega) Tryz.underlying70 (.func (.func 63) #[] #[]) (by omega)
 replace g7 := g7.congr (c' := 7) (by simp [updV]) (fun _ _ => rfl)
 have q7 := Chg.onto q6 q6.size c7 (fun x hx => by simp at hx; omega); obtain ⟨w8, e8, g8, c8⟩ := g7.put (mt := 70) (k := 8) (by unfold i64ok; omega) Tryz.underlying70 (.func (.func 64) #[] #[]) (by omega)
 replace g8 := g8.congr (c' := 8) (by simp [updV]) (fun _ _ => rfl)
 have q8 := Chg.onto q7 q7.size c8 (fun x hx => by simp at hx; omega)
 have G := hide (g8.congr (c' := 8) (f' := cmdF) rfl (fun k _ => by
  unfold cmdF cmdG updV
  by_cases h8 : k = 8
  ·subst h8; rfl
  by_cases h7 : k = 7
  ·subst h7; rfl
  by_cases h6 : k = 6
  ·subst h6; rfl
  by_cases h5 : k = 5
  ·subst h5; rfl
  by_cases h4 : k = 4
  ·subst h4; rfl
  by_cases h3 : k = 3
  ·subst h3; rfl
  by_cases h2 : k = 2
  ·subst h2; rfl
  by_cases h1 : k = 1
  ·subst h1; rfl
  simp [h1, h2, h3, h4, h5, h6, h7, h8]))
 have Q := hide q8; clear g0 g1 g2 g3 g4 g5 g6 g7 g8 c1 c2 c3 c4 c5 c6 c7 c8 q0 q1 q2 q3 q4 q5 q6 q7 q8
 go_enter Tryz.func25, Tryz.ntmps25
 go_wp2; go_ret
 exact ⟨w.heap.size, rfl, G.out, Q.out, Nat.le_refl _⟩
theorem act_enters {k : Int} {g : Nat} (hg : cmdG k = some g) : ∀ args w, (callFunc g args).run Tryz.prog w = .ok (.enter g args) w := by
 unfold cmdG at hg
 split at hg
 ·injection hg with hg
  subst hg
  exact enters_of Tryz.func57 (by kernel_rfl) rfl
 split at hg
 ·injection hg with hg
  subst hg
  exact enters_of Tryz.func58 (by kernel_rfl) rfl
 split at hg
 ·injection hg with hg
  subst hg
  exact enters_of Tryz.func59 (by kernel_rfl) rfl
 split at hg
 ·injection hg with hg
  subst hg
  exact enters_of Tryz.func60 (by kernel_rfl) rfl
 split at hg
 ·injection hg with hg
  subst hg
  exact enters_of Tryz.func61 (by kernel_rfl) rfl
 split at hg
 ·injection hg with hg
  subst hg
  exact enters_of Tryz.func62 (by kernel_rfl) rfl
 split at hg
 ·injection hg with hg
  subst hg
  exact enters_of Tryz.func63 (by kernel_rfl) rfl
 split at hg
 ·injection hg with hg
  subst hg
  exact enters_of Tryz.func64 (by kernel_rfl) rfl
 cases hg
theorem act_calls {g n : Nat} (q : Cmd) (hg : cmdG q.k = some g) (w : World) (no : List Nat) (b m1 m2 m3 : Nat) (S : Vst) (V : List VoM) (C : List CkM) (h : VM w no b m1 m2 m3 S V C) (ok : VOk S n) (hn : n ≤ 1000) (hq : q.ok) :
  Calls Tryz.prog g #[.pointer (some ⟨b, 0, none⟩), q.val] w fun e w' => Stp w w' no b m1 m2 m3 (S.act q) e := by
 obtain ⟨l1, l2, l3, l4⟩ := ok.lens (by omega)
 have hch : ∀ v ∈ S.vs, ∀ k ∈ v.ch, i64ok k := fun v hv => (ok.vsa v hv).2.2.2.2.2.2.2
 have hep : ∀ c ∈ S.cs, 0 ≤ c.ep ∧ c.ep ≤ 1000000 := fun c hc => by have := ok.csa c hc; omega
 have hme : ∀ c ∈ S.cs, c.me.length ≤ 100 := fun c hc => by have := ok.csa c hc; omega
 have hne : ∀ v ∈ S.vs, v.ch ≠ [] ∧ ∀ k ∈ v.ch, i64ok k := fun v hv => ⟨fun e => by have := ok.vsa v hv; rw [e] at this; simp at this; omega, hch v hv⟩
 have hnx := ok.nx1; unfold cmdG at hg; unfold Vst.act
 split at hg
 ·rename_i hk
  injection hg with hg
  subst hg; rw [if_pos hk]
  exact vserver_calls w no b m1 m2 m3 S V C q h hq (by omega)
 rename_i hk; rw [if_neg hk]; clear hk
 split at hg
 ·rename_i hk
  injection hg with hg
  subst hg; rw [if_pos hk]
  exact vcreate_calls w no b m1 m2 m3 S V C q h hq (by omega) (by omega) hnx (by omega) (by omega)
 rename_i hk; rw [if_neg hk]; clear hk
 split at hg
 ·rename_i hk
  injection hg with hg
  subst hg; rw [if_pos hk]
  exact vremove_calls w no b m1 m2 m3 S V C q h hq hch
 rename_i hk; rw [if_neg hk]; clear hk
 split at hg
 ·rename_i hk
  injection hg with hg
  subst hg; rw [if_pos hk]
  exact vresize_calls w no b m1 m2 m3 S V C q h hq (by omega) (by omega) hnx (by omega) (by omega) hne hme
 rename_i hk; rw [if_neg hk]; clear hk
 split at hg
 ·rename_i hk
  injection hg with hg
  subst hg; rw [if_pos hk]
  exact vpolicy_calls w no b m1 m2 m3 S V C q h hq (by omega) (fun v hv => by have := ok.vsa v hv; omega)
 rename_i hk; rw [if_neg hk]; clear hk
 split at hg
 ·rename_i hk
  injection hg with hg
  subst hg; rw [if_pos hk]
  exact vdrop_calls w no b m1 m2 m3 S V C q h hq (by omega) hep
 rename_i hk; rw [if_neg hk]; clear hk
 split at hg
 ·rename_i hk
  injection hg with hg
  subst hg; rw [if_pos hk]
  exact vjoin_calls w no b m1 m2 m3 S V C q h hq (by omega) hep
 rename_i hk; rw [if_neg hk]; clear hk
 split at hg
 ·rename_i hk
  injection hg with hg
  subst hg; rw [if_pos hk]
  exact vpromote_calls w no b m1 m2 m3 S V C q h hq (by omega) hep hme
 rename_i hk; rw [if_neg hk]; clear hk
 cases hg
theorem act_none {S : Vst} {q : Cmd} (h : cmdG q.k = none) : S.act q = (S, 22) := by
 unfold cmdG at h; unfold Vst.act
 split at h
 ·cases h
 rename_i hk; rw [if_neg hk]; clear hk
 split at h
 ·cases h
 rename_i hk; rw [if_neg hk]; clear hk
 split at h
 ·cases h
 rename_i hk; rw [if_neg hk]; clear hk
 split at h
 ·cases h
 rename_i hk; rw [if_neg hk]; clear hk
 split at h
 ·cases h
 rename_i hk; rw [if_neg hk]; clear hk
 split at h
 ·cases h
 rename_i hk; rw [if_neg hk]; clear hk
 split at h
 ·cases h
 rename_i hk; rw [if_neg hk]; clear hk
 split at h
 ·cases h
 rename_i hk; rw [if_neg hk]
theorem run_fnil (w : World) (g : Nat) : (binOp .eql 69 (.func (.func g) #[] #[]) .nilFunc).run Tryz.prog w = .ok (.bool false) w := by
 have h : ∀ d : Nat, (Op.equalIn (d + 1) 69 (.func (.func g) #[] #[]) .nilFunc).run Tryz.prog w = .ok false w := fun d => by
  simp [Op.equalIn, run_underlying Tryz.underlying69]
 simp only [binOp]
 simp [Op.equal, Op.maxDepth, h 9999]
theorem run_nilnil (w : World) : (binOp .eql 69 .nilFunc .nilFunc).run Tryz.prog w = .ok (.bool true) w := by
 have h : ∀ d : Nat, (Op.equalIn (d + 1) 69 .nilFunc .nilFunc).run Tryz.prog w = .ok true w := fun d => by
  simp [Op.equalIn, run_underlying Tryz.underlying69]
 simp only [binOp]
 simp [Op.equal, Op.maxDepth, h 9999]
def VSK (K : List Nat) (w : World) (b : Nat) (S : Vst) (n : Nat) : Prop := VOk S n ∧ ∃ no m1 m2 m3 V C, VM w no b m1 m2 m3 S V C ∧ ∀ x ∈ K, x ∈ no
theorem VSK.vs {K : List Nat} {w : World} {b n : Nat} {S : Vst} (h : VSK K w b S n) : VS w b S n := by
 obtain ⟨h0, no, m1, m2, m3, V, C, h, _⟩ := h
 exact ⟨h0, no, m1, m2, m3, V, C, h⟩
theorem VSK.below {K : List Nat} {w w' : World} {b n : Nat} {S : Vst} (h : VSK K w b S n) (hb : Below w.heap.size w w') : VSK K w' b S n := by
 obtain ⟨h0, no, m1, m2, m3, V, C, h, hk⟩ := h
 exact ⟨h0, no, m1, m2, m3, V, C, h.below hb, hk⟩
theorem VSK.chg {K L : List Nat} {w w' : World} {b n : Nat} {S : Vst} (h : VSK K w b S n) (hc : Chg L w w') (hL : ∀ x ∈ L, x ∈ K ∧ x ≠ b ∧ ∃ t cs, Blk w x t cs) : VSK K w' b S n := by
 obtain ⟨h0, no, m1, m2, m3, V, C, h, hk⟩ := h
 refine ⟨h0, no, m1, m2, m3, V, C, h.other hc (fun x hx => ?_), hk⟩
 obtain ⟨h1, h2, t, cs, h3⟩ := hL x hx
 exact ⟨Or.inl (hk x h1), h2, (h.t1.gm.blk_ne h3).symm, (h.t2.gm.blk_ne h3).symm, (h.t3.gm.blk_ne h3).symm⟩
structure ApN (w w' : World) (no : List Nat) (m1 m2 m3 b n : Nat) (R : Vst × Int) (e : Ending) : Prop where
 ret : e = .returned (.int .i64 R.2)
 chg : Chg [b] w w'
 vs : VOk R.1 n ∧ ∃ no' a1 a2 a3 V C, VM w' no' b a1 a2 a3 R.1 V C ∧ (∀ x ∈ no, x ∈ no') ∧ ((a1 = m1 ∧ a2 = m2 ∧ a3 = m3) ∨ (w.heap.size ≤ a1 ∧ w.heap.size ≤ a2 ∧ w.heap.size ≤ a3))
structure Ap (w w' : World) (b n : Nat) (R : Vst × Int) (e : Ending) : Prop where
 ret : e = .returned (.int .i64 R.2)
 chg : Chg [b] w w'
 vs : VS w' b R.1 n
theorem vapplyN_calls (w : World) (b n : Nat) (S : Vst) (q : Cmd) (no : List Nat) (m1 m2 m3 : Nat) (V : List VoM) (C : List CkM) (h : VM w no b m1 m2 m3 S V C) (ok : VOk S n) (hn : n ≤ 1000) (hq : q.ok) :
  Calls Tryz.prog 10 #[.pointer (some ⟨b, 0, none⟩), q.val] w fun e w' => ApN w w' no m1 m2 m3 b (n + 1) (S.apply q) e := by
 have HOK := hide ok
 have hact := fun g (hg : cmdG q.k = some g) w' b' m1' m2' m3' no' (hv : VM w' no' b' m1' m2' m3' S V C) => act_calls q hg w' no' b' m1' m2' m3' S V C hv ok hn hq
 have HOK2 := hide (ok.act hn q); have HOK1 := hide (ok.more (Nat.le_succ n)); have HQ := hide hq
 have hnone : cmdG q.k = none → S.act q = (S, 22) := fun hg => act_none hg
 obtain ⟨r, hr⟩ : ∃ r, S.act q = r := ⟨_, rfl⟩
 have hap : S.apply q = if r.2 = 0 then (if r.1.admits then r else (S, 14)) else (S, r.2) := by unfold Vst.apply; simp only [hr]
 obtain ⟨T, hT⟩ : ∃ T, S.apply q = T := ⟨_, rfl⟩; rw [hT] at hap ⊢; have HAP := hide hap; simp only [hr] at hact hnone HOK2; obtain ⟨k0, a0, b0, c0, ⟨qr, qw, ql, qb⟩⟩ := q; obtain ⟨w0, hw0⟩ : ∃ w0, w.alloc (.cells #[.int .i64 k0, .int .i64 a0, .int .i64 b0, .int .i64 c0, .int .i64 qr, .int .i64 qw, .int .i64 ql, .int .i64 qb] 35) = w0 := ⟨_, rfl⟩
 have hb0 : Below w.heap.size w w0 := hw0 ▸ (Below.refl w.heap.size w).alloc (Nat.le_refl _) _
 have d1 : Blk w0 w.heap.size 35 [.int .i64 k0, .int .i64 a0, .int .i64 b0, .int .i64 c0, .int .i64 qr, .int .i64 qw, .int .i64 ql, .int .i64 qb] := hw0 ▸ Blk.new rfl
 have r0 := Below.refl w0.heap.size w0; have x0 : ∀ w', Below w0.heap.size w0 w' → w'.cell? ⟨w.heap.size, 0, none⟩ = some (.int .i64 k0) := d1.rule 0 _ rfl; have hk0 : i64ok k0 := hq.k; have HK0 := hide hk0; have HB0 := hide hb0; have HD := hide d1; have H := hide h; have HR := hide hr; simp only [Cmd.val, Cmd.cells] at hact; simp only [] at hnone hact; unfold Cmd.val Cmd.cells; simp only []; have HNO := hide hnone; have HAC := hide hact; clear h hb0 d1 hq ok hr hap hk0 hact hnone hT
 cases hg : cmdG k0 with
 |none =>
  have hF : cmdF k0 = none := by unfold cmdF; rw [hg]; rfl
  have hn1 := run_fnil; have hn2 := run_nilnil; have HG := hide hg; have HF := hide hF; clear hg hF
  go_enter Tryz.func10, Tryz.ntmps10
  go_wp2_with fail
  refine region_lxf (fun w' => Below w0.heap.size w0 w') [] 0 [(2,1),(0,2),(1,0),(1,3),(2,4)] (bzA 5 31) (by (first | exact r0.drew | exact HB01.out)) (fun hS0 => ?_)
  (iterate 2 (first | refine lxt ?_ | refine lxp ?_))
  (refine lxe ?_; go_simp; ((go_at_call 25; refine (commands_calls _).mono ?_; rintro e w1 ⟨bc, rfl, hgm, hb1, hbc⟩; have hlk := hgm.look (mt := 70) HK0.out Tryz.underlying70 (z := .nilFunc) (by simp [Tryz.zeroValue69]); rw [HF.out] at hlk; simp only [Option.getD_none] at hlk; have HB01 : Hid (Below w0.heap.size w0 w1) := hide (r0.drew.trans hb1); clear hgm hb1 hbc)); refine lxB (by (first | exact r0.drew | exact HB01.out)) (fun hS1 => ?_))
  (refine lxe ?_; (try clear hS1); go_simp; refine lxB (by (first | exact r0.drew | exact HB01.out)) (fun hS1 => ?_))
  refine lxp ?_
  refine lxN (lxd ?_)
  clear hS0 hlk; have HB := hide (HB0.out.trans (HB01.out.mono HB0.out.size)); have hq := HNO.out HG.out; have HE : Hid (T = (S, 22)) := hide (by rw [HAP.out, hq]; rfl); clear hq; go_wp2; go_ret; rw [HE.out]
  exact ⟨rfl, Chg.of_below HB.out, HOK1.out, no, m1, m2, m3, V, C, H.out.below HB.out, fun x hx => hx, Or.inl ⟨rfl, rfl, rfl⟩⟩
 |some g =>
  have hF : cmdF k0 = some (.func (.func g) #[] #[]) := by unfold cmdF; rw [hg]; rfl
  have hdo := hide (HAC.out g hg); have hen := act_enters hg; have hn1 := run_fnil; have hn2 := run_nilnil; have HG := hide hg; have HF := hide hF; clear hg hF HAC
  go_enter Tryz.func10, Tryz.ntmps10
  go_wp2_with fail
  refine region_lxf (fun w' => Below w0.heap.size w0 w') [] 0 [(2,1),(0,2),(1,0),(1,3),(2,4)] (bzA 5 31) (by (first | exact r0.drew | exact HB01.out)) (fun hS0 => ?_)
  (iterate 2 (first | refine lxt ?_ | refine lxp ?_))
  (refine lxe ?_; go_simp; ((go_at_call 25; refine (commands_calls _).mono ?_; rintro e w1 ⟨bc, rfl, hgm, hb1, hbc⟩; have hlk := hgm.look (mt := 70) HK0.out Tryz.underlying70 (z := .nilFunc) (by simp [Tryz.zeroValue69]); rw [HF.out] at hlk; simp only [Option.getD_some] at hlk; have HB01 : Hid (Below w0.heap.size w0 w1) := hide (r0.drew.trans hb1); clear hgm hb1 hbc)); refine lxB (by (first | exact r0.drew | exact HB01.out)) (fun hS1 => ?_))
  (refine lxe ?_; (try clear hS1); go_simp; refine lxB (by (first | exact r0.drew | exact HB01.out)) (fun hS1 => ?_))
  refine lxp ?_
  refine lxN (lxd ?_)
  clear hS0 hlk; have HB1 := hide (HB0.out.trans (HB01.out.mono HB0.out.size)); have HV1 := hide (H.out.below HB1.out); have HD1 := hide (HD.out.below HB01.out); clear hw0 x0 r0; go_wp2_with fail
  refine (vclone_calls w1 no b m1 m2 m3 S V C HV1.out).mono ?_
  rintro e w2 ⟨nb, n1, n2, n3, rfl, hv2, hb2, p0, p1, p2, p3⟩; have HV2 := hide hv2; have HB2 := hide (HB1.out.trans (hb2.mono HB1.out.size)); have HD2 := hide (HD1.out.below hb2); have HP := hd4 p0 p1 p2 p3; have HS12 := hide hb2.size; have y0 := HD2.out.cell 0; have y1 := HD2.out.cell 1; have y2 := HD2.out.cell 2; have y3 := HD2.out.cell 3; have y4 := HD2.out.cell 4; have y5 := HD2.out.cell 5; have y6 := HD2.out.cell 6; have y7 := HD2.out.cell 7; simp only [List.getElem?_cons_succ, List.getElem?_cons_zero] at y0 y1 y2 y3 y4 y5 y6 y7; have hct := hide (hdo.out w2 nb n1 n2 n3 _ HV2.out); clear hv2 hb2 p0 p1 p2 p3 hdo; go_wp2_with fail
  go_at_fn g
  refine hct.out.mono ?_; rintro e w3 ⟨rfl, hc3, V3, C3, hv3⟩
  have hc3' : Chg [] w w3 := (Chg.of_below (L := []) HB2.out).trans hc3 (fun x hx => by
   have hsz := HB1.out.size; have := HP.out
   simp at hx
   rcases hx with rfl | rfl | rfl | rfl
   ·exact Or.inr (by omega)
   ·exact Or.inr (by omega)
   ·exact Or.inr (by omega)
   ·exact Or.inr (by omega))
  have HB3 := hide hc3'.none; have HV3 := hide hv3; clear y0 y1 y2 y3 y4 y5 y6 y7 hc3 hc3' hv3 hct hen; obtain ⟨R, z⟩ := r; simp only [] at HOK2 HV3
  by_cases hz : z = 0
  ·subst hz
   have HT0 : Hid (T = if R.admits then (R, 0) else (S, 14)) := hide (by rw [HAP.out]; simp); obtain ⟨l1, l2, l3, l4⟩ := HOK2.out.lens (by omega); have had := hide (vadmits_calls w3 _ nb n1 n2 n3 R V3 C3 HV3.out (by omega) (fun v hv => (HOK2.out.vsa v hv).2.2.2.2.2.2.2)); clear l1 l2 l3 l4; go_wp2_with fail; refine had.out.mono ?_; rintro e w4 ⟨rfl, hb4⟩; have HB4 := hide (HB3.out.trans (hb4.mono HB3.out.size)); have HV4 := hide (HV3.out.below hb4); clear hb4
   cases ha : R.admits with
   |false =>
    have HE : Hid (T = (S, 14)) := hide (by rw [HT0.out, ha]; rfl); clear ha; go_wp2; go_ret; rw [HE.out]
    exact ⟨rfl, Chg.of_below HB4.out, HOK1.out, no, m1, m2, m3, V, C, H.out.below HB4.out, fun x hx => hx, Or.inl ⟨rfl, rfl, rfl⟩⟩
   |true =>
    have HE : Hid (T = (R, 0)) := hide (by rw [HT0.out, ha]; rfl); clear ha; have u0 : w4.cell? ⟨nb, 0, none⟩ = some (.map (some n1)) := HV4.out.blk.cell 0; have u1 : w4.cell? ⟨nb, 1, none⟩ = some (.map (some n2)) := HV4.out.blk.cell 1; have u2 : w4.cell? ⟨nb, 2, none⟩ = some (.map (some n3)) := HV4.out.blk.cell 2; have u3 : w4.cell? ⟨nb, 3, none⟩ = some (.int .i64 R.nx) := HV4.out.blk.cell 3; have hB4 := H.out.below HB4.out; have v0 : w4.cell? ⟨b, 0, none⟩ = some (.map (some m1)) := hB4.blk.cell 0; have v1 : w4.cell? ⟨b, 1, none⟩ = some (.map (some m2)) := hB4.blk.cell 1; have v2 : w4.cell? ⟨b, 2, none⟩ = some (.map (some m3)) := hB4.blk.cell 2; have v3 : w4.cell? ⟨b, 3, none⟩ = some (.int .i64 S.nx) := hB4.blk.cell 3; have zz := hB4.blk.frozen; have HBS := hide ((((hB4.blk.set 0 (.map (some n1))).set 1 (.map (some n2))).set 2 (.map (some n3))).set 3 (.int .i64 R.nx)); have hbl : b < w.heap.size := H.out.lt b H.out.ib; have hsz := HB1.out.size; have hp := HP.out; have HLT := hd3 hbl hsz hp; clear hB4 hbl hsz hp; go_wp2; go_ret; obtain ⟨hbl, hsz, hp0, hp1, hp2, hp3⟩ := HLT.out
    have hc4 : Chg [b] w4 ((((w4.setCell ⟨b, 0, none⟩ (.map (some n1))).setCell ⟨b, 1, none⟩ (.map (some n2))).setCell ⟨b, 2, none⟩ (.map (some n3))).setCell ⟨b, 3, none⟩ (.int .i64 R.nx)) :=
     ((((Chg.refl _ _).setCell (Or.inl (by simp)) _).setCell (Or.inl (by simp)) _).setCell (Or.inl (by simp)) _).setCell (Or.inl (by simp)) _
    rw [HE.out]; have hv := HV4.out
    have hno : ∀ x ∈ [b], x ∈ (nb :: n1 :: n2 :: n3 :: no) ∨ w4.heap.size ≤ x := fun x hx => by
     rw [List.mem_singleton.1 hx]
     exact Or.inl (by simp [H.out.ib])
    refine ⟨rfl, (Chg.of_below (L := [b]) HB4.out).same hc4, HOK2.out, nb :: n1 :: n2 :: n3 :: no, n1, n2, n3, V3, C3, ⟨HBS.out, hv.t1.chg hc4 (by simp; omega), hv.t2.chg hc4 (by simp; omega), hv.t3.chg hc4 (by simp; omega), hv.eV, hv.eC,
     fun x hx => (hv.sV x hx).chg hc4 hno, fun x hx => ⟨(hv.sC x hx).1.chg hc4 hno, (hv.sC x hx).2.chg hc4 hno⟩, by simp [H.out.ib], by simp, by simp, by simp, fun x hx => Nat.lt_of_lt_of_le (hv.lt x hx) hc4.size, hv.ne⟩, fun x hx => by simp [hx], Or.inr ⟨by omega, by omega, by omega⟩⟩
  ·have hz2 : (z != 0) = true := by simpa using hz
   have HE : Hid (T = (S, z)) := hide (by rw [HAP.out]; simp [hz]); have HZ := hide hz; clear hz; go_wp2; go_ret; rw [HE.out]
   exact ⟨rfl, Chg.of_below HB3.out, HOK1.out, no, m1, m2, m3, V, C, H.out.below HB3.out, fun x hx => hx, Or.inl ⟨rfl, rfl, rfl⟩⟩
theorem vapply_calls (w : World) (b n : Nat) (S : Vst) (q : Cmd) (h : VS w b S n) (hn : n ≤ 1000) (hq : q.ok) :
  Calls Tryz.prog 10 #[.pointer (some ⟨b, 0, none⟩), q.val] w fun e w' => Ap w w' b (n + 1) (S.apply q) e := by
 obtain ⟨ok, no, m1, m2, m3, V, C, h⟩ := h
 refine (vapplyN_calls w b n S q no m1 m2 m3 V C h ok hn hq).mono fun e w' ha => ?_
 obtain ⟨h0, no', a1, a2, a3, V', C', hv, _⟩ := ha.vs
 exact ⟨ha.ret, ha.chg, h0, no', a1, a2, a3, V', C', hv⟩

def ChOut (w w' : World) (e : Ending) (f : Option Ck) : Prop :=
 ∃ y : CkM, e = .returned (.tuple #[y.val, .bool f.isSome]) ∧ (f = some y.k ∨ (f = none ∧ y.k = zCk.k)) ∧ MadeI w w' y.A y.c y.k.me ∧ MadeI w w' y.B y.d y.k.jo ∧ y.k.me.length ≤ 1024 ∧ y.k.jo.length ≤ 1024 ∧ Below w.heap.size w w'
section
variable {w w' : World} {b n : Nat} {S : Vst}
theorem VS.ok (h : VS w b S n) : VOk S n := h.1
theorem VS.volume (h : VS w b S n) {id : Int} (hid : i64ok id) : Calls Tryz.prog 14 #[.pointer (some ⟨b, 0, none⟩), .int .i64 id] w fun e w' => VolOut w w' e (fd Vo.id S.vs id) := by
 obtain ⟨h0, no, m1, m2, m3, V, C, h⟩ := h
 exact vvolume_calls w no b m1 m2 m3 S V C id h hid
theorem VS.volumes (h : VS w b S n) (hn : n ≤ 1001) : Calls Tryz.prog 31 #[.pointer (some ⟨b, 0, none⟩)] w fun e w' => ∃ A c, e = .returned (.slice A S.vs.length c) ∧ OwnI w w' A c (S.vs.map Vo.id) ∧ Below w.heap.size w w' := by
 have hl := h.1.lens hn; obtain ⟨h0, no, m1, m2, m3, V, C, h⟩ := h
 exact volumes_calls w no b m1 m2 m3 S V C h (by omega)
theorem VS.chunks (h : VS w b S n) (hn : n ≤ 1001) : Calls Tryz.prog 34 #[.pointer (some ⟨b, 0, none⟩)] w fun e w' => ∃ A c, e = .returned (.slice A S.cs.length c) ∧ OwnI w w' A c (S.cs.map Ck.id) ∧ Below w.heap.size w w' := by
 have hl := h.1.lens hn; obtain ⟨h0, no, m1, m2, m3, V, C, h⟩ := h
 exact chunks_calls w no b m1 m2 m3 S V C h (by omega)
theorem VS.policies (h : VS w b S n) (hn : n ≤ 1001) (s : Int) : Calls Tryz.prog 69 #[.pointer (some ⟨b, 0, none⟩), .int .i64 s] w fun e w' => ∃ A c, e = .returned (.slice A (S.polOf s).length c) ∧ Reads w' w'.heap.size 4 A (S.polOf s).length (polCells (S.polOf s)) ∧
  (∀ g, A.map Addr.block = some g → w.heap.size ≤ g) ∧ Below w.heap.size w w' := by
 have hl := h.1.lens hn
 have hch : ∀ v ∈ S.vs, ∀ k ∈ v.ch, i64ok k := fun v hv => (h.1.vsa v hv).2.2.2.2.2.2.2
 obtain ⟨h0, no, m1, m2, m3, V, C, h⟩ := h
 refine (policies_calls w no b m1 m2 m3 S V C s h (by omega) hch).mono fun e w' ⟨A, c, he, ho, hg, hb⟩ => ⟨A, c, he, ?_, hg, hb⟩
 obtain ⟨A2, c2, e2, h1, h2, h3, h4, h5⟩ := own_view ho
 cases e2
 exact h5 _ (fun g hg => own_lt ho hg)
theorem VS.new (w : World) : Calls Tryz.prog 42 #[] w fun e w' => ∃ b, e = .returned (.pointer (some ⟨b, 0, none⟩)) ∧ VS w' b ⟨[], [], [], 1⟩ 0 ∧ Below w.heap.size w w' ∧ w.heap.size ≤ b := by
 refine (vnew_calls w).mono fun e w' ⟨no, b, m1, m2, m3, he, hv, hb, hno⟩ => ⟨b, he, ⟨VOk.start, no, m1, m2, m3, [], [], hv⟩, hb, hno b hv.ib⟩
end

theorem Cmd.ok_mk {k a b c : Int} {p : Pol} (hk : i64ok k) (ha : i64ok a) (hb : i64ok b) (hc : i64ok c) : (⟨k, a, b, c, p⟩ : Cmd).ok := ⟨hk, ha, hb, hc⟩
end Go.Proofs.YtcahcjfgmdpdoaaGreat
