/- One text of: Gu. -/
import Derived.Test.YteppdlkmjgladaaGreatQGG
namespace Go.Proofs.YteppdlkmjgladaaGreat
open Go.RowKit Go.Proofs Go.Maps
set_option linter.unusedVariables false
set_option linter.unusedSimpArgs false
theorem zA41 {α : Type} (l : List α) (i : Nat) (a : α) : l.toArray.setIfInBounds i a = (l.set i a).toArray := by simp
theorem zB41 {α : Type} (x a : α) (l : List α) : (x :: l).set 0 a = a :: l := rfl
theorem zC41 {α : Type} (x a : α) (l : List α) (n : Nat) : (x :: l).set (n + 1) a = x :: l.set n a := rfl

theorem sbytes_le {i t : Nat} {l : List Int} {b : List Nat} (hi : i < 2 ^ 60) (ht : t < 2 ^ 60) (hl : l.length ≤ 7) (hx : ∀ x ∈ l, 0 ≤ x ∧ x ≤ 15) (hb : b.length ≤ 100000) (hby : ∀ x ∈ b, x < 256) : (sbytes i t l b).length ≤ b.length + 200 ∧ ∀ x ∈ sbytes i t l b, x < 256 := by
 have hq := qbytes_len hl hx
 have e1 := enc_len9 (n := i) (by omega)
 have e2 := enc_len9 (n := t) (by omega)
 have e3 := enc_len9 (n := (qbytes l).length) (by omega)
 have e4 := enc_len9 (n := b.length) (by omega)
 refine ⟨by unfold sbytes encT; simp only [List.length_append]; omega, fun x hx => ?_⟩
 unfold sbytes encT at hx
 simp only [List.mem_append] at hx
 rcases hx with ((hx | hx) | (hx | hx)) | (hx | hx)
 ·exact enc_byte _ x hx
 ·exact enc_byte _ x hx
 ·exact enc_byte _ x hx
 ·exact hq.2 x hx
 ·exact enc_byte _ x hx
 ·exact hby x hx
section
variable {W w w' w0 w1 w2 : World} {nb u j g p : Nat} {q q1 q' : Gl} {G G1 : Gd}
theorem GP.resnap (h : GP w nb q G) {si st : Int} {sm : List Int} {sb : List Nat} {Am Ab : Option Addr} {cm cb : Nat} (hc : Chg [nb] w w') (it : It w' Am cm sm) (hv : ∀ x ∈ q.vb, ∀ a, Am = some a → a.block ≠ x)
  (hb : Blk w' nb 97 (Gd.cells { G with m := { G.m with si := si, st := st, sm := sm, sb := sb } } { q with Am := Am, cm := cm, Ab := Ab, cb := cb })) :
  GP w' nb { q with Am := Am, cm := cm, Ab := Ab, cb := cb } { G with m := { G.m with si := si, st := st, sm := sm, sb := sb } } ∧ GS w w' nb q { q with Am := Am, cm := cm, Ab := Ab, cb := cb } := by
 have hK : ∀ x ∈ [nb], x ∈ gt nb q := fun x hx => gt_mem.2 (Or.inl (List.mem_singleton.1 hx))
 have s := h.sep
 exact ⟨⟨hb, h.vltS hc hK (fun x hx hy => (s.v x hx).1 (List.mem_singleton.1 hy)), h.logS hc hK (fun x hx hy => (s.l x hx).1 (List.mem_singleton.1 hy)), it, trivial, h.voS hc hK, h.nx.chg hc (fun hx => s.nx (List.mem_singleton.1 hx)), h.mx.chg hc (fun hx => s.mx (List.mem_singleton.1 hx)), h.outS hc (fun x hx hy => (s.o x hx).1 (List.mem_singleton.1 hy)), ⟨s.nx, s.mx, s.xx, s.o, s.l, s.v, hv⟩⟩, ⟨hc.mono (fun x hx => Or.inl (hK x hx)), fun x hx => Or.inl hx, fun x hx => Or.inl hx⟩⟩
def Gd.sna (G : Gd) (i t : Int) (sm : List Int) (sb : List Nat) (L : List Con) (V : Vlt) (d : Bool) : Gd := { G with dead := d, m := { G.m with V := V, si := i, st := t, sm := sm, sb := sb, li := i, lt := t, L := L } }
theorem GI.sna (h : GI u G) {i t : Int} {sm : List Int} {sb : List Nat} {L : List Con} {V : Vlt} {d : Bool} (hi : 0 ≤ i ∧ i ≤ 549755813888) (ht : 0 ≤ t ∧ t ≤ 549755813888) (hm : memOk sm) (hb : sb.length ≤ 700) (hL : ConG L) (hn : L.length ≤ 20 * u) : GI u (G.sna i t sm sb L V d) :=
 ⟨h.id, h.bt, h.bv, h.com, h.told, h.quiet, h.beats, ⟨hi, ht, rfl, rfl, hm, hb, hL, hn, h.m.votes, h.m.next, h.m.mat, h.m.on⟩⟩
set_option maxHeartbeats 8000000 in
set_option maxRecDepth 100000 in
theorem grebase_calls (h : GP w nb q G) (hi : GI u G) (hu : u ≤ 870) (hV : VltOk G.m.V g) (hg : g + 40000 < 2 ^ 60) (i t : Nat) (hib : i ≤ 549755813888) (htb : t ≤ 549755813888) {Am : Option Addr} {cm : Nat} {sm : List Int} (hm : It w Am cm sm) (hmo : memOk sm) (hmv : ∀ x ∈ q.vb, ∀ a, Am = some a → a.block ≠ x) {Ab : Option Addr} {cb : Nat} {sb : List Nat} (hsb : sb = [] ∨ Rb w [] Ab cb sb) (hsl : sb.length ≤ 700) (hsby : ∀ x ∈ sb, x < 256) (la : Int) (hla : la ≤ G.m.si + 20 * u ∧ -1099511627776 ≤ la) (go : Bool) (hgo : go = true → ∃ k : Nat, k ≤ G.m.L.length ∧ (i : Int) = G.m.li + k ∧ termC G.m.li G.m.lt G.m.L k = ((t : Int), true)) :
  Calls Tryz.prog 103 #[.pointer (some ⟨nb, 0, none⟩), .agg #[.int .i64 i, .int .i64 t, .slice Am sm.length cm, .slice Ab sb.length cb], .int .i64 la, .bool go] w fun e w' => e = .returned (.tuple #[]) ∧ GW w w' nb q G u (g + 30000) := by
 obtain ⟨w0, hw0⟩ : ∃ w0, w.alloc (.cells #[.int .i64 i, .int .i64 t, .slice Am sm.length cm, .slice Ab sb.length cb] 93) = w0 := ⟨_, rfl⟩
 obtain ⟨xb, hxb⟩ : ∃ xb, w.heap.size = xb := ⟨_, rfl⟩
 have hb0 : Below w.heap.size w w0 := hw0 ▸ belowL (Below.refl _ _) _
 have bX : Blk w0 xb 93 [.int .i64 i, .int .i64 t, .slice Am sm.length cm, .slice Ab sb.length cb] := by rw [← hw0, ← hxb]; exact Blk.new rfl
 have h0 := h.below hb0
 have hxq : xb ∉ gt nb q := fun hx => by have := h.lt xb (List.mem_append_left _ hx); omega
 have hSN := snapb_calls (w := w0) (no := []) (A := Am) (c := cm) (B := Ab) (d := cb) i t (hm.below hb0).sl hmo.1 hmo.2 (hsb.imp id (fun h => h.below hb0)) (by omega) (by omega) (by omega)
 have hsn := sbytes_le (i := i) (t := t) (l := sm) (b := sb) (by omega) (by omega) hmo.1 hmo.2 (by omega) hsby
 obtain ⟨SB, hSB⟩ : ∃ SB, sbytes i t sm sb = SB := ⟨_, rfl⟩
 rw [hSB] at hSN hsn
 have HSN := hide hSN
 have HW := hide (And.intro hw0 hxb)
 have y5 : w0.cell? ⟨nb, 5, none⟩ = some (.int .i64 G.m.si) := h0.blk.cell 5
 have x0 : w0.cell? ⟨xb, 0, none⟩ = some (.int .i64 i) := bX.cell 0
 have x1 : w0.cell? ⟨xb, 1, none⟩ = some (.int .i64 t) := bX.cell 1
 have x2 : w0.cell? ⟨xb, 2, none⟩ = some (.slice Am sm.length cm) := bX.cell 2
 have x3 : w0.cell? ⟨xb, 3, none⟩ = some (.slice Ab sb.length cb) := bX.cell 3
 have hit0 := hm.below hb0
 have H := hide (And.intro h0 (And.intro hb0 (And.intro hi (And.intro hV (And.intro hg (And.intro hit0 (And.intro hmo (And.intro hmv (And.intro hsl (And.intro hla (And.intro hgo (And.intro bX (And.intro hxq hsn)))))))))))))
 clear h hi hV hg hm hmo hmv hsb hsl hsby hla hgo hb0 bX h0 hxq hSN hsn hSB hit0 hw0 hxb
 go_enter Tryz.func103, Tryz.ntmps103
 go_upto_region 1 with fail
 (try rw [HW.out.1])
 (try rw [HW.out.2])
 go_wp2_with fail
 with_reducible refine HSN.out.mono ?_
 rintro e w1 ⟨A1, c1, rfl, ho1, hb1⟩
 obtain ⟨h0, hb0, hi, hV, hg, hit0, hmo, hmv, hsl, hla, hgo, bX, hxq, hsn⟩ := H.out
 have HPU := hide (gput_calls (h0.below hb1) hV (by omega) 1 ho1.bt hsn.2 (by have := hsn.1; omega))
 have HB1 := hide hb1
 clear h0 hb0 hi hV hg hit0 hmo hmv hsl hla hgo bX hxq hsn ho1 hb1 HSN y5 x0 x1 x2 x3
 go_wp2_with fail
 with_reducible refine HPU.out.mono ?_
 rintro e w2 ⟨q2, V2, d2, rfl, h2, hok2, hs2, _⟩
 obtain ⟨h0, hb0, hi, hV, hg, hit0, hmo, hmv, hsl, hla, hgo, bX, hxq, hsn⟩ := H.out
 have hs02 : GS w0 w2 nb q q2 := (GS.stay HB1.out).trans hs2
 have bX2 := bX.chg hs02.c hxq
 have hit2 := hit0.chg hs02.c h0.hard
 have H2 := hide (And.intro h2 (And.intro hok2 (And.intro hs02 (And.intro bX2 hit2))))
 clear h0 hb0 hi hV hg hit0 hmo hmv hsl hla hgo bX hxq hsn h2 hok2 hs2 hs02 bX2 hit2 HPU
 cases d2 with
 |true =>
  go_wp2
  refine bodyPost_ret (results_none rfl _ _ _) rfl ?_
  exact ⟨rfl, q2, _, H2.out.1, H.out.2.2.1.vlt V2 true, H2.out.2.1.up (by omega), rfl, Int.le_refl _, Int.le_refl _, (GS.stay H.out.2.1).trans H2.out.2.2.1⟩
 |false =>
  obtain ⟨h2, hok2, hs02, bX2, hit2⟩ := H2.out
  obtain ⟨h0, hb0, hi, hV, hg, hit0, hmo, hmv, hsl, hla, hgo, bX, hxq, hsn⟩ := H.out
  have x0 : w2.cell? ⟨xb, 0, none⟩ = some (.int .i64 i) := bX2.cell 0
  have x1 : w2.cell? ⟨xb, 1, none⟩ = some (.int .i64 t) := bX2.cell 1
  have x2 : w2.cell? ⟨xb, 2, none⟩ = some (.slice Am sm.length cm) := bX2.cell 2
  have x3 : w2.cell? ⟨xb, 3, none⟩ = some (.slice Ab sb.length cb) := bX2.cell 3
  have q5 := h2.blk.cell 5
  have q6 := h2.blk.cell 6
  have q7 := h2.blk.cell 7
  have q8 := h2.blk.cell 8
  have f5 := h2.blk.frozen 5
  have f6 := h2.blk.frozen 6
  have f7 := h2.blk.frozen 7
  have f8 := h2.blk.frozen 8
  simp only [Gd.cells, List.getElem?_cons_succ, List.getElem?_cons_zero] at q5 q6 q7 q8
  obtain ⟨w3, hw3⟩ : ∃ w3, (((w2.setCell ⟨nb, 5, none⟩ (.int .i64 i)).setCell ⟨nb, 6, none⟩ (.int .i64 t)).setCell ⟨nb, 7, none⟩ (.slice Am sm.length cm)).setCell ⟨nb, 8, none⟩ (.slice Ab sb.length cb) = w3 := ⟨_, rfl⟩
  have b3 := (((h2.blk.set 5 (.int .i64 i)).set 6 (.int .i64 t)).set 7 (.slice Am sm.length cm)).set 8 (.slice Ab sb.length cb)
  have c3 : Chg [nb] w2 w3 := by rw [← hw3]; exact ((((Chg.refl [nb] w2).setCell (p := ⟨nb, 5, none⟩) (Or.inl (by simp)) _).setCell (p := ⟨nb, 6, none⟩) (Or.inl (by simp)) _).setCell (p := ⟨nb, 7, none⟩) (Or.inl (by simp)) _).setCell (p := ⟨nb, 8, none⟩) (Or.inl (by simp)) _
  rw [hw3] at b3
  have hit3 := hit2.chg c3 (HardL.cons (h2.hard nb (gt_mem.2 (Or.inl rfl))) (fun g hg => by cases hg))
  have hmv2 : ∀ x ∈ q2.vb, ∀ a, Am = some a → a.block ≠ x := fun x hx a ha => by
   rcases hs02.v x hx with h | h
   ·exact hmv x h a ha
   ·have := (hit0.sl.ap a ha).2.2; omega
  obtain ⟨h3, hs3⟩ := h2.resnap (si := i) (st := t) (sm := sm) (sb := sb) (Am := Am) (Ab := Ab) (cm := cm) (cb := cb) c3 hit3 hmv2 b3
  obtain ⟨q3, hq3⟩ : ∃ q3, ({ q2 with Am := Am, cm := cm, Ab := Ab, cb := cb } : Gl) = q3 := ⟨_, rfl⟩
  obtain ⟨G3, hG3⟩ : ∃ G3 : Gd, ({ Gd.vlt G V2 false with m := { (Gd.vlt G V2 false).m with si := i, st := t, sm := sm, sb := sb } } : Gd) = G3 := ⟨_, rfl⟩
  rw [hq3, hG3] at h3
  rw [hq3] at hs3
  have hs03 := hs02.trans hs3
  have bX3 := bX.chg hs03.c hxq
  have he3 : G3.m.li = G.m.li ∧ G3.m.lt = G.m.lt ∧ G3.m.L = G.m.L ∧ (∀ L, ({ G3 with m := { G3.m with li := (i : Int), lt := (t : Int), L := L } } : Gd) = G.sna i t sm sb L V2 false) := by rw [← hG3]; exact ⟨rfl, rfl, rfl, fun L => rfl⟩
  have H3 := hide (And.intro h3 (And.intro hs03 (And.intro bX3 he3)))
  have HW3 := hide hw3
  clear h2 hok2 hs02 bX2 hit2 h0 hb0 hi hV hg hit0 hmo hmv hsl hla hgo bX hxq hsn b3 c3 hit3 hmv2 h3 hs3 hq3 hG3 hs03 bX3 he3 hw3
  go_upto_region 4 with fail
  rw [HW3.out]
  clear x0 x1 x2 x3 q5 q6 q7 q8 f5 f6 f7 f8
  have r3 := Below.refl w3.heap.size w3
  go_cut [35] from 24 to 35 (fun v wx => ∃ z : Bool, v = .bool z ∧ Hid ((z = true → wx = w3.drew) ∧ (z = false → ∃ q6 L6, GP wx nb q6 (G.sna i t sm sb L6 V2 false) ∧ ConG L6 ∧ L6.length ≤ 20 * u ∧ GS w0 wx nb q q6)))
  case first =>
   cases go with
   |true =>
    obtain ⟨k, hk1, hk2, hk3⟩ := H.out.2.2.2.2.2.2.2.2.2.2.1 rfl
    have hi := H.out.2.2.1
    have h3d := H3.out.1.below r3.drew
    have y9 := H3.out.1.blk.rule 9 _ rfl
    have x0 := H3.out.2.2.1.rule 0 _ rfl
    have HCU := lg_cut (i := (i : Int)) k h3d.log (by rw [H3.out.2.2.2.1, hi.m.li]; exact hi.m.si.1) (by rw [H3.out.2.2.2.1, hi.m.li]; have := hi.m.si.2; omega) (by rw [H3.out.2.2.2.2.2.1]; exact hk1) (by rw [H3.out.2.2.2.2.2.1]; have := hi.m.n; omega) (t := (t : Int)) (by rw [H3.out.2.2.2.1, H3.out.2.2.2.2.1, H3.out.2.2.2.2.2.1]; exact hk3) (by rw [H3.out.2.2.2.1]; exact hk2)
    rw [H3.out.2.2.2.1, H3.out.2.2.2.2.2.1, ← hk2] at HCU
    have HCU := hide HCU
    have HLC := hide (And.intro (show ConG (G.m.L.drop k) from fun c hc => hi.m.L c (List.mem_of_mem_drop hc)) (show (G.m.L.drop k).length ≤ 20 * u by rw [List.length_drop]; have := hi.m.n; omega))
    clear hk1 hk2 hk3 hi h3d
    refine lxR (fun w' => Below w3.heap.size w3 w') [9] 0 [(2, 0), (2, 1), (2, 2), (2, 3), (2, 4), (2, 5), (0, 6), (2, 7), (0, 8), (3, 9), (2, 10), (2, 11)] #[true, true, true, true, true, true, true, true, true, true, true, true] (by kernel_rfl) (by kernel_rfl) (by decide) (by kernel_rfl) (by kernel_rfl) (fun _ _ _ _ _ h => h) (by (exact r3.drew)) (fun hS0 => ?_)
    simp only [List.map_cons, List.map_nil, List.getElem?_toArray, List.getElem?_cons_succ, List.getElem?_cons_zero]
    (iterate 3 ((apply lxP (by rfl); (focus (intro w; go_simp; (try with_reducible rfl); done)); simp only [Act.put, zA41, zB41, zC41]))); (iterate 3 (first | (apply lxP (by rfl); (focus (intro w; go_simp; (try with_reducible rfl); done)); simp only [Act.put, zA41, zB41, zC41]) | (refine lxQ (by rfl) ?_; simp only [Act.put, zA41, zB41, zC41]))); (first | (apply lxT (by rfl); (focus (intro w hw; (try dsimp only at hw); go_simp; (try with_reducible rfl); done)); simp only [Act.put, zA41, zB41, zC41]) | (refine lxS (by rfl) ?_; simp only [Act.put, zA41, zB41, zC41])); (first | (apply lxP (by rfl); (focus (intro w; go_simp; (try with_reducible rfl); done)); simp only [Act.put, zA41, zB41, zC41]) | (refine lxQ (by rfl) ?_; simp only [Act.put, zA41, zB41, zC41])); (first | (apply lxT (by rfl); (focus (intro w hw; (try dsimp only at hw); go_simp; (try with_reducible rfl); done)); simp only [Act.put, zA41, zB41, zC41]) | (refine lxS (by rfl) ?_; simp only [Act.put, zA41, zB41, zC41])); (first | (refine lxF (by rfl) ?_; go_simp; ((go_at_call 130; refine HCU.out.mono ?_; rintro e w4 ⟨F4, rfl, hl4, hc4, hg4⟩))) | (refine lexg_effskipN (by rfl) ?_; simp only [Act.put, zA41, zB41, zC41])); (first | (apply lxP (by rfl); (focus (intro w; go_simp; (try with_reducible rfl); done)); simp only [Act.put, zA41, zB41, zC41]) | (refine lxQ (by rfl) ?_; simp only [Act.put, zA41, zB41, zC41])); (apply lxP (by rfl); (focus (intro w; go_simp; (try with_reducible rfl); done)); simp only [Act.put, zA41, zB41, zC41])
    refine lxN (fun _ => wqD (by kernel_rfl) ?_ _)
    have cc := hc4.mono (L' := nb :: q3.Fl) (fun x hx => Or.inl (List.mem_cons_of_mem _ hx))
    have h4 := GP.logT (li := (i : Int)) (lt := (t : Int)) (L' := G.m.L.drop k) (Fl' := F4) (lb := q3.lb) (H3.out.1.below r3.drew) (((H3.out.1.below r3.drew).blk).chg hc4 (fun hx => (H3.out.1.sep.l _ hx).1 rfl)) hl4 cc (fun x hx => hg4 x hx)
    have s4 : GS w3 w4 nb q3 _ := (GS.stay r3.drew).trans (GS.fl (Fl' := F4) (lb := q3.lb) cc (fun x hx => hg4 x hx))
    rw [H3.out.2.2.2.2.2.2] at h4
    have HF := hide (And.intro h4 (H3.out.2.1.trans s4))
    clear hl4 hc4 hg4 h4 s4 cc hS0 y9 x0 HCU
    go_wp2
    go_meet
    exact ⟨false, rfl, hide ⟨fun h => by (cases h), fun _ => ⟨_, _, HF.out.1, HLC.out.1, HLC.out.2, HF.out.2⟩⟩⟩
   |false =>
    refine lxR (fun w' => Below w3.heap.size w3 w') [] 0 [(2, 0), (2, 1), (2, 2), (2, 3), (2, 4), (2, 5), (0, 6), (2, 7), (0, 8), (1, 9), (2, 10), (2, 11)] #[true, true, true, true, true, true, true, true, true, true, true, true] (by kernel_rfl) (by kernel_rfl) (by decide) (by kernel_rfl) (by kernel_rfl) (fun _ _ _ _ _ h => h) (by (exact r3.drew)) (fun hS0 => ?_)
    simp only [List.map_cons, List.map_nil, List.getElem?_toArray, List.getElem?_cons_succ, List.getElem?_cons_zero]
    (iterate 3 ((apply lxP (by rfl); (focus (intro w; go_simp; (try with_reducible rfl); done)); simp only [Act.put, zA41, zB41, zC41]))); (iterate 3 (first | (apply lxP (by rfl); (focus (intro w; go_simp; (try with_reducible rfl); done)); simp only [Act.put, zA41, zB41, zC41]) | (refine lxQ (by rfl) ?_; simp only [Act.put, zA41, zB41, zC41]))); (first | (apply lxT (by rfl); (focus (intro w hw; (try dsimp only at hw); go_simp; (try with_reducible rfl); done)); simp only [Act.put, zA41, zB41, zC41]) | (refine lxS (by rfl) ?_; simp only [Act.put, zA41, zB41, zC41])); (first | (apply lxP (by rfl); (focus (intro w; go_simp; (try with_reducible rfl); done)); simp only [Act.put, zA41, zB41, zC41]) | (refine lxQ (by rfl) ?_; simp only [Act.put, zA41, zB41, zC41])); (first | (apply lxT (by rfl); (focus (intro w hw; (try dsimp only at hw); go_simp; (try with_reducible rfl); done)); simp only [Act.put, zA41, zB41, zC41]) | (refine lxS (by rfl) ?_; simp only [Act.put, zA41, zB41, zC41])); (first | (refine lxE (by rfl) ?_; go_simp; (fail); refine lxB (by (exact r3.drew)) (fun hS1 => ?_)) | (refine lxK (by rfl) (by assumption) ?_; simp only [Act.put, zA41, zB41, zC41])); (first | (apply lxP (by rfl); (focus (intro w; go_simp; (try with_reducible rfl); done)); simp only [Act.put, zA41, zB41, zC41]) | (refine lxQ (by rfl) ?_; simp only [Act.put, zA41, zB41, zC41])); (apply lxP (by rfl); (focus (intro w; go_simp; (try with_reducible rfl); done)); simp only [Act.put, zA41, zB41, zC41])
    refine lxN (fun _ => wqD (by kernel_rfl) ?_ _)
    go_wp2
    go_meet
    exact ⟨true, rfl, hide ⟨fun _ => rfl, fun h => by (cases h)⟩⟩
  case rest =>
  obtain ⟨z, rfl, hz⟩ := hcut
  obtain ⟨w4, rfl⟩ : ∃ x, x = wc := ⟨_, rfl⟩
  go_upto_if 35 with fail
  go_cut [] from 36 to 43 (fun wx => ∃ q6 L6, GP wx nb q6 (G.sna i t sm sb L6 V2 false) ∧ ConG L6 ∧ L6.length ≤ 20 * u ∧ GS w0 wx nb q q6)
  case first =>
   cases z with
   |false =>
    have HF := hide (hz.out.2 rfl)
    clear hz
    go_wp2
    go_meet
    exact HF.out
   |true =>
    obtain rfl := hz.out.1 rfl
    clear hz
    have HNW := hide (fun w' => lg_new (i : Int) (t : Int) w' (by omega) (by omega))
    have x0' := H3.out.2.2.1.rule 0 _ rfl _ r3.drew
    have x1' := H3.out.2.2.1.rule 1 _ rfl _ r3.drew
    go_wp2_with fail
    with_reducible refine (HNW.out _).mono ?_
    rintro e w4 ⟨p, rfl, hl4, hp4, hb4⟩
    have h3d := H3.out.1.below r3.drew
    have b4 := (h3d.below hb4).blk
    have q9 := b4.cell 9
    have f9 := b4.frozen 9
    simp only [Gd.cells, List.getElem?_cons_succ, List.getElem?_cons_zero] at q9
    obtain ⟨w5, hw5⟩ : ∃ w5, w4.setCell ⟨nb, 9, none⟩ (.pointer (some ⟨p, 0, none⟩)) = w5 := ⟨_, rfl⟩
    have c5 : Chg [nb] w4 w5 := by rw [← hw5]; exact (Chg.refl [nb] w4).setCell (p := ⟨nb, 9, none⟩) (Or.inl (by simp)) _
    have b5 := b4.set 9 (.pointer (some ⟨p, 0, none⟩))
    rw [hw5] at b5
    have hnp : nb < w3.drew.heap.size := h3d.blk.lt
    have hl5 := hl4.keep c5 (fun x hx hy => by rw [List.mem_singleton.1 hx] at hy; have := List.mem_singleton.1 hy; omega) (fun x hx => by rw [List.mem_singleton.1 hx]; exact ((h3d.below hb4).hard nb (gt_mem.2 (Or.inl rfl))).notByte)
    have cc : Chg (nb :: q3.Fl) w3.drew w5 := (Chg.of_below hb4).trans c5 (fun x hx => Or.inl (by rw [List.mem_singleton.1 hx]; simp))
    have hff : ∀ x ∈ [p], x ∈ q3.Fl ∨ w3.drew.heap.size ≤ x := fun x hx => Or.inr (by rw [List.mem_singleton.1 hx]; exact hp4)
    have h5 := GP.logT (li := (i : Int)) (lt := (t : Int)) (L' := []) (lb := p) (Fl' := [p]) h3d b5 hl5 cc hff
    have s5 : GS w3 w5 nb q3 _ := (GS.stay r3.drew).trans (GS.fl (lb := p) (Fl' := [p]) cc hff)
    rw [H3.out.2.2.2.2.2.2] at h5
    have HF := hide (And.intro h5 (H3.out.2.1.trans s5))
    have HW5 := hide hw5
    clear hl4 hp4 hb4 h3d b4 c5 b5 hnp hl5 cc hff h5 s5 hw5 x0' x1' HNW
    go_wp2
    (try rw [HW5.out])
    go_meet
    exact ⟨_, _, HF.out.1, (fun c hc => by cases hc), by simp, HF.out.2⟩
  case rest =>
   obtain ⟨q6, L6, h6, hC6, hn6, hs6⟩ := hcut
   obtain ⟨w6, rfl⟩ : ∃ x, x = wc := ⟨_, rfl⟩
   obtain ⟨S, hS⟩ : ∃ S, G.m.si = S := ⟨_, rfl⟩
   have hSb : 0 ≤ S ∧ S ≤ 549755813888 := by rw [← hS]; exact H.out.2.2.1.m.si
   obtain ⟨mn, hmn⟩ : ∃ mn : Int, min (i : Int) la = mn := ⟨_, rfl⟩
   have hmb : mn ≤ S + 20 * u := by have := H.out.2.2.2.2.2.2.2.2.2.1; omega
   have c1 : IntKind.i64.wrap (S + 1) = S + 1 := IntWalk.i64_in _ (by omega)
   have HMN := hide (And.intro hmn (And.intro hmb hSb))
   have hst : Hid (∃ q3 V3 d3, GP w6 nb q3 (G.sna i t sm sb L6 V3 d3) ∧ VltOk V3 (g + 1 + 0) ∧ GS w0 w6 nb q q3) := hide ⟨q6, V2, false, h6, H2.out.2.1, hs6⟩
   have H6 := hide (And.intro hC6 hn6)
   rw [hS]
   clear h6 hC6 hn6 hs6 hmn hmb hSb
   go_wp2
   clear c1
   go_loopw [9, 46, 47, 48, 49, 50, 51, 52, 53, 54, 55, 56, 57] (fun iv _ _ _ _ _ _ _ _ _ _ _ _ wr => ∃ (k : Nat) (z : Int), iv = .int .i64 z ∧ Hid (z = S + 1 + k ∧ (k = 0 ∨ z ≤ mn + 1)) ∧ Hid (∃ q3 V3 d3, GP wr nb q3 (G.sna i t sm sb L6 V3 d3) ∧ VltOk V3 (g + 1 + k) ∧ GS w0 wr nb q q3)) (fun iv _ _ _ _ _ _ _ _ _ _ _ _ _ => (mn - Go.RowKit.intOf iv + 1).toNat)
   case atStart => exact ⟨0, S + 1, rfl, hide ⟨by omega, Or.inl rfl⟩, hst⟩
   case round =>
    obtain ⟨k, z, rfl, hz, hK⟩ := hrel
    obtain ⟨q3, V3, d3, h3, hok3, hs3⟩ := hK.out
    have bX3 := H.out.2.2.2.2.2.2.2.2.2.2.2.1.chg hs3.c H.out.2.2.2.2.2.2.2.2.2.2.2.2.1
    have x0 : wr.cell? ⟨xb, 0, none⟩ = some (.int .i64 i) := bX3.cell 0
    have hmn := HMN.out.1
    by_cases hle : z ≤ mn
    ·have i1 : decide (z ≤ min (i : Int) la) = true := decide_eq_true (by omega)
     obtain ⟨z2, hz2⟩ : ∃ z2, z + 1 = z2 := ⟨_, rfl⟩
     have hzb : 1 ≤ z ∧ z ≤ 549756000000 ∧ k ≤ 17400 := by have := hz.out; have := HMN.out; omega
     have c1 : IntKind.i64.wrap (z + 1) = z2 := by rw [IntWalk.i64_in _ (by omega)]; exact hz2
     have c2 : IntKind.i64.wrap (1000 + z) = 1000 + z := IntWalk.i64_in _ (by omega)
     have HDR := hide (gdrop_calls h3 hok3 (by have := H.out.2.2.2.2.1; omega) (1000 + z) (by unfold i64ok; omega))
     have HI := hide (And.intro hz2 (And.intro hle (And.intro hzb hs3)))
     clear h3 hok3 hs3 hz2 hle hzb hK bX3 hmn
     go_wp2_with fail
     with_reducible refine HDR.out.mono ?_
     rintro e w4 ⟨q4, V4, d4, rfl, h4, hok4, hs4, _⟩
     have H4 : Hid (∃ q3 V3 d3, GP w4 nb q3 (G.sna i t sm sb L6 V3 d3) ∧ VltOk V3 (g + 1 + (k + 1)) ∧ GS w0 w4 nb q q3) := hide ⟨q4, V4, d4, h4, hok4, HI.out.2.2.2.trans hs4⟩
     clear h4 hok4 hs4 HDR x0
     go_wp2
     go_roundw
     case rel => exact ⟨k + 1, z2, rfl, hide (by have := HI.out; have := hz.out; omega), H4⟩
     case measure => have := HI.out; simp [Go.RowKit.intOf]; omega
    ·have i1 : decide (z ≤ min (i : Int) la) = false := decide_eq_false (by omega)
     have hkb : k ≤ 17500 := by have := hz.out; have := HMN.out; omega
     have HF : Hid (GW w wr nb q G u (g + 30000)) := hide ⟨q3, _, h3, H.out.2.2.1.sna (by omega) (by omega) H.out.2.2.2.2.2.2.1 H.out.2.2.2.2.2.2.2.2.1 H6.out.1 H6.out.2, hok3.up (by omega), rfl, Int.le_refl _, Int.le_refl _, (GS.stay H.out.2.1).trans hs3⟩
     clear h3 hok3 hs3 hle hkb hK bX3 hmn
     go_wp2
     go_end0
     exact ⟨rfl, HF.out⟩
end
end Go.Proofs.YteppdlkmjgladaaGreat
