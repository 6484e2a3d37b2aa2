/- One text of: Nl. -/
import Derived.Test.YteppdlkmjgladaaGreatQNC
namespace Go.Proofs.YteppdlkmjgladaaGreat
open Go.RowKit Go.Proofs Go.Maps
set_option linter.unusedVariables false
set_option linter.unusedSimpArgs false
theorem zA27 {α : Type} (l : List α) (i : Nat) (a : α) : l.toArray.setIfInBounds i a = (l.set i a).toArray := by simp
theorem zB27 {α : Type} (x a : α) (l : List α) : (x :: l).set 0 a = a :: l := rfl
theorem zC27 {α : Type} (x a : α) (l : List α) (n : Nat) : (x :: l).set (n + 1) a = x :: l.set n a := rfl

def Nd.still (N : Nd) : Nd := { N with quiet := 0 }
def Nd.wish (N : Nd) : Nd := N.still.keepB (N.bt + 1) N.id
def Nd.cand (N : Nd) : Nd := { N with role := 1, leader := -1, votes := [N.id] }
def Nd.stand (N : Nd) : Nd := if N.wish.dead then N.wish else N.wish.cand.lead
theorem Nd.wish_same (N : Nd) : N.wish.id = N.id ∧ N.wish.bt = N.bt + 1 ∧ N.wish.sm = N.sm ∧ N.wish.L = N.L ∧ N.wish.commit = N.commit ∧ N.wish.next = N.next ∧ N.wish.mat = N.mat := by
 unfold Nd.wish Nd.keepB
 rw [if_neg (by show ¬ (N.bt + 1 = N.bt ∧ _); omega)]
 obtain ⟨h1, h2, h3, h4, h5, h6, h7, _⟩ := (N.still.seeB (N.bt + 1) N.id).put_same 0 (bbytes (N.bt + 1) N.id)
 exact ⟨h1, h2, h3, h4, h5, h6, h7⟩
theorem Solo.wish {N : Nd} (h : Solo N) (hb : N.bt < 2 ^ 57) : Solo N.wish := by
 obtain ⟨h1, h2, h3, h4, h5, h6, _⟩ := N.wish_same
 exact ⟨by rw [h3, h1]; exact h.sm, by rw [h1]; exact h.id, by rw [h4]; exact h.L, by rw [h4]; exact h.n, by rw [h1, h6]; exact h.nx, by rw [h2]; have := h.bt; omega, by rw [h5]; exact h.com⟩
theorem Solo.cand {N : Nd} (h : Solo N) : Solo N.cand := ⟨h.sm, h.id, h.L, h.n, h.nx, h.bt, h.com⟩
section
variable {w w' : World} {nb : Nat} {p : Pl} {Fl Fv : List Nat} {N : Nd}
theorem NP.revote (h : NP w nb p Fl Fv N) (hc : Chg [nb] w w') {A : Option Addr} {c : Nat} {vs : List Int} {role leader : Int} (it : It w' A c vs)
  (hb : Blk w' nb 97 (Nd.cells { N with role := role, leader := leader, votes := vs } { p with Av := A, cv := c })) : NP w' nb { p with Av := A, cv := c } Fl Fv { N with role := role, leader := leader, votes := vs } := by
 have hh : HardL w [nb] := HardL.cons (h.blk.hard (by decide) (by decide)) (fun g hg => by cases hg)
 have hs := h.sep.e
 simp only [List.mem_cons, List.mem_append, not_or] at hs
 exact ⟨hb, h.vlt.chg hc (fun x hx hy => hs.2.2.2 (List.mem_singleton.1 hy ▸ hx)) hh.nob, h.log.keep hc (fun x hx hy => hs.2.2.1 (List.mem_singleton.1 hy ▸ hx)) (fun x hx => (hh x hx).notByte), h.sm.chg hc hh, it, h.nx.chg hc (fun hx => hs.1 (List.mem_singleton.1 hx).symm), h.mx.chg hc (fun hx => hs.2.1 (List.mem_singleton.1 hx).symm), h.sep⟩
set_option maxHeartbeats 4000000 in
set_option maxRecDepth 100000 in
theorem nstand_calls (h : NP w nb p Fl Fv N) (hs : Solo N) (hl : N.L.length ≤ 900) (hbt : N.bt < 2 ^ 57) {g : Nat} (hV : VltOk N.V g) (hg : g + 1 < 2 ^ 60) :
  Calls Tryz.prog 60 #[.pointer (some ⟨nb, 0, none⟩)] w fun e w' => e = .returned (.tuple #[]) ∧ NodeT w w' nb (ft nb p Fl Fv) N.stand ∧ VltOk N.stand.V (g + 2) := by
 obtain ⟨R, hR⟩ : ∃ R, N.stand = R := ⟨_, rfl⟩
 rw [hR]
 unfold Nd.stand at hR
 have HM := hide (hs.mem h)
 have H := hide (And.intro h (And.intro hs (And.intro hl (And.intro hbt (And.intro hV hg)))))
 clear h hs hl hbt hV hg
 go_enter Tryz.func60, Tryz.ntmps60
 go_wp2_with fail
 with_reducible refine HM.out.mono ?_
 rintro e w1 ⟨rfl, hb1⟩
 have h1 := H.out.1.below hb1
 have q15 := h1.blk.cell 15
 have f15 := h1.blk.frozen 15
 simp only [Nd.cells, List.getElem?_cons_succ, List.getElem?_cons_zero] at q15
 obtain ⟨w2, hw2⟩ : ∃ w2, w1.setCell ⟨nb, 15, none⟩ (.int .i64 0) = w2 := ⟨_, rfl⟩
 have c2 : Chg [nb] w1 w2 := by rw [← hw2]; exact (Chg.refl [nb] w1).setCell (p := ⟨nb, 15, none⟩) (Or.inl (by simp)) _
 have b2 := h1.blk.set 15 (.int .i64 0)
 rw [hw2] at b2
 have h2 := h1.own c2 (dead := N.dead) (bt := N.bt) (bv := N.bv) (commit := N.commit) (told := N.told) (role := N.role) (leader := N.leader) (quiet := 0) (beats := N.beats) b2
 rw [show ({ N with quiet := 0 } : Nd) = N.still from rfl] at h2
 have hc02 : Chg (nb :: Fv) w w2 := (Chg.of_below hb1).trans c2 (fun z hz => Or.inl (by rw [List.mem_singleton.1 hz]; simp))
 have r2 := Below.refl w2.heap.size w2
 have HW2 := hide hw2
 have y0 := h2.blk.rule 0 _ rfl
 have y3 := h2.blk.rule 3 _ rfl
 have y4 := h2.blk.rule 4 _ rfl
 rw [show N.still.id = N.id from rfl] at y0
 rw [show N.still.bt = N.bt from rfl] at y3
 rw [show N.still.bv = N.bv from rfl] at y4
 have HCN : Hid (∀ w', Below w2.heap.size w2 w' → Calls Tryz.prog 90 #[.slice p.Am 1 p.cm, .int .i64 N.id] w' fun e w'' => e = .returned (.bool true) ∧ ∃ q, w'' = w'.drewN q) := hide (fun w' hb => by
  have h9 := contains_calls p.Am 1 p.cm [N.id] N.id w' rfl (by omega) (by have := (h2.below hb).sm.sl.rd; rw [show N.still.sm = N.sm from rfl, H.out.2.1.sm] at this; exact this)
  rw [show ([N.id].contains N.id) = true by simp] at h9
  exact h9)
 have HBT := hide (show 0 ≤ N.bt ∧ N.bt < 2 ^ 60 by have := H.out.2.1.bt; omega)
 obtain ⟨dd, hdd⟩ : ∃ dd, N.wish.dead = dd := ⟨_, rfl⟩
 have HKE : Hid (∀ w', Below w2.heap.size w2 w' → Calls Tryz.prog 58 #[.pointer (some ⟨nb, 0, none⟩), .agg #[.int .i64 (N.bt + 1), .int .i64 N.id]] w' fun e w'' => e = .returned (.bool (!dd)) ∧ PutT w' w'' nb p Fl Fv N.wish ∧ VltOk N.wish.V (g + 1)) := hide (fun w' hb => by
  have h9 := nkeep_calls (h2.below hb) (show VltOk N.still.V g from H.out.2.2.2.2.1) (by have := H.out.2.2.2.2.2; omega) (N.bt + 1) N.id (by have := H.out.2.1.bt; omega) (by have := H.out.2.1.id; omega)
  rw [show N.still.keepB (N.bt + 1) N.id = N.wish from rfl, hdd] at h9
  exact h9)
 have HC2 := hide hc02
 have HDD := hide hdd
 rw [hdd] at hR
 clear h1 hb1 c2 b2 h2 hw2 hc02 hdd HM
 go_upto_region 2 with fail
 (try rw [HW2.out])
 clear q15 f15
 refine lxR (fun w' => Below w2.heap.size w2 w') [18] 0 [(2, 0), (2, 1), (2, 2), (2, 3), (0, 4), (1, 5), (2, 6), (2, 7), (2, 8), (2, 9), (2, 10), (2, 11), (0, 12), (2, 13), (2, 14), (2, 15), (0, 16), (1, 17), (3, 18), (2, 19), (2, 20)] #[true, true, true, true, true, true, true, true, true, true, true, true, true, true, true, true, true, true, true, true, true] (by kernel_rfl) (by kernel_rfl) (by decide) (by kernel_rfl) (by kernel_rfl) (fun _ _ _ _ _ h => h) (by (first | exact r2.drew | exact hbc | exact hbd')) (fun hS0 => ?_)
 simp only [List.map_cons, List.map_nil, List.getElem?_toArray, List.getElem?_cons_succ, List.getElem?_cons_zero]
 (iterate 4 ((apply lxP (by rfl); (focus (intro w; go_simp; (try with_reducible rfl); done)); simp only [Act.put, zA27, zB27, zC27]))); (apply lxT (by rfl); (focus (intro w hw; (try dsimp only at hw); go_simp; (try with_reducible rfl); done)); simp only [Act.put, zA27, zB27, zC27]); (refine lxE (by rfl) ?_; go_simp; (first | (go_at_call 90; with_reducible refine (HCN.out _ r2.drew).mono ?_; rintro e wc ⟨rfl, qc, rfl⟩; have hbc := below_drewN r2.drew qc) | (go_at_call 106; with_reducible refine (bstand_calls _ _ _ HBT.out).mono ?_; rintro e wd ⟨rfl, hbd⟩; have hbd' : Below w2.heap.size w2 wd := belowA hbd (below_drewN r2 _)) | (go_at_call 58; with_reducible refine (HKE.out _ hbd').mono ?_; rintro e w5 ⟨rfl, hpt, hok5⟩)); refine lxB (by (first | exact r2.drew | exact hbc | exact hbd')) (fun hS1 => ?_)); (iterate 2 ((apply lxP (by rfl); (focus (intro w; go_simp; (try with_reducible rfl); done)); simp only [Act.put, zA27, zB27, zC27]))); (iterate 4 (first | (apply lxP (by rfl); (focus (intro w; go_simp; (try with_reducible rfl); done)); simp only [Act.put, zA27, zB27, zC27]) | (refine lxQ (by rfl) ?_; simp only [Act.put, zA27, zB27, zC27]))); (first | (apply lxT (by rfl); (focus (intro w hw; (try dsimp only at hw); go_simp; (try with_reducible rfl); done)); simp only [Act.put, zA27, zB27, zC27]) | (refine lxS (by rfl) ?_; simp only [Act.put, zA27, zB27, zC27])); (iterate 3 (first | (apply lxP (by rfl); (focus (intro w; go_simp; (try with_reducible rfl); done)); simp only [Act.put, zA27, zB27, zC27]) | (refine lxQ (by rfl) ?_; simp only [Act.put, zA27, zB27, zC27]))); (first | (apply lxT (by rfl); (focus (intro w hw; (try dsimp only at hw); go_simp; (try with_reducible rfl); done)); simp only [Act.put, zA27, zB27, zC27]) | (refine lxS (by rfl) ?_; simp only [Act.put, zA27, zB27, zC27]))
 (first | (refine lxE (by rfl) ?_; go_simp; (first | (go_at_call 90; with_reducible refine (HCN.out _ r2.drew).mono ?_; rintro e wc ⟨rfl, qc, rfl⟩; have hbc := below_drewN r2.drew qc) | (go_at_call 106; with_reducible refine (bstand_calls _ _ _ HBT.out).mono ?_; rintro e wd ⟨rfl, hbd⟩; have hbd' : Below w2.heap.size w2 wd := belowA hbd (below_drewN r2 _)) | (go_at_call 58; with_reducible refine (HKE.out _ hbd').mono ?_; rintro e w5 ⟨rfl, hpt, hok5⟩)); refine lxB (by (first | exact r2.drew | exact hbc | exact hbd')) (fun hS1 => ?_)) | (refine lxK (by rfl) (by assumption) ?_; simp only [Act.put, zA27, zB27, zC27])); (first | (refine lxF (by rfl) ?_; go_simp; (first | (go_at_call 90; with_reducible refine (HCN.out _ r2.drew).mono ?_; rintro e wc ⟨rfl, qc, rfl⟩; have hbc := below_drewN r2.drew qc) | (go_at_call 106; with_reducible refine (bstand_calls _ _ _ HBT.out).mono ?_; rintro e wd ⟨rfl, hbd⟩; have hbd' : Below w2.heap.size w2 wd := belowA hbd (below_drewN r2 _)) | (go_at_call 58; with_reducible refine (HKE.out _ hbd').mono ?_; rintro e w5 ⟨rfl, hpt, hok5⟩))) | (refine lexg_effskipN (by rfl) ?_; simp only [Act.put, zA27, zB27, zC27])); (first | (apply lxP (by rfl); (focus (intro w; go_simp; (try with_reducible rfl); done)); simp only [Act.put, zA27, zB27, zC27]) | (refine lxQ (by rfl) ?_; simp only [Act.put, zA27, zB27, zC27])); (apply lxP (by rfl); (focus (intro w; go_simp; (try with_reducible rfl); done)); simp only [Act.put, zA27, zB27, zC27])
 refine lxN (fun _ => wqD (by kernel_rfl) ?_ _)
 have hpt5 := PutT.step (HC2.out.below hbd') (fun x hx => Or.inl hx) hpt
 have HPT := hide (And.intro hpt5 hok5)
 clear hpt hpt5 hok5 hbd hbd' hS0 hS1 hbc y0 y3 y4 HKE HCN
 cases dd with
 |true =>
  rw [if_pos rfl] at hR
  subst hR
  go_wp2
  refine bodyPost_ret (results_none rfl _ _ _) rfl ?_
  exact ⟨rfl, HPT.out.1.nodeP.node, HPT.out.2.up (by omega)⟩
 |false =>
  rw [if_neg (by simp)] at hR
  obtain ⟨⟨Fv5, h5, hc5, hF5⟩, hok5⟩ := HPT.out
  obtain ⟨e1, e2, e3, e4, e5, e6, e7⟩ := N.wish_same
  have hs5 := H.out.2.1.wish H.out.2.2.2.1
  obtain ⟨N5, hN5⟩ : ∃ N5, N.wish = N5 := ⟨_, rfl⟩
  rw [hN5] at h5 hok5 e1 e2 e3 e4 e5 e6 e7 hs5 hR
  have q0 := h5.blk.cell 0
  have q13 := h5.blk.cell 13
  have q14 := h5.blk.cell 14
  have q17 := h5.blk.cell 17
  have f13 := h5.blk.frozen 13
  have f14 := h5.blk.frozen 14
  have f17 := h5.blk.frozen 17
  have q9 := h5.blk.cell 9
  simp only [Nd.cells, List.getElem?_cons_succ, List.getElem?_cons_zero] at q0 q13 q14 q17 q9
  rw [e1] at q0
  have hlt5 := h5.blk.lt
  obtain ⟨wS, hwS⟩ : ∃ wS, ((w5.setCell ⟨nb, 13, none⟩ (.int .i64 1)).setCell ⟨nb, 14, none⟩ (.int .i64 (-1))).setCell ⟨nb, 17, none⟩ (.slice (some ⟨w5.heap.size, 0, none⟩) 1 1) = wS := ⟨_, rfl⟩
  have hsz : wS.heap.size = w5.heap.size := by rw [← hwS]; simp
  have bS := ((h5.blk.set 13 (.int .i64 1)).set 14 (.int .i64 (-1))).set 17 (.slice (some ⟨w5.heap.size, 0, none⟩) 1 1)
  have cS : Chg [nb] w5 wS := by rw [← hwS]; exact (((Chg.refl [nb] w5).setCell (p := ⟨nb, 13, none⟩) (Or.inl (by simp)) _).setCell (p := ⟨nb, 14, none⟩) (Or.inl (by simp)) _).setCell (p := ⟨nb, 17, none⟩) (Or.inl (by simp)) _
  rw [hwS] at bS
  obtain ⟨w6, hw6⟩ : ∃ w6, wS.alloc (.cells #[.int .i64 N.id] 3) = w6 := ⟨_, rfl⟩
  have hb6 : Below wS.heap.size wS w6 := hw6 ▸ belowL (Below.refl _ _) _
  have it6 : It w6 (some ⟨w5.heap.size, 0, none⟩) 1 [N.id] := by
   have ho := own_built wS 3 #[.int .i64 N.id] 1 1 rfl (by unfold maxLen; omega)
   rw [hsz, hw6] at ho
   exact OwnI.it (w0 := w5) (l := [N.id]) ⟨ho, fun g hg => by cases hg; exact Nat.le_refl _⟩ (by simp)
  have h6 := h5.revote (cS.below hb6) (role := 1) (leader := -1) it6 (by
   have := bS.below hb6
   exact this)
  have hcd : ({ N5 with role := 1, leader := -1, votes := [N.id] } : Nd) = N5.cand := by unfold Nd.cand; rw [e1]
  rw [hcd] at h6
  obtain ⟨p6, hp6⟩ : ∃ p6, ({ p with Av := some ⟨w5.heap.size, 0, none⟩, cv := 1 } : Pl) = p6 := ⟨_, rfl⟩
  rw [hp6] at h6
  have hft : ∀ Fl' Fv', ft nb p6 Fl' Fv' = ft nb p Fl' Fv' := fun Fl' Fv' => by rw [← hp6]; rfl
  have hcF : Chg (ft nb p Fl Fv) w w6 := ((hc5.mono (fun z hz => Or.inl (ft_mem.2 ((List.mem_cons.1 hz).imp id (fun h => Or.inr (Or.inr (Or.inr h))))))).trans cS (fun z hz => Or.inl (ft_mem.2 (Or.inl (List.mem_singleton.1 hz))))).below hb6
  have y9 : w6.cell? ⟨nb, 9, none⟩ = some (.pointer (some ⟨p.lb, 0, none⟩)) := by have := h6.blk.cell 9; rw [← hp6] at this; exact this
  have hla := lg_last0 h6.log (by have := hs5.n; show N5.L.length ≤ _; omega)
  rw [show p6.lb = p.lb by rw [← hp6]] at hla
  have HLA := hide hla
  have hp6a : p6.Am = p.Am ∧ p6.cm = p.cm := by rw [← hp6]; exact ⟨rfl, rfl⟩
  have HP6 := hide hp6a
  have HW6 := hide (And.intro hwS hw6)
  have H6 := hide (And.intro h6 (And.intro hs5.cand (And.intro hcF (And.intro hok5 (And.intro hF5 hft)))))
  have HE := hide (And.intro e1 e4)
  clear h5 hc5 hF5 hok5 e1 e2 e3 e4 e5 e6 e7 hs5 hsz bS cS hb6 it6 h6 hcd hp6 hft hcF hla hwS hw6 hN5 hp6a
  go_wp2_with fail
  (try rw [HW6.out.1])
  (try rw [HW6.out.2])
  with_reducible refine HLA.out.mono ?_
  rintro e w7 ⟨rfl, q7, rfl⟩
  have hb7 := below_drewN (Below.refl w6.heap.size w6) q7
  obtain ⟨b, o, hAm, hc0⟩ := H6.out.2.1.one (H6.out.1.below hb7)
  rw [HP6.out.1] at hAm
  rw [show N5.cand.id = N5.id from rfl, HE.out.1] at hc0
  rw [hAm]
  have H7 := hide (And.intro hb7 hc0)
  obtain ⟨w7, hw7⟩ : ∃ w7, w6.drewN q7 = w7 := ⟨_, rfl⟩
  rw [hw7] at H7
  rw [hw7]
  clear hb7 hc0 hw7 y9 q0 q13 q14 q17 q9 f13 f14 f17 HLA
  obtain ⟨la, hla⟩ : ∃ la : Int, ((N5.cand.L.length : Nat) : Int) = la := ⟨_, rfl⟩
  obtain ⟨lt, hlt⟩ : ∃ lt : Int, (N5.cand.L.getLast?.map (·.1)).getD 0 = lt := ⟨_, rfl⟩
  rw [hla, hlt]
  clear hla hlt
  go_wp2
  go_loopw [7, 61, 62, 63, 64, 65, 66, 67, 68, 69, 70, 71, 72, 73, 74, 75, 76, 77] (fun _ iv _ _ _ _ _ _ _ _ _ _ _ _ _ _ _ _ wr => ∃ (k : Nat), k ≤ 1 ∧ iv = .int .i64 k ∧ Hid (Below w6.heap.size w6 wr ∧ wr.cell? ⟨b, o + 0, none⟩ = some (.int .i64 N.id))) (fun _ iv _ _ _ _ _ _ _ _ _ _ _ _ _ _ _ _ _ => 1 - (Go.RowKit.intOf iv).toNat)
  case atStart => exact ⟨0, Nat.zero_le _, rfl, hide H7.out⟩
  case round =>
   obtain ⟨k, hk, rfl, hB⟩ := hrel
   have hr := H6.out.1.below hB.out.1
   by_cases hlt : k < 1
   ·have i1 : (k : Int) < 1 := by omega
    have hc' : wr.cell? ⟨b, o + k, none⟩ = some (.int .i64 N.id) := by rw [show k = 0 by omega]; exact hB.out.2
    have y3 : wr.cell? ⟨nb, 3, none⟩ = some (.int .i64 N5.bt) := hr.blk.cell 3
    have hbN := belowL (Below.refl wr.heap.size wr) (.cells #[.int .i64 N5.bt, .int .i64 la, .int .i64 lt] 3)
    have hse := nsend_calls (hr.below hbN) 1 (some ⟨wr.heap.size, 0, none⟩) none none 3 0 0 3 0 0
    rw [show N5.cand.id = N5.id from rfl, HE.out.1] at hse
    have HSE := hide hse
    have HBN := hide hbN
    have HAL := hide (H6.out.2.1.one hr)
    clear hr hse hbN
    go_wp2_with fail
    with_reducible refine HSE.out.mono ?_
    rintro e w8 ⟨rfl, hb8⟩
    have hb68 := belowA hb8 HBN.out
    have hcell : w8.cell? ⟨b, o + 0, none⟩ = some (.int .i64 N.id) := by
     obtain ⟨b', o', h1, h2⟩ := H6.out.2.1.one ((H6.out.1.below hB.out.1).below hb68)
     rw [HP6.out.1, hAm] at h1
     cases h1
     rw [show N5.cand.id = N5.id from rfl, HE.out.1] at h2
     exact h2
    have H8 := hide (And.intro (belowA hb68 hB.out.1) hcell)
    clear hb8 hb68 hcell HSE y3 hc'
    go_wp2
    go_roundw
    case rel => exact ⟨k + 1, by omega, by go_num, hide H8.out⟩
    case measure => simp [Go.RowKit.intOf]; omega
   ·have i1 : ¬ (k : Int) < 1 := by omega
    have HCO := hide (ncount_calls hr H6.out.2.1 (by have := H.out.2.2.1; show N5.L.length ≤ _; rw [HE.out.2]; omega) rfl rfl H6.out.2.2.2.1 (by have := H.out.2.2.2.2.2; omega))
    clear hr
    go_wp2_with fail
    with_reducible refine HCO.out.mono ?_
    rintro e w9 ⟨rfl, hn9, hok9⟩
    have hcr := H6.out.2.2.1.below hB.out.1
    rw [H6.out.2.2.2.2.2] at hn9
    have HF := hide (And.intro (NodeT.step hcr (ft_step (fun x hx => Or.inl hx) (fun x hx => H6.out.2.2.2.2.1 x hx)) hn9) hok9)
    have HR := hide hR
    clear hn9 hok9 hcr HCO hR
    go_wp2
    go_end0
    obtain rfl := HR.out
    exact ⟨rfl, HF.out⟩
end
end Go.Proofs.YteppdlkmjgladaaGreat
