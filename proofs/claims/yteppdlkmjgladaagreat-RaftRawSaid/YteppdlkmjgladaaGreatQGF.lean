/- One text of: Gq Gr. -/
import Derived.Test.YteppdlkmjgladaaGreatQGp
namespace Go.Proofs.YteppdlkmjgladaaGreat
open Go.RowKit Go.Proofs Go.Maps
set_option linter.unusedVariables false
set_option linter.unusedSimpArgs false
theorem zA38 {α : Type} (l : List α) (i : Nat) (a : α) : l.toArray.setIfInBounds i a = (l.set i a).toArray := by simp
theorem zB38 {α : Type} (x a : α) (l : List α) : (x :: l).set 0 a = a :: l := rfl
theorem zC38 {α : Type} (x a : α) (l : List α) (n : Nat) : (x :: l).set (n + 1) a = x :: l.set n a := rfl

section
variable {W w w' w1 w2 : World} {nb u j g : Nat} {q q1 q' : Gl} {G G1 : Gd} {b o : Nat} {N : List Int}
theorem GP.nxR (h : GP w nb q G) {k v : Int} (hk : i64ok k) (hv : (G.m.next k).getD 0 = v) : ∀ w', Below w.heap.size w w' → (Instr.lookup 91 (.map (some q.nx)) (.int .i64 k) false).run Tryz.prog w' = .ok (.int .i64 v) w' := fun w' hb => by
 have := (h.below hb).nx.look hk
 rw [hv] at this
 exact this
theorem GP.mxR (h : GP w nb q G) {k v : Int} (hk : i64ok k) (hv : (G.m.mat k).getD 0 = v) : ∀ w', Below w.heap.size w w' → (Instr.lookup 91 (.map (some q.mx)) (.int .i64 k) false).run Tryz.prog w' = .ok (.int .i64 v) w' := fun w' hb => by
 have := (h.below hb).mx.look hk
 rw [hv] at this
 exact this
set_option maxHeartbeats 4000000 in
set_option maxRecDepth 100000 in
theorem gappOk_calls (h : GP w nb q G) (hA : GA W w nb q) (hi : GI u G) (hu : u ≤ 880) (hV : VltOk G.m.V g) (fr : Int) (hfr : 0 ≤ fr ∧ fr ≤ 15) (k n0 n1 n2 : Int) (hn2 : 0 ≤ n2 ∧ n2 ≤ 549755813888) (hn : NU W b o [n0, n1, n2]) (c1 : Nat) (A2 A3 : Option Addr) (m2 m3 c2 c3 : Nat) :
  Calls Tryz.prog 54 #[.pointer (some ⟨nb, 0, none⟩), .int .i64 fr, .agg #[.int .i64 k, .slice (some ⟨b, o, none⟩) 3 c1, .slice A2 m2 c2, .slice A3 m3 c3]] w fun e w' => e = .returned (.tuple #[]) ∧ GW w w' nb q G (u + 5) g := by
 obtain ⟨w0, hw0⟩ : ∃ w0, w.alloc (.cells #[.int .i64 k, .slice (some ⟨b, o, none⟩) 3 c1, .slice A2 m2 c2, .slice A3 m3 c3] 52) = w0 := ⟨_, rfl⟩
 obtain ⟨xb, hxb⟩ : ∃ xb, w.heap.size = xb := ⟨_, rfl⟩
 have hb0 : Below w.heap.size w w0 := hw0 ▸ belowL (Below.refl _ _) _
 have bX : Blk w0 xb 52 [.int .i64 k, .slice (some ⟨b, o, none⟩) 3 c1, .slice A2 m2 c2, .slice A3 m3 c3] := by rw [← hw0, ← hxb]; exact Blk.new rfl
 have h0 := h.below hb0
 have r0 := Below.refl w0.heap.size w0
 have x1 := bX.rule 1 _ rfl
 have y3 := h0.blk.rule 3 _ rfl
 have y13 := h0.blk.rule 13 _ rfl
 have hA0 := (hA.low hb0).be
 have p0 : ∀ w', Below w0.heap.size w0 w' → w'.cell? ⟨b, o, none⟩ = some (.int .i64 n0) := fun w' hb => hn.at_ hA0 hb 0 rfl
 have HW := hide (And.intro hw0 hxb)
 have HST : Hid (∀ w', Below w0.heap.size w0 w' → GW w w' nb q G (u + 5) g) := hide (fun w' hb => GW.stay h (hi.up (show u ≤ u + 5 by omega)) hV (belowA hb hb0))
 have H := hide (And.intro h0 (And.intro hb0 (And.intro hi (And.intro hV (And.intro hfr (And.intro hn2 (And.intro hn (And.intro hA0 bX))))))))
 clear h h0 hA hi hV hfr hn hn2 hb0 bX hA0 hw0 hxb
 rcases (show G.role ≠ 2 ∨ (G.role = 2 ∧ n0 ≠ G.bt) ∨ (G.role = 2 ∧ n0 = G.bt) by omega) with hc | hc | hc
 ·have u1 : (G.role != 2) = true := by simpa using hc
  clear hc
  go_enter Tryz.func54, Tryz.ntmps54
  go_upto_region 1 with fail
  (try rw [HW.out.1])
  (try rw [HW.out.2])
  refine lxR (fun w' => Below w0.heap.size w0 w') [] 0 [(2, 0), (2, 1), (2, 2), (0, 3), (2, 4), (2, 5), (2, 6), (0, 7), (2, 8), (0, 9), (2, 10), (2, 11), (2, 12), (2, 13), (0, 14), (2, 15), (2, 16)] #[true, true, true, true, true, true, true, true, true, true, true, true, true, true, true, true, true] (by kernel_rfl) (by kernel_rfl) (by decide) (by kernel_rfl) (by kernel_rfl) (fun _ _ _ _ _ h => h) (by (exact r0.drew)) (fun hS0 => ?_)
  simp only [List.map_cons, List.map_nil, List.getElem?_toArray, List.getElem?_cons_succ, List.getElem?_cons_zero]
  (iterate 3 ((apply lxP (by rfl); (focus (intro w; go_simp; (try with_reducible rfl); done)); simp only [Act.put, zA38, zB38, zC38]))); (apply lxT (by rfl); (focus (intro w hw; (try dsimp only at hw); go_simp; (try with_reducible rfl); done)); simp only [Act.put, zA38, zB38, zC38]); (iterate 2 ((apply lxP (by rfl); (focus (intro w; go_simp; (try with_reducible rfl); done)); simp only [Act.put, zA38, zB38, zC38]))); (first | (apply lxP (by rfl); (focus (intro w; go_simp; (try with_reducible rfl); done)); simp only [Act.put, zA38, zB38, zC38]) | (refine lxQ (by rfl) ?_; simp only [Act.put, zA38, zB38, zC38])); (first | (apply lxT (by rfl); (focus (intro w hw; (try dsimp only at hw); go_simp; (try with_reducible rfl); done)); simp only [Act.put, zA38, zB38, zC38]) | (refine lxS (by rfl) ?_; simp only [Act.put, zA38, zB38, zC38])); (first | (apply lxP (by rfl); (focus (intro w; go_simp; (try with_reducible rfl); done)); simp only [Act.put, zA38, zB38, zC38]) | (refine lxQ (by rfl) ?_; simp only [Act.put, zA38, zB38, zC38])); (first | (apply lxT (by rfl); (focus (intro w hw; (try dsimp only at hw); go_simp; (try with_reducible rfl); done)); simp only [Act.put, zA38, zB38, zC38]) | (refine lxS (by rfl) ?_; simp only [Act.put, zA38, zB38, zC38])); (iterate 4 (first | (apply lxP (by rfl); (focus (intro w; go_simp; (try with_reducible rfl); done)); simp only [Act.put, zA38, zB38, zC38]) | (refine lxQ (by rfl) ?_; simp only [Act.put, zA38, zB38, zC38]))); (first | (apply lxT (by rfl); (focus (intro w hw; (try dsimp only at hw); go_simp; (try with_reducible rfl); done)); simp only [Act.put, zA38, zB38, zC38]) | (refine lxS (by rfl) ?_; simp only [Act.put, zA38, zB38, zC38])); (first | (apply lxP (by rfl); (focus (intro w; go_simp; (try with_reducible rfl); done)); simp only [Act.put, zA38, zB38, zC38]) | (refine lxQ (by rfl) ?_; simp only [Act.put, zA38, zB38, zC38]))
  (apply lxP (by rfl); (focus (intro w; go_simp; (try with_reducible rfl); done)); simp only [Act.put, zA38, zB38, zC38])
  refine lxN (fun _ => wqD (by kernel_rfl) ?_ _)
  go_wp2
  refine bodyPost_ret (results_none rfl _ _ _) rfl ?_
  exact ⟨rfl, HST.out _ r0.drew⟩
 ·have u1 : (G.role != 2) = false := by simp [hc.1]
  have u2 : (n0 != G.bt) = true := by simpa using hc.2
  clear hc
  go_enter Tryz.func54, Tryz.ntmps54
  go_upto_region 1 with fail
  (try rw [HW.out.1])
  (try rw [HW.out.2])
  refine lxR (fun w' => Below w0.heap.size w0 w') [] 0 [(2, 0), (2, 1), (2, 2), (0, 3), (2, 4), (2, 5), (2, 6), (0, 7), (2, 8), (0, 9), (2, 10), (2, 11), (2, 12), (2, 13), (0, 14), (2, 15), (2, 16)] #[true, true, true, true, true, true, true, true, true, true, true, true, true, true, true, true, true] (by kernel_rfl) (by kernel_rfl) (by decide) (by kernel_rfl) (by kernel_rfl) (fun _ _ _ _ _ h => h) (by (exact r0.drew)) (fun hS0 => ?_)
  simp only [List.map_cons, List.map_nil, List.getElem?_toArray, List.getElem?_cons_succ, List.getElem?_cons_zero]
  (iterate 3 ((apply lxP (by rfl); (focus (intro w; go_simp; (try with_reducible rfl); done)); simp only [Act.put, zA38, zB38, zC38]))); (apply lxT (by rfl); (focus (intro w hw; (try dsimp only at hw); go_simp; (try with_reducible rfl); done)); simp only [Act.put, zA38, zB38, zC38]); (iterate 2 ((apply lxP (by rfl); (focus (intro w; go_simp; (try with_reducible rfl); done)); simp only [Act.put, zA38, zB38, zC38]))); (first | (apply lxP (by rfl); (focus (intro w; go_simp; (try with_reducible rfl); done)); simp only [Act.put, zA38, zB38, zC38]) | (refine lxQ (by rfl) ?_; simp only [Act.put, zA38, zB38, zC38])); (first | (apply lxT (by rfl); (focus (intro w hw; (try dsimp only at hw); go_simp; (try with_reducible rfl); done)); simp only [Act.put, zA38, zB38, zC38]) | (refine lxS (by rfl) ?_; simp only [Act.put, zA38, zB38, zC38])); (first | (apply lxP (by rfl); (focus (intro w; go_simp; (try with_reducible rfl); done)); simp only [Act.put, zA38, zB38, zC38]) | (refine lxQ (by rfl) ?_; simp only [Act.put, zA38, zB38, zC38])); (first | (apply lxT (by rfl); (focus (intro w hw; (try dsimp only at hw); go_simp; (try with_reducible rfl); done)); simp only [Act.put, zA38, zB38, zC38]) | (refine lxS (by rfl) ?_; simp only [Act.put, zA38, zB38, zC38])); (iterate 4 (first | (apply lxP (by rfl); (focus (intro w; go_simp; (try with_reducible rfl); done)); simp only [Act.put, zA38, zB38, zC38]) | (refine lxQ (by rfl) ?_; simp only [Act.put, zA38, zB38, zC38]))); (first | (apply lxT (by rfl); (focus (intro w hw; (try dsimp only at hw); go_simp; (try with_reducible rfl); done)); simp only [Act.put, zA38, zB38, zC38]) | (refine lxS (by rfl) ?_; simp only [Act.put, zA38, zB38, zC38])); (first | (apply lxP (by rfl); (focus (intro w; go_simp; (try with_reducible rfl); done)); simp only [Act.put, zA38, zB38, zC38]) | (refine lxQ (by rfl) ?_; simp only [Act.put, zA38, zB38, zC38]))
  (apply lxP (by rfl); (focus (intro w; go_simp; (try with_reducible rfl); done)); simp only [Act.put, zA38, zB38, zC38])
  refine lxN (fun _ => wqD (by kernel_rfl) ?_ _)
  go_wp2
  refine bodyPost_ret (results_none rfl _ _ _) rfl ?_
  exact ⟨rfl, HST.out _ r0.drew⟩
 ·have u1 : (G.role != 2) = false := by simp [hc.1]
  have u2 : (n0 != G.bt) = false := by simp [hc.2]
  clear hc
  go_enter Tryz.func54, Tryz.ntmps54
  go_upto_region 1 with fail
  (try rw [HW.out.1])
  (try rw [HW.out.2])
  refine lxR (fun w' => Below w0.heap.size w0 w') [] 0 [(2, 0), (2, 1), (2, 2), (0, 3), (2, 4), (2, 5), (2, 6), (0, 7), (2, 8), (0, 9), (2, 10), (2, 11), (2, 12), (2, 13), (0, 14), (2, 15), (2, 16)] #[true, true, true, true, true, true, true, true, true, true, true, true, true, true, true, true, true] (by kernel_rfl) (by kernel_rfl) (by decide) (by kernel_rfl) (by kernel_rfl) (fun _ _ _ _ _ h => h) (by (exact r0.drew)) (fun hS0 => ?_)
  simp only [List.map_cons, List.map_nil, List.getElem?_toArray, List.getElem?_cons_succ, List.getElem?_cons_zero]
  (iterate 3 ((apply lxP (by rfl); (focus (intro w; go_simp; (try with_reducible rfl); done)); simp only [Act.put, zA38, zB38, zC38]))); (apply lxT (by rfl); (focus (intro w hw; (try dsimp only at hw); go_simp; (try with_reducible rfl); done)); simp only [Act.put, zA38, zB38, zC38]); (iterate 2 ((apply lxP (by rfl); (focus (intro w; go_simp; (try with_reducible rfl); done)); simp only [Act.put, zA38, zB38, zC38]))); (first | (apply lxP (by rfl); (focus (intro w; go_simp; (try with_reducible rfl); done)); simp only [Act.put, zA38, zB38, zC38]) | (refine lxQ (by rfl) ?_; simp only [Act.put, zA38, zB38, zC38])); (first | (apply lxT (by rfl); (focus (intro w hw; (try dsimp only at hw); go_simp; (try with_reducible rfl); done)); simp only [Act.put, zA38, zB38, zC38]) | (refine lxS (by rfl) ?_; simp only [Act.put, zA38, zB38, zC38])); (first | (apply lxP (by rfl); (focus (intro w; go_simp; (try with_reducible rfl); done)); simp only [Act.put, zA38, zB38, zC38]) | (refine lxQ (by rfl) ?_; simp only [Act.put, zA38, zB38, zC38])); (first | (apply lxT (by rfl); (focus (intro w hw; (try dsimp only at hw); go_simp; (try with_reducible rfl); done)); simp only [Act.put, zA38, zB38, zC38]) | (refine lxS (by rfl) ?_; simp only [Act.put, zA38, zB38, zC38])); (iterate 4 (first | (apply lxP (by rfl); (focus (intro w; go_simp; (try with_reducible rfl); done)); simp only [Act.put, zA38, zB38, zC38]) | (refine lxQ (by rfl) ?_; simp only [Act.put, zA38, zB38, zC38]))); (first | (apply lxT (by rfl); (focus (intro w hw; (try dsimp only at hw); go_simp; (try with_reducible rfl); done)); simp only [Act.put, zA38, zB38, zC38]) | (refine lxS (by rfl) ?_; simp only [Act.put, zA38, zB38, zC38])); (first | (apply lxP (by rfl); (focus (intro w; go_simp; (try with_reducible rfl); done)); simp only [Act.put, zA38, zB38, zC38]) | (refine lxQ (by rfl) ?_; simp only [Act.put, zA38, zB38, zC38]))
  (apply lxP (by rfl); (focus (intro w; go_simp; (try with_reducible rfl); done)); simp only [Act.put, zA38, zB38, zC38])
  refine lxN (fun _ => wqD (by kernel_rfl) ?_ _)
  obtain ⟨w2, hw2⟩ : ∃ w2, w0.drew = w2 := ⟨_, rfl⟩
  obtain ⟨h0, hb0, hi, hV, hfr, hn2, hn, hA0, bX⟩ := H.out
  have h2 := h0.below r0.drew
  have hb2 := belowA r0.drew hb0
  have bX2 := bX.below r0.drew
  have hA2 : Below W.heap.size W w0.drew := hA0.trans (r0.drew.mono hA0.size)
  rw [hw2] at h2 hb2 bX2 hA2 ⊢
  have hla := lg_last h2.log (by rw [hi.m.li]; exact hi.m.si.1) (by rw [hi.m.li]; have := hi.m.si.2; omega) (by have := hi.m.n; omega)
  obtain ⟨la, hlae⟩ : ∃ la : Int, G.m.li + (G.m.L.length : Int) = la := ⟨_, rfl⟩
  obtain ⟨lt, hlte⟩ : ∃ lt : Int, (G.m.L.getLast?.map (·.1)).getD G.m.lt = lt := ⟨_, rfl⟩
  rw [hlae, hlte] at hla
  have hlb : 0 ≤ la ∧ la ≤ 549755913888 := by have := hi.m.si; have := hi.m.li; have := hi.m.n; omega
  have HLA := hide hla
  have y9 : w2.cell? ⟨nb, 9, none⟩ = some (.pointer (some ⟨q.lb, 0, none⟩)) := h2.blk.cell 9
  have H2 := hide (And.intro h2 (And.intro hb2 (And.intro hi (And.intro hV (And.intro hfr (And.intro hn2 (And.intro hn (And.intro hA2 (And.intro bX2 hlb)))))))))
  clear h0 hb0 hi hV hfr hn2 hn hA0 bX h2 hb2 bX2 hA2 hlb hla hlae hlte hw2 x1 y3 y13 p0 hS0 r0 HW H HST
  go_wp2_with fail
  with_reducible refine HLA.out.mono ?_
  rintro e w3 ⟨rfl, q3, rfl⟩
  have hb3 := below_drewN (Below.refl w2.heap.size w2) q3
  obtain ⟨w3, hw3⟩ : ∃ w3, w2.drewN q3 = w3 := ⟨_, rfl⟩
  rw [hw3] at hb3 ⊢
  obtain ⟨h2, hb2, hi, hV, hfr, hn2, hn, hA2, bX2, hlb⟩ := H2.out
  have h3 := h2.below hb3
  have hb03 := belowA hb3 hb2
  have bX3 := bX2.below hb3
  have hA3 : Below W.heap.size W w3 := hA2.trans (hb3.mono hA2.size)
  have x1 := bX3.cell 1
  simp only [List.getElem?_cons_succ, List.getElem?_cons_zero] at x1
  have p1 := hn.one hA3 1 rfl
  have p2 := hn.one hA3 2 rfl
  obtain ⟨i, hie⟩ : ∃ i, min n2 la = i := ⟨_, rfl⟩
  have hib : 0 ≤ i ∧ i ≤ 549755913888 := by omega
  have H3 := hide (And.intro h3 (And.intro hb03 (And.intro hi (And.intro hV (And.intro hfr (And.intro hlb hib))))))
  have HIE := hide hie
  clear h2 hb2 hi hV hfr hn2 hn hA2 bX2 hlb h3 hb03 bX3 hA3 hib hie hb3 hw3 y9 HLA
  by_cases h10 : n1 = 0
  ·have u3 : (n1 == 0) = true := by simp [h10]
   clear h10
   go_upto_region 5 with fail
   rw [HIE.out]
   clear x1 p1 p2 HIE
   obtain ⟨h3, hb03, hi, hV, hfr, hlb, hib⟩ := H3.out
   obtain ⟨v, hv⟩ : ∃ v, (G.m.next fr).getD 0 = v := ⟨_, rfl⟩
   have hvb := hi.m.next fr
   rw [hv] at hvb
   have hlk := h3.nxR (k := fr) (by unfold i64ok; omega) hv
   have z14 := h3.blk.rule 18 _ rfl
   have r3 := Below.refl w3.heap.size w3
   have e1 : IntKind.i64.wrap (v - 1) = v - 1 := IntWalk.i64_in _ (by omega)
   have e2 : IntKind.i64.wrap (i + 1) = i + 1 := IntWalk.i64_in _ (by omega)
   have HMX := hide (h3.nx.chg (L := []) (Chg.of_below r3.drew) (by simp))
   have HID := hide (And.intro hfr (show i64ok (max (min (v - 1) (i + 1)) 1) by unfold i64ok; omega))
   have HF := hide (And.intro (fewI.upd hi.m.next (show 0 ≤ max (min (v - 1) (i + 1)) 1 ∧ max (min (v - 1) (i + 1)) 1 ≤ 2199023255552 by omega) : fewI (upd G.m.next fr (some (max (min (v - 1) (i + 1)) 1)))) (h3.below r3.drew))
   clear h3 hb03 hi hV hfr hlb hib hv hvb
   refine lxR (fun w' => Below w3.heap.size w3 w') [16] 0 [(2, 0), (2, 1), (2, 2), (0, 3), (2, 4), (2, 5), (2, 6), (2, 7), (0, 8), (2, 9), (0, 10), (2, 11), (2, 12), (2, 13), (2, 14), (2, 15), (3, 16)] #[true, true, true, true, true, true, true, true, true, true, true, true, true, true, true, true, true] (by kernel_rfl) (by kernel_rfl) (by decide) (by kernel_rfl) (by kernel_rfl) (fun _ _ _ _ _ h => h) (by (exact r3.drew)) (fun hS0 => ?_)
   simp only [List.map_cons, List.map_nil, List.getElem?_toArray, List.getElem?_cons_succ, List.getElem?_cons_zero]
   (iterate 3 ((apply lxP (by rfl); (focus (intro w; go_simp; (try with_reducible rfl); done)); simp only [Act.put, zA38, zB38, zC38]))); (apply lxT (by rfl); (focus (intro w hw; (try dsimp only at hw); go_simp; (try with_reducible rfl); done)); simp only [Act.put, zA38, zB38, zC38]); (iterate 4 ((apply lxP (by rfl); (focus (intro w; go_simp; (try with_reducible rfl); done)); simp only [Act.put, zA38, zB38, zC38]))); (apply lxT (by rfl); (focus (intro w hw; (try dsimp only at hw); go_simp; (try with_reducible rfl); done)); simp only [Act.put, zA38, zB38, zC38]); (apply lxP (by rfl); (focus (intro w; go_simp; (try with_reducible rfl); done)); simp only [Act.put, zA38, zB38, zC38]); (apply lxT (by rfl); (focus (intro w hw; (try dsimp only at hw); go_simp; (try with_reducible rfl); done)); simp only [Act.put, zA38, zB38, zC38]); (iterate 5 ((apply lxP (by rfl); (focus (intro w; go_simp; (try with_reducible rfl); done)); simp only [Act.put, zA38, zB38, zC38]))); (refine lxF (by rfl) ?_; (refine IM.wp_putR _ _ _ rfl rfl rfl rfl HMX.out HID.out.1 HID.out.2 ?_; intro w5 hm5 hc5); simp only [Act.put])
   refine lxN (fun _ => wqD (by kernel_rfl) ?_ _)
   have h5 := HF.out.2.nextT hm5 hc5
   obtain ⟨f, hf⟩ : ∃ f, upd G.m.next fr (some (max (min (v - 1) (i + 1)) 1)) = f := ⟨_, rfl⟩
   rw [hf] at h5
   have hff : fewI f := by rw [← hf]; exact HF.out.1
   have hi := H3.out.2.2.1
   have hi5 : GI (u + 1) (G.nxt f G.m.on) := hi.nxt hff (by omega)
   have hs5 : GS w w5 nb q q := ((GS.stay (nb := nb) (q := q) H3.out.2.1).trans (GS.stay r3.drew)).trans (GS.nxS hc5)
   have HHA := hide (ghand_calls (show GP w5 nb q (G.nxt f G.m.on) from h5) hi5.m (by omega) fr H3.out.2.2.2.2.1 hi5.bt)
   have H5 := hide (And.intro hi5 hs5)
   clear h5 hf hff hi hi5 hs5 hm5 hc5 hlk z14 r3 e1 e2 HMX HID HF hS0
   go_wp2_with fail
   with_reducible refine HHA.out.mono ?_
   rintro e w6 ⟨rfl, q6, f6, n6, h6, hf6, hn6, hs6⟩
   have HF : Hid (GW w w6 nb q G (u + 5) g) := hide ⟨q6, _, h6, (H5.out.1.nxt hf6 (n := n6) (by omega)).up (by omega), H3.out.2.2.2.1, rfl, Int.le_refl _, Int.le_refl _, H5.out.2.trans hs6⟩
   clear h6 hf6 hn6 hs6 HHA
   go_wp2
   refine bodyPost_ret (results_none rfl _ _ _) rfl ?_
   exact ⟨rfl, HF.out⟩
  ·have u3 : (n1 == 0) = false := by simpa using h10
   clear h10
   go_upto_region 7 with fail
   rw [HIE.out]
   clear x1 p1 p2 HIE
   obtain ⟨h3, hb03, hi, hV, hfr, hlb, hib⟩ := H3.out
   obtain ⟨v, hv⟩ : ∃ v, (G.m.mat fr).getD 0 = v := ⟨_, rfl⟩
   have hvb := hi.m.mat fr
   rw [hv] at hvb
   have hlk := h3.mxR (k := fr) (by unfold i64ok; omega) hv
   have z14 := h3.blk.rule 19 _ rfl
   have r3 := Below.refl w3.heap.size w3
   have HMX := hide (h3.mx.chg (L := []) (Chg.of_below r3.drew) (by simp))
   have HID := hide (And.intro hfr (show i64ok (max v i) by unfold i64ok; omega))
   have HF := hide (And.intro (fewI.upd hi.m.mat (show 0 ≤ max v i ∧ max v i ≤ 2199023255552 by omega) : fewI (upd G.m.mat fr (some (max v i)))) (h3.below r3.drew))
   clear h3 hb03 hi hV hfr hlb hib hv hvb
   refine lxR (fun w' => Below w3.heap.size w3 w') [13] 0 [(2, 0), (2, 1), (2, 2), (0, 3), (2, 4), (2, 5), (2, 6), (2, 7), (0, 8), (2, 9), (0, 10), (2, 11), (2, 12), (3, 13)] #[true, true, true, true, true, true, true, true, true, true, true, true, true, true] (by kernel_rfl) (by kernel_rfl) (by decide) (by kernel_rfl) (by kernel_rfl) (fun _ _ _ _ _ h => h) (by (exact r3.drew)) (fun hS0 => ?_)
   simp only [List.map_cons, List.map_nil, List.getElem?_toArray, List.getElem?_cons_succ, List.getElem?_cons_zero]
   (iterate 3 ((apply lxP (by rfl); (focus (intro w; go_simp; (try with_reducible rfl); done)); simp only [Act.put, zA38, zB38, zC38]))); (apply lxT (by rfl); (focus (intro w hw; (try dsimp only at hw); go_simp; (try with_reducible rfl); done)); simp only [Act.put, zA38, zB38, zC38]); (iterate 4 ((apply lxP (by rfl); (focus (intro w; go_simp; (try with_reducible rfl); done)); simp only [Act.put, zA38, zB38, zC38]))); (apply lxT (by rfl); (focus (intro w hw; (try dsimp only at hw); go_simp; (try with_reducible rfl); done)); simp only [Act.put, zA38, zB38, zC38]); (apply lxP (by rfl); (focus (intro w; go_simp; (try with_reducible rfl); done)); simp only [Act.put, zA38, zB38, zC38]); (apply lxT (by rfl); (focus (intro w hw; (try dsimp only at hw); go_simp; (try with_reducible rfl); done)); simp only [Act.put, zA38, zB38, zC38]); (iterate 2 ((apply lxP (by rfl); (focus (intro w; go_simp; (try with_reducible rfl); done)); simp only [Act.put, zA38, zB38, zC38]))); (refine lxF (by rfl) ?_; (refine IM.wp_putR _ _ _ rfl rfl rfl rfl HMX.out HID.out.1 HID.out.2 ?_; intro w5 hm5 hc5); simp only [Act.put])
   refine lxN (fun _ => wqD (by kernel_rfl) ?_ _)
   have h5 := HF.out.2.matT hm5 hc5
   obtain ⟨f, hf⟩ : ∃ f, upd G.m.mat fr (some (max v i)) = f := ⟨_, rfl⟩
   rw [hf] at h5
   have hff : fewI f := by rw [← hf]; exact HF.out.1
   have hi := H3.out.2.2.1
   obtain ⟨G5, hG5⟩ : ∃ G5, ({ G with m := { G.m with mat := f } } : Gd) = G5 := ⟨_, rfl⟩
   have hi5 : GI u G5 := by rw [← hG5]; exact ⟨hi.id, hi.bt, hi.bv, hi.com, hi.told, hi.quiet, hi.beats, ⟨hi.m.si, hi.m.st, hi.m.li, hi.m.lt, hi.m.sm, hi.m.sb, hi.m.L, hi.m.n, hi.m.votes, hi.m.next, hff, hi.m.on⟩⟩
   have he5 : G5.id = G.id ∧ G5.bt = G.bt ∧ G5.commit = G.commit ∧ G5.m.V = G.m.V := by rw [← hG5]; exact ⟨rfl, rfl, rfl, rfl⟩
   rw [hG5] at h5
   have hs5 : GS w w5 nb q q := ((GS.stay (nb := nb) (q := q) H3.out.2.1).trans (GS.stay r3.drew)).trans (GS.mxS hc5)
   have H5 := hide (And.intro h5 (And.intro hi5 (And.intro he5 hs5)))
   clear hf hff hi hG5 hm5 hc5 hlk z14 r3 HMX HID HF hS0
   obtain ⟨x, hx⟩ : ∃ x, (G5.m.next fr).getD 0 = x := ⟨_, rfl⟩
   have hxb := hi5.m.next fr
   rw [hx] at hxb
   obtain ⟨hfr, hlb, hib⟩ := H3.out.2.2.2.2
   have hlk := h5.nxR (k := fr) (by unfold i64ok; omega) hx
   have z15 := h5.blk.rule 18 _ rfl
   have r5 := Below.refl w5.heap.size w5
   have e2 : IntKind.i64.wrap (i + 1) = i + 1 := IntWalk.i64_in _ (by omega)
   have HMX := hide (h5.nx.chg (L := []) (Chg.of_below r5.drew) (by simp))
   have HID := hide (And.intro hfr (show i64ok (max x (i + 1)) by unfold i64ok; omega))
   have HF := hide (And.intro (fewI.upd hi5.m.next (show 0 ≤ max x (i + 1) ∧ max x (i + 1) ≤ 2199023255552 by omega) : fewI (upd G5.m.next fr (some (max x (i + 1))))) (h5.below r5.drew))
   clear h5 hi5 he5 hs5 hfr hlb hib hx hxb
   go_upto_region 8 with fail
   refine lxR (fun w' => Below w5.heap.size w5 w') [14] 0 [(2, 0), (2, 1), (2, 2), (0, 3), (2, 4), (2, 5), (2, 6), (2, 7), (0, 8), (2, 9), (0, 10), (2, 11), (2, 12), (2, 13), (3, 14)] #[true, true, true, true, true, true, true, true, true, true, true, true, true, true, true] (by kernel_rfl) (by kernel_rfl) (by decide) (by kernel_rfl) (by kernel_rfl) (fun _ _ _ _ _ h => h) (by (exact r5.drew)) (fun hS0 => ?_)
   simp only [List.map_cons, List.map_nil, List.getElem?_toArray, List.getElem?_cons_succ, List.getElem?_cons_zero]
   (iterate 3 ((apply lxP (by rfl); (focus (intro w; go_simp; (try with_reducible rfl); done)); simp only [Act.put, zA38, zB38, zC38]))); (apply lxT (by rfl); (focus (intro w hw; (try dsimp only at hw); go_simp; (try with_reducible rfl); done)); simp only [Act.put, zA38, zB38, zC38]); (iterate 4 ((apply lxP (by rfl); (focus (intro w; go_simp; (try with_reducible rfl); done)); simp only [Act.put, zA38, zB38, zC38]))); (apply lxT (by rfl); (focus (intro w hw; (try dsimp only at hw); go_simp; (try with_reducible rfl); done)); simp only [Act.put, zA38, zB38, zC38]); (apply lxP (by rfl); (focus (intro w; go_simp; (try with_reducible rfl); done)); simp only [Act.put, zA38, zB38, zC38]); (apply lxT (by rfl); (focus (intro w hw; (try dsimp only at hw); go_simp; (try with_reducible rfl); done)); simp only [Act.put, zA38, zB38, zC38]); (iterate 3 ((apply lxP (by rfl); (focus (intro w; go_simp; (try with_reducible rfl); done)); simp only [Act.put, zA38, zB38, zC38]))); (refine lxF (by rfl) ?_; (refine IM.wp_putR _ _ _ rfl rfl rfl rfl HMX.out HID.out.1 HID.out.2 ?_; intro w6 hm6 hc6); simp only [Act.put])
   refine lxN (fun _ => wqD (by kernel_rfl) ?_ _)
   have h6 := HF.out.2.nextT hm6 hc6
   obtain ⟨f6, hf6⟩ : ∃ f, upd G5.m.next fr (some (max x (i + 1))) = f := ⟨_, rfl⟩
   rw [hf6] at h6
   have hff6 : fewI f6 := by rw [← hf6]; exact HF.out.1
   have hi6 : GI (u + 1) (G5.nxt f6 G5.m.on) := H5.out.2.1.nxt hff6 (by omega)
   have hs6 : GS w w6 nb q q := (H5.out.2.2.2.trans (GS.stay r5.drew)).trans (GS.nxS hc6)
   have HSE := hide (gsettle_calls (show GP w6 nb q (G5.nxt f6 G5.m.on) from h6) hi6.m (by omega) hi6.com)
   have H6 := hide (And.intro hi6 hs6)
   clear h6 hf6 hff6 hi6 hs6 hm6 hc6 hlk z15 r5 e2 HMX HID HF hS0
   go_wp2_with fail
   with_reducible refine HSE.out.mono ?_
   rintro e w7 ⟨rfl, c7, r7, h7, hc7, hc7', hs7⟩
   have hi7 := H6.out.1.coms (r := r7) hc7 hc7'
   have he := H5.out.2.2.1
   have hc0 : G.commit ≤ c7 := by have := hc7; rw [show (G5.nxt f6 G5.m.on).commit = G5.commit from rfl, he.2.2.1] at this; exact this
   have hV7 : VltOk G5.m.V g := by rw [he.2.2.2]; exact H3.out.2.2.2.1
   have hs07 := H6.out.2.trans hs7
   by_cases hil : i < la
   ·have u4 : decide (i < la) = true := decide_eq_true hil
    have HHA := hide (ghand_calls h7 hi7.m (by omega) fr H3.out.2.2.2.2.1 hi7.bt)
    have H7 := hide (And.intro hi7 (And.intro hc0 (And.intro hV7 (And.intro hs07 he))))
    clear h7 hc7 hc7' hs7 hi7 he hc0 hV7 hs07 HSE hil
    go_wp2_with fail
    with_reducible refine HHA.out.mono ?_
    rintro e w8 ⟨rfl, q8, f8, n8, h8, hf8, hn8, hs8⟩
    have HF : Hid (GW w w8 nb q G (u + 5) g) := hide ⟨q8, _, h8, (H7.out.1.nxt hf8 (n := n8) (by omega)).up (by omega), H7.out.2.2.1, H7.out.2.2.2.2.1, by show G.bt ≤ G5.bt; rw [H7.out.2.2.2.2.2.1]; exact Int.le_refl _, H7.out.2.1, H7.out.2.2.2.1.trans hs8⟩
    clear h8 hf8 hn8 hs8 HHA
    go_wp2
    go_end0
    exact ⟨rfl, HF.out⟩
   ·have u4 : decide (i < la) = false := decide_eq_false hil
    have HF : Hid (GW w w7 nb q G (u + 5) g) := hide ⟨q, _, h7, hi7.up (by omega), hV7, he.1, by show G.bt ≤ G5.bt; rw [he.2.1]; exact Int.le_refl _, hc0, hs07⟩
    clear h7 hc7 hc7' hs7 hi7 he hc0 hV7 hs07 HSE hil
    go_wp2
    go_end0
    exact ⟨rfl, HF.out⟩
end
end Go.Proofs.YteppdlkmjgladaaGreat

namespace Go.Proofs.YteppdlkmjgladaaGreat
open Go.RowKit Go.Proofs Go.Maps
set_option linter.unusedVariables false
set_option linter.unusedSimpArgs false

def EntRd (w w' : World) (e : Ending) : Prop := ∃ (t k : Nat) (A : Option Addr) (c : Nat) (bs : List Nat) (ok : Bool), e = .returned (.tuple #[.agg #[.int .i64 t, .int .i64 k, .slice A bs.length c], .bool ok]) ∧ OwnB w w' A c bs ∧ t ≤ 549755813888 ∧ k ≤ 2 ∧ bs.length ≤ 800 ∧ ∀ x ∈ bs, x < 256
section
variable {W w w' w1 w2 : World}
set_option maxHeartbeats 4000000 in
set_option maxRecDepth 100000 in
theorem entrd_calls (A : Option Addr) (c : Nat) (L : List Nat) (h : Reads w w.heap.size 1 A L.length (bys L)) (hl : L.length ≤ 140737488355328) (hb : ∀ x ∈ L, x < 256) :
  Calls Tryz.prog 39 #[.slice A L.length c] w fun e w' => EntRd w w' e ∧ Below w.heap.size w w' := by
 obtain ⟨w0, hw0⟩ : ∃ w0, w.alloc (.cells #[.int .i64 0, .int .i64 0, .slice none 0 0] 73) = w0 := ⟨_, rfl⟩
 obtain ⟨x2, hx2⟩ : ∃ x2, w.heap.size = x2 := ⟨_, rfl⟩
 have hb0 : Below w.heap.size w w0 := hw0 ▸ belowL (Below.refl _ _) _
 have bX : Blk w0 x2 73 [.int .i64 0, .int .i64 0, .slice none 0 0] := by rw [← hw0, ← hx2]; exact Blk.new rfl
 have HRD := hide (rread_callsB w0 [] (by simp) A c L ((h.below hb0).more hb0.size) hl hb)
 have H := hide (And.intro hb0 (And.intro bX (And.intro hl hx2)))
 have HW := hide (And.intro hw0 hx2)
 clear h hb hl hb0 bX hw0 hx2
 go_enter Tryz.func39, Tryz.ntmps39
 go_upto_region 1 with fail
 (try rw [HW.out.1])
 (try rw [HW.out.2])
 go_wp2_with fail
 with_reducible refine HRD.out.mono ?_
 rintro e w1 ⟨b, rfl, hro, hwb, hb1⟩
 have HN1 : Hid (Calls Tryz.prog 77 #[.pointer (some ⟨b, 0, none⟩), .int .i64 549755813888] w1 _) := hide (rnum_callsB w1 b [] ⟨L, 0⟩ 549755813888 hro H.out.2.2.1 (by omega))
 have H1 := hide (And.intro hwb hb1)
 clear hro hwb hb1 HRD
 go_wp2_with fail
 with_reducible refine HN1.out.mono ?_
 rintro e w2 ⟨rfl, hr2, hc2⟩
 obtain ⟨⟨t, r2⟩, hq2⟩ : ∃ x, (⟨L, 0⟩ : Rdr).num 549755813888 = x := ⟨_, rfl⟩
 have ht := Rdr.num_le (r := ⟨L, 0⟩) 549755813888
 have hl2 := Rdr.num_len (r := ⟨L, 0⟩) 549755813888
 rw [hq2] at hr2 ht hl2 ⊢
 simp only [] at hr2 ht hl2 ⊢
 have hl2' : r2.b.length ≤ 140737488355328 := Nat.le_trans hl2 H.out.2.2.1
 have HN2 : Hid (Calls Tryz.prog 77 #[.pointer (some ⟨b, 0, none⟩), .int .i64 2] w2 _) := hide (rnum_callsB w2 b [] r2 2 hr2 hl2' (by omega))
 have H2 := hide (And.intro hc2 (And.intro ht hl2'))
 clear hr2 hc2 hq2 ht hl2 hl2' HN1
 go_wp2_with fail
 with_reducible refine HN2.out.mono ?_
 rintro e w3 ⟨rfl, hr3, hc3⟩
 obtain ⟨⟨k, r3⟩, hq3⟩ : ∃ x, r2.num 2 = x := ⟨_, rfl⟩
 have hk := Rdr.num_le (r := r2) 2
 have hl3 := Rdr.num_len (r := r2) 2
 rw [hq3] at hr3 hk hl3 ⊢
 simp only [] at hr3 hk hl3 ⊢
 have hl3' : r3.b.length ≤ 140737488355328 := Nat.le_trans hl3 H2.out.2.2
 obtain ⟨x5, hx5⟩ : ∃ x5, w3.heap.size = x5 := ⟨_, rfl⟩
 have H3 := hide (And.intro hr3 (And.intro hc3 (And.intro hk (And.intro hl3' hx5))))
 clear hr3 hc3 hq3 hk hl3 hl3' HN2
 go_upto_region 3 with fail
 obtain ⟨w4, hw4⟩ : ∃ w4, w3.alloc (.cells #[.int .i64 t, .int .i64 k, .slice none 0 0] 73) = w4 := ⟨_, rfl⟩
 have hb4 : Below w3.heap.size w3 w4 := hw4 ▸ belowL (Below.refl _ _) _
 have bE : Blk w4 x5 73 [.int .i64 t, .int .i64 k, .slice none 0 0] := by rw [← hw4, ← hx5]; exact Blk.new rfl
 rw [hw4]
 have hr4 := (H3.out.1.plus (no' := [x5]) (fun x hx => Or.inr (by rw [List.mem_singleton.1 hx, hx5]; exact Nat.le_refl _))).below hb4
 have HT : Hid (Calls Tryz.prog 79 #[.pointer (some ⟨b, 0, none⟩), .int .i64 800] w4 _) := hide (rtext_callsB w4 b [x5] r3 800 hr4 H3.out.2.2.2.1 (by omega) (fun x hx => by rw [List.mem_singleton.1 hx]; exact bE.lt))
 have hbl : b < w3.heap.size := H3.out.1.lt
 have H4 := hide (And.intro hb4 (And.intro bE hr4))
 have HBL := hide hbl
 clear hw4 hb4 bE hr4 hx5 hbl
 go_wp2_with fail
 with_reducible refine HT.out.mono ?_
 rintro e w5 ⟨A5, c5, rfl, ho5, hr5, hc5⟩
 obtain ⟨⟨bs, r5⟩, hq5⟩ : ∃ x, r3.text 800 = x := ⟨_, rfl⟩
 have hbs := (Rdr.text_len (r := r3) 800).1
 have hby := Rdr.text_byte (r := r3) H4.out.2.2.ok 800
 rw [hq5] at ho5 hr5 hbs hby ⊢
 simp only [] at ho5 hr5 hbs hby ⊢
 have h5b : x5 ≠ b := by have := HBL.out; have := H3.out.2.2.2.2; omega
 have bE5 := H4.out.2.1.chg hc5 (by simpa using h5b)
 have e2 := bE5.cell 2
 have f2 := bE5.frozen 2
 simp only [List.getElem?_cons_succ, List.getElem?_cons_zero] at e2
 obtain ⟨w6, hw6⟩ : ∃ w6, w5.setCell ⟨x5, 2, none⟩ (.slice A5 bs.length c5) = w6 := ⟨_, rfl⟩
 have c56 : Chg [x5] w5 w6 := by rw [← hw6]; exact (Chg.refl [x5] w5).setCell (p := ⟨x5, 2, none⟩) (Or.inl (by simp)) _
 have bE6 := bE5.set 2 (.slice A5 bs.length c5)
 rw [hw6] at bE6
 have hge5 : w.heap.size ≤ x5 := by have := H3.out.2.2.2.2; have := H1.out.2.size; have := H2.out.1.size; have := H3.out.2.1.size; have := H.out.1.size; omega
 have hgeb : w.heap.size ≤ b := by have := H1.out.1; have := H.out.1.size; omega
 have h2b : x2 ≠ b ∧ x2 ≠ x5 := by
  have h1 := H.out.2.1.lt
  have h2 := H1.out.1
  have := H1.out.2.size; have := H2.out.1.size; have := H3.out.2.1.size; have := H3.out.2.2.2.2
  exact ⟨by omega, by omega⟩
 have b26 := (((((H.out.2.1.below H1.out.2).chg H2.out.1 (by simpa using h2b.1)).chg H3.out.2.1 (by simpa using h2b.1)).below H4.out.1).chg hc5 (by simpa using h2b.1)).chg c56 (by simpa using h2b.2)
 have hlo : Below w.heap.size w w6 := by
  have k1 := belowA H1.out.2 H.out.1
  have k3 := Chg.onto (Chg.onto k1 k1.size H2.out.1 (fun x hx => by rw [List.mem_singleton.1 hx]; exact hgeb)) (Nat.le_trans k1.size H2.out.1.size) H3.out.2.1 (fun x hx => by rw [List.mem_singleton.1 hx]; exact hgeb)
  have k4 := belowA H4.out.1 k3
  have k5 := Chg.onto k4 k4.size hc5 (fun x hx => by rw [List.mem_singleton.1 hx]; exact hgeb)
  exact Chg.onto k5 k5.size c56 (fun x hx => by rw [List.mem_singleton.1 hx]; exact hge5)
 have hlt5 : x5 < w4.heap.size := H4.out.2.1.lt
 have hbl4 : b < w4.heap.size := H4.out.2.2.lt
 have hr6 := hr5.chg c56 (by simpa using fun e => h5b e.symm) (fun x hx => Or.inl hx)
 have ho6 := ho5.chg c56 (fun x hx => by rw [List.mem_singleton.1 hx]; exact hlt5)
 have r6 := Chg.refl [b] w6
 have z0 : ∀ w', Chg [b] w6 w' → w'.cell? ⟨x5, 0, none⟩ = some (.int .i64 t) := fun w' hc => (bE6.chg hc (by simpa using h5b)).cell 0
 have z1 : ∀ w', Chg [b] w6 w' → w'.cell? ⟨x5, 1, none⟩ = some (.int .i64 k) := fun w' hc => (bE6.chg hc (by simpa using h5b)).cell 1
 have z2 : ∀ w', Chg [b] w6 w' → w'.cell? ⟨x5, 2, none⟩ = some (.slice A5 bs.length c5) := fun w' hc => (bE6.chg hc (by simpa using h5b)).cell 2
 have HE := hide (fun (w' : World) (hb : Below w6.heap.size w6 w') => rend_calls w' b _ r5 (hr6.below hb))
 obtain ⟨fe, hfe⟩ : ∃ fe, r5.fin = fe := ⟨_, rfl⟩
 rw [hfe] at HE
 have H6 := hide (And.intro ho6 (And.intro b26 (And.intro hlo (And.intro h2b (And.intro hbs (And.intro hby (And.intro hgeb hbl4)))))))
 have HW6 := hide hw6
 have h2w : w.heap.size ≤ x2 := by have := H.out.2.2.2; omega
 clear hw6 hr5 ho5 hc5 hq5 hbs hby h5b bE5 c56 bE6 hge5 hgeb h2b b26 hlo hlt5 hbl4 hr6 ho6 hfe HT
 go_upto_region 4 with fail
 rw [HW6.out]
 clear e2 f2
 refine lxR (fun w' => Chg [b] w6 w') [4] 0 [(0, 0), (2, 1), (1, 2), (2, 3), (3, 4), (2, 5)] #[true, true, true, true, true, true] (by kernel_rfl) (by kernel_rfl) (by decide) (by kernel_rfl) (by kernel_rfl) (fun _ _ _ _ _ h => h) (by (first | exact r6.drew | exact hcE)) (fun hS0 => ?_)
 simp only [List.map_cons, List.map_nil, List.getElem?_toArray, List.getElem?_cons_succ, List.getElem?_cons_zero]
 (apply lxT (by rfl); (focus (intro w hw; (try dsimp only at hw); go_simp; (try with_reducible rfl); done)); simp only [Act.put, zA38, zB38, zC38]); (apply lxP (by rfl); (focus (intro w; go_simp; (try with_reducible rfl); done)); simp only [Act.put, zA38, zB38, zC38]); (refine lxE (by rfl) ?_; go_simp; ((go_at_call 78; refine (HE.out _ (Below.refl _ _).drew).mono ?_; rintro e w7 ⟨rfl, _, hc7⟩; have hcE : Chg [b] w6 w7 := r6.drew.same hc7)); refine lxB (by (first | exact r6.drew | exact hcE)) (fun hS1 => ?_)); (apply lxP (by rfl); (focus (intro w; go_simp; (try with_reducible rfl); done)); simp only [Act.put, zA38, zB38, zC38]); (refine lxF (by rfl) ?_; (refine wp_store_mid 73 _ _ rfl x2 0 #[.int .i64 t, .int .i64 k, .slice A5 bs.length c5] rfl rfl (by exact (H6.out.2.1.chg hcE (by simpa using H6.out.2.2.2.1.1)).there (n := 3) (by decide)) (by kernel_rfl) (by simp [Value.oneCell']) ?_); simp only [Act.put]); (apply lxP (by rfl); (focus (intro w; go_simp; (try with_reducible rfl); done)); simp only [Act.put, zA38, zB38, zC38])
 refine lxN (fun _ => wqD (by kernel_rfl) ?_ _)
 have b7 := H6.out.2.1.chg hcE (by simpa using H6.out.2.2.2.1.1)
 have bz := Blk.setCells [.int .i64 t, .int .i64 k, .slice A5 bs.length c5] 0 b7
 have cz : Chg [x2] w7 _ := Chg.setCells (b := x2) [.int .i64 t, .int .i64 k, .slice A5 bs.length c5] 0 (Chg.refl [x2] w7) (Or.inl (by simp))
 obtain ⟨wz, hwz⟩ : ∃ wz, World.setCells w7 x2 0 [.int .i64 t, .int .i64 k, .slice A5 bs.length c5] = wz := ⟨_, rfl⟩
 rw [hwz] at bz cz ⊢
 have hlt4 : x2 < w4.heap.size := by have := HBL.out; have := H1.out.1; have := H.out.2.1.lt; have := H4.out.1.size; omega
 have hoz : OwnB w wz A5 c5 bs := (((H6.out.1.chg hcE (fun x hx => by rw [List.mem_singleton.1 hx]; exact H6.out.2.2.2.2.2.2.2)).chg cz (fun x hx => by rw [List.mem_singleton.1 hx]; exact hlt4)).back (by have := H6.out.2.2.2.2.2.2.2; have := H6.out.2.2.2.2.2.2.1; omega))
 have hlz : Below w.heap.size w wz := by
  have k1 := Chg.onto H6.out.2.2.1 H6.out.2.2.1.size hcE (fun x hx => by rw [List.mem_singleton.1 hx]; exact H6.out.2.2.2.2.2.2.1)
  exact Chg.onto k1 k1.size cz (fun x hx => by rw [List.mem_singleton.1 hx]; exact h2w)
 have g0 := bz.cell 0
 have g1 := bz.cell 1
 have g2 := bz.cell 2
 simp only [setL, List.set_cons_zero, List.set_cons_succ, List.getElem?_cons_succ, List.getElem?_cons_zero] at g0 g1 g2
 have HZ := hide (And.intro hoz hlz)
 obtain ⟨fb, hfb⟩ : ∃ fb : Bool, ((fe : Int) == 0) = fb := ⟨_, rfl⟩
 rw [hfb]
 clear b7 bz cz hwz hlt4 hoz hlz z0 z1 z2 hc7 hcE hS1 hS0 r6 HE hfb
 go_wp2
 exact bodyPost_ret (v := .tuple #[.agg #[.int .i64 t, .int .i64 k, .slice A5 bs.length c5], .bool fb]) (by simp [results, Tryz.results39, go_sem, *]) rfl ⟨⟨t, k, A5, c5, bs, fb, rfl, HZ.out.1, H2.out.2.1, H3.out.2.2.1, H6.out.2.2.2.2.1, H6.out.2.2.2.2.2.1⟩, HZ.out.2⟩
end
end Go.Proofs.YteppdlkmjgladaaGreat
