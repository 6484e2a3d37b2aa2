/- One text of: Ni. -/
import Derived.Test.YteppdlkmjgladaaGreatQNB
namespace Go.Proofs.YteppdlkmjgladaaGreat
open Go.RowKit Go.Proofs Go.Maps
set_option linter.unusedVariables false
set_option linter.unusedSimpArgs false
theorem zA25 {α : Type} (l : List α) (i : Nat) (a : α) : l.toArray.setIfInBounds i a = (l.set i a).toArray := by simp
theorem zB25 {α : Type} (x a : α) (l : List α) : (x :: l).set 0 a = a :: l := rfl
theorem zC25 {α : Type} (x a : α) (l : List α) (n : Nat) : (x :: l).set (n + 1) a = x :: l.set n a := rfl

def ConOk (L : List Con) : Prop := ∀ c ∈ L, ∃ (t k : Nat) (b : List Nat), c = ((t : Int), (k : Int), bi b) ∧ t < 2 ^ 59 ∧ k < 2 ^ 59 ∧ k ≠ 2 ∧ b.length ≤ 50000
theorem ConOk.few {L : List Con} (h : ConOk L) : FewC L := fun c hc => by
 obtain ⟨t, k, b, rfl, _, _, _, hb⟩ := h c hc
 simp only [bi_len]
 omega
theorem ConOk.kind {L : List Con} (h : ConOk L) : ∀ c ∈ L, c.2.1 ≠ 2 := fun c hc => by
 obtain ⟨t, k, b, rfl, _, _, hk, _⟩ := h c hc
 simp only []
 omega
def Nd.at_ (N : Nd) : Nat := let a := min ((N.next N.id).getD 0).toNat (N.L.length + 1); if a = 0 then N.L.length else a
def Nd.hand (N : Nd) : Nd := { N with next := upd N.next N.id (some (N.at_ : Int)) }
theorem termC_in {base term : Int} {L : List Con} {q : Nat} (h : q ≤ L.length) : (termC base term L q).2 = true := by
 unfold termC
 cases q with
 |zero => rfl
 |succ k =>
  simp only []
  rw [List.getElem?_eq_getElem (by omega)]
section
variable {w w' : World} {nb : Nat} {p : Pl} {Fl Fv : List Nat} {N : Nd}
set_option maxHeartbeats 1000000 in
theorem nsend_calls (h : NP w nb p Fl Fv N) (k : Int) (A1 A2 A3 : Option Addr) (n1 n2 n3 c1 c2 c3 : Nat) :
  Calls Tryz.prog 97 #[.pointer (some ⟨nb, 0, none⟩), .int .i64 N.id, .agg #[.int .i64 k, .slice A1 n1 c1, .slice A2 n2 c2, .slice A3 n3 c3]] w fun e w' => e = .returned (.tuple #[]) ∧ Below w.heap.size w w' := by
 have r0 := Below.refl w.heap.size w
 have hb0 := belowL r0 (.cells #[.int .i64 k, .slice A1 n1 c1, .slice A2 n2 c2, .slice A3 n3 c3] 52)
 have b0 := h.blk.below hb0
 have y2 : (w.alloc (.cells #[.int .i64 k, .slice A1 n1 c1, .slice A2 n2 c2, .slice A3 n3 c3] 52)).cell? ⟨nb, 2, none⟩ = some (.bool N.dead) := b0.cell 2
 have y0 : (w.alloc (.cells #[.int .i64 k, .slice A1 n1 c1, .slice A2 n2 c2, .slice A3 n3 c3] 52)).cell? ⟨nb, 0, none⟩ = some (.int .i64 N.id) := b0.cell 0
 obtain ⟨dd, hdd⟩ : ∃ dd, N.dead = dd := ⟨_, rfl⟩
 rw [hdd] at y2
 have HB := hide hb0
 clear h b0 hb0 hdd
 cases dd with
 |true =>
  go_enter Tryz.func97, Tryz.ntmps97
  go_wp2
  go_end0
  exact ⟨rfl, HB.out⟩
 |false =>
  go_enter Tryz.func97, Tryz.ntmps97
  go_wp2
  go_end0
  exact ⟨rfl, HB.out⟩
set_option maxHeartbeats 4000000 in
set_option maxRecDepth 100000 in
theorem nhand_calls (h : NP w nb p Fl Fv N) (hid : 0 ≤ N.id ∧ N.id ≤ 15) (hL : ConOk N.L) (hn : 1 ≤ N.L.length ∧ N.L.length ≤ 100000) (hnx : 0 ≤ (N.next N.id).getD 0 ∧ (N.next N.id).getD 0 ≤ 1000000) :
  Calls Tryz.prog 88 #[.pointer (some ⟨nb, 0, none⟩), .int .i64 N.id] w fun e w' => e = .returned (.tuple #[]) ∧ NP w' nb p Fl Fv N.hand ∧ Chg [p.nx] w w' := by
 have r0 := Below.refl w.heap.size w
 have HLA := hide (lg_last0 h.log (by omega))
 obtain ⟨f0, hf0⟩ : ∃ f0 : Nat, (N.next N.id).getD 0 = f0 := ⟨((N.next N.id).getD 0).toNat, by omega⟩
 obtain ⟨n, hnn⟩ : ∃ n, N.L.length = n := ⟨_, rfl⟩
 obtain ⟨a, ha⟩ : ∃ a, N.at_ = a := ⟨_, rfl⟩
 have hav : a = (if min f0 (n + 1) = 0 then n else min f0 (n + 1)) := by rw [← ha]; unfold Nd.at_; simp only [hf0, hnn, Int.toNat_natCast]
 have y9 : w.cell? ⟨nb, 9, none⟩ = some (.pointer (some ⟨p.lb, 0, none⟩)) := h.blk.cell 9
 rw [hnn] at HLA
 have H := hide (And.intro h (And.intro hid (And.intro hL (And.intro hn (And.intro hf0 (And.intro hnn ha))))))
 clear h hid hL hf0 ha
 go_enter Tryz.func88, Tryz.ntmps88
 go_wp2_with fail
 with_reducible refine HLA.out.mono ?_
 rintro e w1 ⟨rfl, q, rfl⟩
 have hb1 := below_drewN r0 q
 have h1 := H.out.1.below hb1
 have y18 : (w.drewN q).cell? ⟨nb, 18, none⟩ = some (.map (some p.nx)) := h1.blk.cell 18
 have hlk := h1.nx.look (k := N.id) (by have := H.out.2.1; unfold i64ok; omega)
 rw [H.out.2.2.2.2.1] at hlk
 have q1 : IntKind.i64.wrap ((n : Int) + 1) = ((n + 1 : Nat) : Int) := by rw [IntWalk.i64_in _ (by omega)]; omega
 have H1 := hide (And.intro h1 hb1)
 obtain ⟨m, hm⟩ : ∃ m, min f0 (n + 1) = m := ⟨_, rfl⟩
 rw [hm] at hav
 have qm : min (f0 : Int) ((n : Int) + 1) = (m : Int) := by omega
 have ham : 1 ≤ a ∧ a ≤ n + 1 := by split at hav <;> omega
 have HA := hide (And.intro ham hnn)
 clear y9 HLA h1 hb1 hm hnn
 have hmu : ∀ wz : World, Below w.heap.size w wz → IM wz p.nx (cnt16 N.next) N.next := fun wz hb => H.out.1.nx.chg (L := []) (Chg.of_below hb) (by simp)
 have HMU := hide hmu
 have HOK := hide (show i64ok (a : Int) by unfold i64ok; have := ham.2; have := H.out.2.2.2.1; have := HA.out.2; omega)
 clear hmu
 by_cases hm0 : m = 0
 ·rw [if_pos hm0] at hav
  have u0 : ((m : Int) == 0) = true := by simp [hm0]
  have HA0 := hide hav
  have HOK := HOK.out
  rw [hav] at HOK
  have HOK := hide HOK
  clear hav hm0 ham
  go_wp2_with (first | with_reducible fail | (refine IM.wpl_putR rfl _ _ _ rfl rfl rfl rfl (HMU.out _ H1.out.2) H.out.2.1 HOK.out ?_))
  intro w2 hm2 hc2
  have h2 := H1.out.1.nextT hm2 hc2
  have hcw : Chg [p.nx] w w2 := (Chg.of_below H1.out.2).trans hc2 (fun z hz => Or.inl hz)
  have hNh : ({ N with next := upd N.next N.id (some (n : Int)) } : Nd) = N.hand := by unfold Nd.hand; rw [H.out.2.2.2.2.2.2, HA0.out]
  rw [hNh] at h2
  obtain ⟨r, hr⟩ : ∃ r, n - 1 = r := ⟨_, rfl⟩
  have hX : 1 ≤ n ∧ n ≤ n + 1 := by have := HA.out.1; have := HA0.out; omega
  have hnl : n ≤ 100000 := by have := H.out.2.2.2.1; have := HA.out.2; omega
  have q2 : IntKind.i64.wrap ((n : Int) - 1) = (r : Int) := by rw [IntWalk.i64_in _ (by omega)]; omega
  have HTE := lg_term r h2.log (Int.le_refl _) (by omega) (by omega) (i := (r : Int)) (by omega)
  have htc := termC_in (base := 0) (term := 0) (L := N.L) (q := r) (by have := HA.out.2; omega)
  rw [show N.hand.L = N.L from rfl, htc] at HTE
  obtain ⟨tv, htv⟩ : ∃ tv, (termC 0 0 N.L r).1 = tv := ⟨_, rfl⟩
  rw [htv] at HTE
  have HTE := hide HTE
  have y9 : w2.cell? ⟨nb, 9, none⟩ = some (.pointer (some ⟨p.lb, 0, none⟩)) := h2.blk.cell 9
  have HX := hide (And.intro hX hr)
  have HNL := hide hnl
  have H2 := hide (And.intro h2 hcw)
  have hnl2 : (n : Int) ≤ 100000 := by omega
  have hX2 : (1 : Int) ≤ n ∧ (n : Int) ≤ 100001 := by omega
  clear hm2 hc2 h2 hcw hNh hr hX hnl htc htv hlk
  go_wp2_with fail
  with_reducible refine HTE.out.mono ?_
  rintro e w3 ⟨rfl, q3, rfl⟩
  have hb3 := below_drewN (Below.refl w2.heap.size w2) q3
  have h3 := H2.out.1.below hb3
  have y9' : (w2.drewN q3).cell? ⟨nb, 9, none⟩ = some (.pointer (some ⟨p.lb, 0, none⟩)) := h3.blk.cell 9
  have HFR := lg_from r 8 h3.log (show FewC N.L from H.out.2.2.1.few) (Int.le_refl _) (by omega) (show N.L.length ≤ 1000000 by have := HA.out.2; have := HNL.out; omega) (by have := HX.out; have := HNL.out; omega) (i := (n : Int)) (by have := HX.out; omega)
  have HFR := hide HFR
  have H3 := hide (And.intro h3 hb3)
  obtain ⟨w3, hw3⟩ : ∃ w3, w2.drewN q3 = w3 := ⟨_, rfl⟩
  rw [hw3] at y9' HFR H3
  rw [hw3]
  clear y9 HTE hb3 h3 hw3
  go_wp2_with fail
  with_reducible refine HFR.out.mono ?_
  rintro e w4 hfo
  obtain ⟨A4, n4, c4, rfl, hn4, hents, hfr4, hb4⟩ := hfo.ents
  obtain ⟨⟨ys, hys1, hys2, hrd, hok⟩, hcap⟩ := hents
  have hn48 : n4 ≤ 8 := by rw [hn4, List.length_take]; exact Nat.min_le_left _ _
  have hcv : ∀ y ∈ cons ys, ∃ (t k : Nat) (b : List Nat), y = ((t : Int), (k : Int), bi b) ∧ t < 2 ^ 59 ∧ k < 2 ^ 59 ∧ k ≠ 2 ∧ b.length ≤ 50000 := fun y hy => H.out.2.2.1 y (List.mem_of_mem_drop (List.mem_of_mem_take (show y ∈ (N.L.drop r).take (8 : Int).toNat from hys2 ▸ hy)))
  have HY := hide (And.intro hys1 (And.intro hrd (And.intro hok hcv)))
  have H4 := hide hb4
  have hnil : Hid (OwnT w4 w4 none 0 []) := hide (OwnT.nil _ _)
  have hn482 : (n4 : Int) ≤ 8 := by omega
  clear hfo hn4 hfr4 hb4 hcv hys1 hys2 hrd hok hcap y9' HFR
  go_wp2
  go_loopw [10, 12, 83, 84, 85, 86, 87, 88, 89, 90, 91, 92] (fun ov _ iv _ _ _ _ _ _ _ _ _ wr => ∃ (k : Nat) (Lb : List (List Nat)) (A : Option Addr) (c : Nat), k ≤ n4 ∧ iv = .int .i64 k ∧ ov = .slice A Lb.length c ∧ Hid (Lb.length = k) ∧ Hid (OwnT w4 wr A c Lb ∧ Below w4.heap.size w4 wr)) (fun _ _ iv _ _ _ _ _ _ _ _ _ _ => n4 - (Go.RowKit.intOf iv).toNat)
  case atStart => exact ⟨0, [], none, 0, Nat.zero_le _, rfl, rfl, hide rfl, hide ⟨hnil.out, Below.refl _ _⟩⟩
  case round =>
   obtain ⟨k, Lb, A, c, hk, rfl, rfl, hLb, hO⟩ := hrel
   by_cases hlt : k < n4
   ·have i1 : (k : Int) < n4 := by omega
    have hky : k < ys.length := by rw [HY.out.1]; exact hlt
    have hrr := HY.out.2.1.below hO.out.2
    obtain ⟨b, o, rfl, hbl, hc⟩ := hrr.at_ (by omega)
    obtain ⟨x, hx⟩ : ∃ x, ys[k] = x := ⟨_, rfl⟩
    have hxm : x ∈ ys := by rw [← hx]; exact List.getElem_mem _
    have g0 := hc (k * 3 + 0) (.int .i64 x.t) (by rw [entCells_get ys k 0 hky (by omega), hx]; rfl)
    have g1 := hc (k * 3 + 1) (.int .i64 x.k) (by rw [entCells_get ys k 1 hky (by omega), hx]; rfl)
    have g2 := hc (k * 3 + 2) (.slice x.A x.b.length x.c) (by rw [entCells_get ys k 2 hky (by omega), hx]; rfl)
    obtain ⟨et, ek, eb, hxe, he1, he2, _, he3⟩ := HY.out.2.2.2 x.con (by unfold cons; exact List.mem_map_of_mem hxm)
    have hxo := (HY.out.2.2.1 x hxm).below hO.out.2
    obtain ⟨xt, xk, xA, xc, xbb⟩ := x
    simp only [Ent.con, Prod.mk.injEq] at hxe
    obtain ⟨rfl, rfl, rfl⟩ := hxe
    simp only [bi_len] at g0 g1 g2
    have g1' : wr.cell? ⟨b, o + k * 3 + 1, none⟩ = some (.int .i64 ek) := by rw [Nat.add_assoc]; exact g1
    have g2' : wr.cell? ⟨b, o + k * 3 + 2, none⟩ = some (.slice xA eb.length xc) := by rw [Nat.add_assoc]; exact g2
    have g0' : wr.cell? ⟨b, o + k * 3, none⟩ = some (.int .i64 et) := g0
    obtain ⟨wA, hwA⟩ : ∃ wA, wr.alloc (.cells #[.int .i64 et, .int .i64 ek, .slice xA eb.length xc] 73) = wA := ⟨_, rfl⟩
    have hbA : Below wr.heap.size wr wA := hwA ▸ belowL (Below.refl _ _) _
    have HEB := hide (entb_calls (w := wA) et ek (hxo.rb.below hbA) (by omega) (by omega) (by omega))
    have HWA := hide hwA
    have HBA := hide (belowA hbA hO.out.2)
    have HOA := hide (hO.out.1.below hbA)
    clear hxo hx hxm hc hbl hrr hwA hbA g0 g1 g2 he1 he2 he3 hky
    go_wp2_with fail
    rw [HWA.out]
    with_reducible refine HEB.out.mono ?_
    rintro e w5 ⟨A5, c5, rfl, ho5, hb5⟩
    obtain ⟨tb, htb⟩ : ∃ tb, ebytes et ek eb = tb := ⟨_, rfl⟩
    rw [htb] at ho5 ⊢
    have H5 := hide (And.intro (HOA.out.below hb5) (And.intro (belowA hb5 HBA.out) (ho5.back HBA.out.size)))
    have HLl := hide (show Lb.length ≤ 100000 by rw [hLb.out]; omega)
    clear ho5 hb5 htb HEB g0' g1' g2' HOA HBA
    go_wp2_with (at_builtin; refine wpList_appendT rfl _ _ rfl H5.out.1 H5.out.2.1 H5.out.2.2 HLl.out rfl rfl ?_)
    intro A6 c6 w6 hO6 hb6 hst
    have H6 := hide (And.intro hO6 hb6)
    clear hO6 hb6 hst H5
    go_wp2
    go_roundw
    case rel => exact ⟨k + 1, Lb ++ [tb], A6, c6, by omega, by go_num, by first | rfl | simp, hide (by simp [hLb.out]), H6⟩
    case measure => simp [Go.RowKit.intOf]; omega
   ·have i1 : ¬ (k : Int) < n4 := by omega
    have h5 := (H3.out.1.below H4.out).below hO.out.2
    have rr := Below.refl wr.heap.size wr
    have y3r := h5.blk.rule 3 _ rfl
    have y10r := h5.blk.rule 10 _ rfl
    have hse := fun (w' : World) (hb : Below wr.heap.size wr w') (A1 A2 A3 : Option Addr) (n1 n2 n3 c1 c2 c3 : Nat) => nsend_calls (h5.below hb) 3 A1 A2 A3 n1 n2 n3 c1 c2 c3
    rw [show N.hand.id = N.id from rfl] at hse
    have HSE := hide hse
    have H5 := hide h5
    clear h5 hse
    go_upto_region 15 with fail
    refine lxR (fun w' => Below wr.heap.size wr w') [] 0 [(2, 0), (2, 1), (2, 2), (2, 3), (2, 4), (2, 5), (0, 6), (2, 7), (2, 8), (2, 9), (2, 10), (2, 11), (2, 12), (0, 13), (2, 15), (1, 14), (2, 16), (1, 17)] #[true, true, true, true, true, true, true, true, true, true, true, true, true, true, true, true, true, true] (by kernel_rfl) (by kernel_rfl) (by decide) (by kernel_rfl) (by kernel_rfl) (fun _ _ _ _ _ h => h) (by (first | exact rr.drew | exact belowL rr _ | exact (belowL rr _).drew | exact hb7')) (fun hS0 => ?_)
    simp only [List.map_cons, List.map_nil, List.getElem?_toArray, List.getElem?_cons_succ, List.getElem?_cons_zero]
    (iterate 6 ((apply lxP (by rfl); (focus (intro w; go_simp; (try with_reducible rfl); done)); simp only [Act.put, zA25, zB25, zC25]))); (apply lxT (by rfl); (focus (intro w hw; (try dsimp only at hw); go_simp; (try with_reducible rfl); done)); simp only [Act.put, zA25, zB25, zC25]); (iterate 6 ((apply lxP (by rfl); (focus (intro w; go_simp; (try with_reducible rfl); done)); simp only [Act.put, zA25, zB25, zC25]))); (apply lxT (by rfl); (focus (intro w hw; (try dsimp only at hw); go_simp; (try with_reducible rfl); done)); simp only [Act.put, zA25, zB25, zC25]); (apply lxP (by rfl); (focus (intro w; go_simp; (try with_reducible rfl); done)); simp only [Act.put, zA25, zB25, zC25]); (refine lxE (by rfl) ?_; go_simp; refine lxB (by (first | exact rr.drew | exact belowL rr _ | exact (belowL rr _).drew | exact hb7')) (fun hS1 => ?_)); (apply lxP (by rfl); (focus (intro w; go_simp; (try with_reducible rfl); done)); simp only [Act.put, zA25, zB25, zC25]); (refine lxE (by rfl) ?_; go_simp; ((go_at_call 97; with_reducible refine (HSE.out _ (belowL rr _).drew _ _ _ _ _ _ _ _ _).mono ?_; rintro e w7 ⟨rfl, hb7⟩; have hb7' := belowA hb7 (belowL rr _).drew)); refine lxB (by (first | exact rr.drew | exact belowL rr _ | exact (belowL rr _).drew | exact hb7')) (fun hS1 => ?_))
    refine lxN (fun _ => wqD (by kernel_rfl) ?_ _)
    go_wp2
    go_end0
    exact ⟨rfl, H5.out.below hb7', ((((H2.out.2.below H3.out.2).below H4.out).below hO.out.2).below hb7')⟩
 ·rw [if_neg hm0] at hav
  have u0 : ((m : Int) == 0) = false := by simp; omega
  have HA0 := hide hav
  have HOK := HOK.out
  rw [hav] at HOK
  have HOK := hide HOK
  clear hav hm0 ham
  go_wp2_with (first | with_reducible fail | (refine IM.wpl_putR rfl _ _ _ rfl rfl rfl rfl (HMU.out _ H1.out.2) H.out.2.1 HOK.out ?_))
  intro w2 hm2 hc2
  have h2 := H1.out.1.nextT hm2 hc2
  have hcw : Chg [p.nx] w w2 := (Chg.of_below H1.out.2).trans hc2 (fun z hz => Or.inl hz)
  have hNh : ({ N with next := upd N.next N.id (some (m : Int)) } : Nd) = N.hand := by unfold Nd.hand; rw [H.out.2.2.2.2.2.2, HA0.out]
  rw [hNh] at h2
  obtain ⟨r, hr⟩ : ∃ r, m - 1 = r := ⟨_, rfl⟩
  have hX : 1 ≤ m ∧ m ≤ n + 1 := by have := HA.out.1; have := HA0.out; omega
  have hnl : n ≤ 100000 := by have := H.out.2.2.2.1; have := HA.out.2; omega
  have q2 : IntKind.i64.wrap ((m : Int) - 1) = (r : Int) := by rw [IntWalk.i64_in _ (by omega)]; omega
  have HTE := lg_term r h2.log (Int.le_refl _) (by omega) (by omega) (i := (r : Int)) (by omega)
  have htc := termC_in (base := 0) (term := 0) (L := N.L) (q := r) (by have := HA.out.2; omega)
  rw [show N.hand.L = N.L from rfl, htc] at HTE
  obtain ⟨tv, htv⟩ : ∃ tv, (termC 0 0 N.L r).1 = tv := ⟨_, rfl⟩
  rw [htv] at HTE
  have HTE := hide HTE
  have y9 : w2.cell? ⟨nb, 9, none⟩ = some (.pointer (some ⟨p.lb, 0, none⟩)) := h2.blk.cell 9
  have HX := hide (And.intro hX hr)
  have HNL := hide hnl
  have H2 := hide (And.intro h2 hcw)
  have hnl2 : (n : Int) ≤ 100000 := by omega
  have hX2 : (1 : Int) ≤ m ∧ (m : Int) ≤ 100001 := by omega
  clear hm2 hc2 h2 hcw hNh hr hX hnl htc htv hlk
  go_wp2_with fail
  with_reducible refine HTE.out.mono ?_
  rintro e w3 ⟨rfl, q3, rfl⟩
  have hb3 := below_drewN (Below.refl w2.heap.size w2) q3
  have h3 := H2.out.1.below hb3
  have y9' : (w2.drewN q3).cell? ⟨nb, 9, none⟩ = some (.pointer (some ⟨p.lb, 0, none⟩)) := h3.blk.cell 9
  have HFR := lg_from r 8 h3.log (show FewC N.L from H.out.2.2.1.few) (Int.le_refl _) (by omega) (show N.L.length ≤ 1000000 by have := HA.out.2; have := HNL.out; omega) (by have := HX.out; have := HNL.out; omega) (i := (m : Int)) (by have := HX.out; omega)
  have HFR := hide HFR
  have H3 := hide (And.intro h3 hb3)
  obtain ⟨w3, hw3⟩ : ∃ w3, w2.drewN q3 = w3 := ⟨_, rfl⟩
  rw [hw3] at y9' HFR H3
  rw [hw3]
  clear y9 HTE hb3 h3 hw3
  go_wp2_with fail
  with_reducible refine HFR.out.mono ?_
  rintro e w4 hfo
  obtain ⟨A4, n4, c4, rfl, hn4, hents, hfr4, hb4⟩ := hfo.ents
  obtain ⟨⟨ys, hys1, hys2, hrd, hok⟩, hcap⟩ := hents
  have hn48 : n4 ≤ 8 := by rw [hn4, List.length_take]; exact Nat.min_le_left _ _
  have hcv : ∀ y ∈ cons ys, ∃ (t k : Nat) (b : List Nat), y = ((t : Int), (k : Int), bi b) ∧ t < 2 ^ 59 ∧ k < 2 ^ 59 ∧ k ≠ 2 ∧ b.length ≤ 50000 := fun y hy => H.out.2.2.1 y (List.mem_of_mem_drop (List.mem_of_mem_take (show y ∈ (N.L.drop r).take (8 : Int).toNat from hys2 ▸ hy)))
  have HY := hide (And.intro hys1 (And.intro hrd (And.intro hok hcv)))
  have H4 := hide hb4
  have hnil : Hid (OwnT w4 w4 none 0 []) := hide (OwnT.nil _ _)
  have hn482 : (n4 : Int) ≤ 8 := by omega
  clear hfo hn4 hfr4 hb4 hcv hys1 hys2 hrd hok hcap y9' HFR
  go_wp2
  go_loopw [10, 12, 83, 84, 85, 86, 87, 88, 89, 90, 91, 92] (fun ov _ iv _ _ _ _ _ _ _ _ _ wr => ∃ (k : Nat) (Lb : List (List Nat)) (A : Option Addr) (c : Nat), k ≤ n4 ∧ iv = .int .i64 k ∧ ov = .slice A Lb.length c ∧ Hid (Lb.length = k) ∧ Hid (OwnT w4 wr A c Lb ∧ Below w4.heap.size w4 wr)) (fun _ _ iv _ _ _ _ _ _ _ _ _ _ => n4 - (Go.RowKit.intOf iv).toNat)
  case atStart => exact ⟨0, [], none, 0, Nat.zero_le _, rfl, rfl, hide rfl, hide ⟨hnil.out, Below.refl _ _⟩⟩
  case round =>
   obtain ⟨k, Lb, A, c, hk, rfl, rfl, hLb, hO⟩ := hrel
   by_cases hlt : k < n4
   ·have i1 : (k : Int) < n4 := by omega
    have hky : k < ys.length := by rw [HY.out.1]; exact hlt
    have hrr := HY.out.2.1.below hO.out.2
    obtain ⟨b, o, rfl, hbl, hc⟩ := hrr.at_ (by omega)
    obtain ⟨x, hx⟩ : ∃ x, ys[k] = x := ⟨_, rfl⟩
    have hxm : x ∈ ys := by rw [← hx]; exact List.getElem_mem _
    have g0 := hc (k * 3 + 0) (.int .i64 x.t) (by rw [entCells_get ys k 0 hky (by omega), hx]; rfl)
    have g1 := hc (k * 3 + 1) (.int .i64 x.k) (by rw [entCells_get ys k 1 hky (by omega), hx]; rfl)
    have g2 := hc (k * 3 + 2) (.slice x.A x.b.length x.c) (by rw [entCells_get ys k 2 hky (by omega), hx]; rfl)
    obtain ⟨et, ek, eb, hxe, he1, he2, _, he3⟩ := HY.out.2.2.2 x.con (by unfold cons; exact List.mem_map_of_mem hxm)
    have hxo := (HY.out.2.2.1 x hxm).below hO.out.2
    obtain ⟨xt, xk, xA, xc, xbb⟩ := x
    simp only [Ent.con, Prod.mk.injEq] at hxe
    obtain ⟨rfl, rfl, rfl⟩ := hxe
    simp only [bi_len] at g0 g1 g2
    have g1' : wr.cell? ⟨b, o + k * 3 + 1, none⟩ = some (.int .i64 ek) := by rw [Nat.add_assoc]; exact g1
    have g2' : wr.cell? ⟨b, o + k * 3 + 2, none⟩ = some (.slice xA eb.length xc) := by rw [Nat.add_assoc]; exact g2
    have g0' : wr.cell? ⟨b, o + k * 3, none⟩ = some (.int .i64 et) := g0
    obtain ⟨wA, hwA⟩ : ∃ wA, wr.alloc (.cells #[.int .i64 et, .int .i64 ek, .slice xA eb.length xc] 73) = wA := ⟨_, rfl⟩
    have hbA : Below wr.heap.size wr wA := hwA ▸ belowL (Below.refl _ _) _
    have HEB := hide (entb_calls (w := wA) et ek (hxo.rb.below hbA) (by omega) (by omega) (by omega))
    have HWA := hide hwA
    have HBA := hide (belowA hbA hO.out.2)
    have HOA := hide (hO.out.1.below hbA)
    clear hxo hx hxm hc hbl hrr hwA hbA g0 g1 g2 he1 he2 he3 hky
    go_wp2_with fail
    rw [HWA.out]
    with_reducible refine HEB.out.mono ?_
    rintro e w5 ⟨A5, c5, rfl, ho5, hb5⟩
    obtain ⟨tb, htb⟩ : ∃ tb, ebytes et ek eb = tb := ⟨_, rfl⟩
    rw [htb] at ho5 ⊢
    have H5 := hide (And.intro (HOA.out.below hb5) (And.intro (belowA hb5 HBA.out) (ho5.back HBA.out.size)))
    have HLl := hide (show Lb.length ≤ 100000 by rw [hLb.out]; omega)
    clear ho5 hb5 htb HEB g0' g1' g2' HOA HBA
    go_wp2_with (at_builtin; refine wpList_appendT rfl _ _ rfl H5.out.1 H5.out.2.1 H5.out.2.2 HLl.out rfl rfl ?_)
    intro A6 c6 w6 hO6 hb6 hst
    have H6 := hide (And.intro hO6 hb6)
    clear hO6 hb6 hst H5
    go_wp2
    go_roundw
    case rel => exact ⟨k + 1, Lb ++ [tb], A6, c6, by omega, by go_num, by first | rfl | simp, hide (by simp [hLb.out]), H6⟩
    case measure => simp [Go.RowKit.intOf]; omega
   ·have i1 : ¬ (k : Int) < n4 := by omega
    have h5 := (H3.out.1.below H4.out).below hO.out.2
    have rr := Below.refl wr.heap.size wr
    have y3r := h5.blk.rule 3 _ rfl
    have y10r := h5.blk.rule 10 _ rfl
    have hse := fun (w' : World) (hb : Below wr.heap.size wr w') (A1 A2 A3 : Option Addr) (n1 n2 n3 c1 c2 c3 : Nat) => nsend_calls (h5.below hb) 3 A1 A2 A3 n1 n2 n3 c1 c2 c3
    rw [show N.hand.id = N.id from rfl] at hse
    have HSE := hide hse
    have H5 := hide h5
    clear h5 hse
    go_upto_region 15 with fail
    refine lxR (fun w' => Below wr.heap.size wr w') [] 0 [(2, 0), (2, 1), (2, 2), (2, 3), (2, 4), (2, 5), (0, 6), (2, 7), (2, 8), (2, 9), (2, 10), (2, 11), (2, 12), (0, 13), (2, 15), (1, 14), (2, 16), (1, 17)] #[true, true, true, true, true, true, true, true, true, true, true, true, true, true, true, true, true, true] (by kernel_rfl) (by kernel_rfl) (by decide) (by kernel_rfl) (by kernel_rfl) (fun _ _ _ _ _ h => h) (by (first | exact rr.drew | exact belowL rr _ | exact (belowL rr _).drew | exact hb7')) (fun hS0 => ?_)
    simp only [List.map_cons, List.map_nil, List.getElem?_toArray, List.getElem?_cons_succ, List.getElem?_cons_zero]
    (iterate 6 ((apply lxP (by rfl); (focus (intro w; go_simp; (try with_reducible rfl); done)); simp only [Act.put, zA25, zB25, zC25]))); (apply lxT (by rfl); (focus (intro w hw; (try dsimp only at hw); go_simp; (try with_reducible rfl); done)); simp only [Act.put, zA25, zB25, zC25]); (iterate 6 ((apply lxP (by rfl); (focus (intro w; go_simp; (try with_reducible rfl); done)); simp only [Act.put, zA25, zB25, zC25]))); (apply lxT (by rfl); (focus (intro w hw; (try dsimp only at hw); go_simp; (try with_reducible rfl); done)); simp only [Act.put, zA25, zB25, zC25]); (apply lxP (by rfl); (focus (intro w; go_simp; (try with_reducible rfl); done)); simp only [Act.put, zA25, zB25, zC25]); (refine lxE (by rfl) ?_; go_simp; refine lxB (by (first | exact rr.drew | exact belowL rr _ | exact (belowL rr _).drew | exact hb7')) (fun hS1 => ?_)); (apply lxP (by rfl); (focus (intro w; go_simp; (try with_reducible rfl); done)); simp only [Act.put, zA25, zB25, zC25]); (refine lxE (by rfl) ?_; go_simp; ((go_at_call 97; with_reducible refine (HSE.out _ (belowL rr _).drew _ _ _ _ _ _ _ _ _).mono ?_; rintro e w7 ⟨rfl, hb7⟩; have hb7' := belowA hb7 (belowL rr _).drew)); refine lxB (by (first | exact rr.drew | exact belowL rr _ | exact (belowL rr _).drew | exact hb7')) (fun hS1 => ?_))
    refine lxN (fun _ => wqD (by kernel_rfl) ?_ _)
    go_wp2
    go_end0
    exact ⟨rfl, H5.out.below hb7', ((((H2.out.2.below H3.out.2).below H4.out).below hO.out.2).below hb7')⟩
end
end Go.Proofs.YteppdlkmjgladaaGreat
