/- One text of: Nm. -/
import Derived.Test.YteppdlkmjgladaaGreatQNl
namespace Go.Proofs.YteppdlkmjgladaaGreat
open Go.RowKit Go.Proofs Go.Maps
set_option linter.unusedVariables false
set_option linter.unusedSimpArgs false
theorem zA28 {α : Type} (l : List α) (i : Nat) (a : α) : l.toArray.setIfInBounds i a = (l.set i a).toArray := by simp
theorem zB28 {α : Type} (x a : α) (l : List α) : (x :: l).set 0 a = a :: l := rfl
theorem zC28 {α : Type} (x a : α) (l : List α) (n : Nat) : (x :: l).set (n + 1) a = x :: l.set n a := rfl

def Nd.beat (N : Nd) : Nd := { N with beats := N.beats + 1 }
def Nd.wait (N : Nd) : Nd := { N with quiet := N.quiet + 1 }
def Nd.tick (N : Nd) : Nd := if N.dead then N else if N.role = 2 then (if N.beat.beats % 3 = 0 then N.beat.hand else N.beat) else if 12 + 7 * N.id < N.wait.quiet then N.wait.stand else N.wait
section
variable {w w' : World} {nb : Nat} {p : Pl} {Fl Fv : List Nat} {N : Nd}
theorem NP.nodeOwn {w1 : World} {N1 : Nd} (h : NP w1 nb p Fl Fv N1) (hc : Chg [nb] w w1) : NodeT w w1 nb (ft nb p Fl Fv) N1 := NP.node h (hc.mono (fun z hz => Or.inl (ft_mem.2 (Or.inl (List.mem_singleton.1 hz))))) (fun x hx => Or.inl hx)
set_option maxHeartbeats 4000000 in
set_option maxRecDepth 100000 in
theorem ntick_calls (h : NP w nb p Fl Fv N) (hs : Solo N) (hl : N.L.length ≤ 900) (hr : N.role = 2 → 1 ≤ N.L.length) (hbt : N.bt < 2 ^ 57) (hq : 0 ≤ N.quiet ∧ N.quiet ≤ 1000000) (hbe : 0 ≤ N.beats ∧ N.beats ≤ 1000000) {g : Nat} (hV : VltOk N.V g) (hg : g + 1 < 2 ^ 60) :
  Calls Tryz.prog 20 #[.pointer (some ⟨nb, 0, none⟩)] w fun e w' => e = .returned (.tuple #[]) ∧ NodeT w w' nb (ft nb p Fl Fv) N.tick ∧ VltOk N.tick.V (g + 2) := by
 obtain ⟨R, hR⟩ : ∃ R, N.tick = R := ⟨_, rfl⟩
 rw [hR]
 unfold Nd.tick at hR
 have r0 := Below.refl w.heap.size w
 have y2 : w.cell? ⟨nb, 2, none⟩ = some (.bool N.dead) := h.blk.cell 2
 have y13 : w.cell? ⟨nb, 13, none⟩ = some (.int .i64 N.role) := h.blk.cell 13
 by_cases hd : N.dead = true
 ·rw [if_pos hd] at hR
  subst hR
  rw [hd] at y2
  have HF := hide (And.intro (NP.nodeOwn h (Chg.refl [nb] w)) (hV.up (show g ≤ g + 2 by omega)))
  clear hd h hs hV
  go_enter Tryz.func20, Tryz.ntmps20
  go_wp2
  refine bodyPost_ret (results_none rfl _ _ _) rfl ?_
  exact ⟨rfl, HF.out⟩
 ·rw [if_neg hd] at hR
  have hd' : N.dead = false := by simpa using hd
  rw [hd'] at y2
  clear hd
  by_cases hro : N.role = 2
  ·rw [if_pos hro] at hR
   rw [hro] at y13
   have q16 := h.blk.cell 16
   have f16 := h.blk.frozen 16
   simp only [Nd.cells, List.getElem?_cons_succ, List.getElem?_cons_zero] at q16
   have c1 : IntKind.i64.wrap (N.beats + 1) = N.beats + 1 := IntWalk.i64_in _ (by omega)
   have b1 := h.blk.set 16 (.int .i64 (N.beats + 1))
   have cc : Chg [nb] w (w.setCell ⟨nb, 16, none⟩ (.int .i64 (N.beats + 1))) := (Chg.refl [nb] w).setCell (p := ⟨nb, 16, none⟩) (Or.inl (by simp)) _
   have h1 := h.own cc (dead := N.dead) (bt := N.bt) (bv := N.bv) (commit := N.commit) (told := N.told) (role := N.role) (leader := N.leader) (quiet := N.quiet) (beats := N.beats + 1) b1
   rw [show ({ N with beats := N.beats + 1 } : Nd) = N.beat from rfl] at h1
   obtain ⟨w1, hw1⟩ : ∃ w1, w.setCell ⟨nb, 16, none⟩ (.int .i64 (N.beats + 1)) = w1 := ⟨_, rfl⟩
   rw [hw1] at h1 cc
   have HSP := hide (nspread_calls h1 (⟨hs.sm, hs.id, hs.L, hs.n, hs.nx, hs.bt, hs.com⟩ : Solo N.beat) (hr hro))
   have HF := hide (And.intro (NP.nodeOwn h1 cc) (And.intro cc (And.intro (hV.up (show g ≤ g + 2 by omega)) hw1)))
   have hbe0 : 0 ≤ N.beats + 1 := by omega
   by_cases hz : N.beat.beats % 3 = 0
   ·rw [if_pos hz] at hR
    have HR := hide hR
    have hz' : (N.beats + 1) % 3 = 0 := hz
    have u1 : ((N.beats + 1) % 3 == 0) = true := by simp [hz']
    clear h h1 hs hV b1 cc hw1 hz hz' hR hro hr hd'
    go_enter Tryz.func20, Tryz.ntmps20
    go_wp2_with fail
    rw [HF.out.2.2.2]
    with_reducible refine HSP.out.mono ?_
    rintro e w2 ⟨rfl, h2, hc2⟩
    have H2 := hide (NP.node h2 ((HF.out.2.1.mono (L' := ft nb p Fl Fv) (fun z hz => Or.inl (ft_mem.2 (Or.inl (List.mem_singleton.1 hz))))).trans hc2 (fun z hz => Or.inl (ft_mem.2 (Or.inr (Or.inl (List.mem_singleton.1 hz)))))) (fun x hx => Or.inl hx))
    clear h2 hc2 HSP
    go_wp2
    refine bodyPost_ret (results_none rfl _ _ _) rfl ?_
    obtain rfl := HR.out
    exact ⟨rfl, H2.out, HF.out.2.2.1⟩
   ·rw [if_neg hz] at hR
    have HR := hide hR
    have hz' : ¬ (N.beats + 1) % 3 = 0 := hz
    have u1 : ((N.beats + 1) % 3 == 0) = false := by simpa using hz'
    clear hz'
    clear h h1 hs hV b1 cc hw1 hz hR hro hr hd' HSP
    go_enter Tryz.func20, Tryz.ntmps20
    go_wp2
    refine bodyPost_ret (results_none rfl _ _ _) rfl ?_
    obtain rfl := HR.out
    rw [HF.out.2.2.2]
    exact ⟨rfl, HF.out.1, HF.out.2.2.1⟩
  ·rw [if_neg hro] at hR
   have u0 : (N.role == 2) = false := by simpa using hro
   have q15 := h.blk.cell 15
   have f15 := h.blk.frozen 15
   have y0 : w.cell? ⟨nb, 0, none⟩ = some (.int .i64 N.id) := h.blk.cell 0
   simp only [Nd.cells, List.getElem?_cons_succ, List.getElem?_cons_zero] at q15
   have c1 : IntKind.i64.wrap (N.quiet + 1) = N.quiet + 1 := IntWalk.i64_in _ (by omega)
   have c2 : IntKind.i64.wrap (7 * N.id) = 7 * N.id := IntWalk.i64_in _ (by have := hs.id; omega)
   have c3 : IntKind.i64.wrap (12 + 7 * N.id) = 12 + 7 * N.id := IntWalk.i64_in _ (by have := hs.id; omega)
   have b1 := h.blk.set 15 (.int .i64 (N.quiet + 1))
   obtain ⟨w1, hw1⟩ : ∃ w1, w.setCell ⟨nb, 15, none⟩ (.int .i64 (N.quiet + 1)) = w1 := ⟨_, rfl⟩
   have cc : Chg [nb] w w1 := by rw [← hw1]; exact (Chg.refl [nb] w).setCell (p := ⟨nb, 15, none⟩) (Or.inl (by simp)) _
   rw [hw1] at b1
   have h1 := h.own cc (dead := N.dead) (bt := N.bt) (bv := N.bv) (commit := N.commit) (told := N.told) (role := N.role) (leader := N.leader) (quiet := N.quiet + 1) (beats := N.beats) b1
   rw [show ({ N with quiet := N.quiet + 1 } : Nd) = N.wait from rfl] at h1
   have y0r := h1.blk.rule 0 _ rfl
   have y15r := h1.blk.rule 15 _ rfl
   rw [show N.wait.id = N.id from rfl] at y0r
   rw [show N.wait.quiet = N.quiet + 1 from rfl] at y15r
   have r1 := Below.refl w1.heap.size w1
   have hs1 : Solo N.wait := ⟨hs.sm, hs.id, hs.L, hs.n, hs.nx, hs.bt, hs.com⟩
   have HST := hide (nstand_calls (h1.below r1.drew) hs1 hl hbt (show VltOk N.wait.V g from hV) hg)
   have HF := hide (And.intro h1 (And.intro cc (And.intro hV hw1)))
   by_cases hz : 12 + 7 * N.id < N.wait.quiet
   ·rw [if_pos hz] at hR
    have HR := hide hR
    have u1 : decide (12 + 7 * N.id < N.quiet + 1) = true := decide_eq_true hz
    clear h h1 hs hV b1 cc hw1 hz hR hro hr hd' hs1
    go_enter Tryz.func20, Tryz.ntmps20
    go_upto_region 6 with fail
    rw [HF.out.2.2.2]
    clear q15 f15 y0
    refine lxR (fun w' => Below w1.heap.size w1 w') [] 0 [(2, 0), (2, 1), (2, 2), (0, 3), (2, 4), (2, 5), (2, 6), (0, 7), (2, 8), (2, 9), (2, 10)] #[true, true, true, true, true, true, true, true, true, true, true] (by kernel_rfl) (by kernel_rfl) (by decide) (by kernel_rfl) (by kernel_rfl) (fun _ _ _ _ _ h => h) (by (exact r1.drew)) (fun hS0 => ?_)
    simp only [List.map_cons, List.map_nil, List.getElem?_toArray, List.getElem?_cons_succ, List.getElem?_cons_zero]
    (iterate 3 ((apply lxP (by rfl); (focus (intro w; go_simp; (try with_reducible rfl); done)); simp only [Act.put, zA28, zB28, zC28]))); (apply lxT (by rfl); (focus (intro w hw; (try dsimp only at hw); go_simp; (try with_reducible rfl); done)); simp only [Act.put, zA28, zB28, zC28]); (iterate 3 ((apply lxP (by rfl); (focus (intro w; go_simp; (try with_reducible rfl); done)); simp only [Act.put, zA28, zB28, zC28]))); (apply lxT (by rfl); (focus (intro w hw; (try dsimp only at hw); go_simp; (try with_reducible rfl); done)); simp only [Act.put, zA28, zB28, zC28]); (iterate 3 ((apply lxP (by rfl); (focus (intro w; go_simp; (try with_reducible rfl); done)); simp only [Act.put, zA28, zB28, zC28])))
    refine lxN (fun _ => wqD (by kernel_rfl) ?_ _)
    go_wp2_with fail
    with_reducible refine HST.out.mono ?_
    rintro e w2 ⟨rfl, hn2, hok2⟩
    have H2 := hide (NodeT.step ((HF.out.2.1.below r1.drew).mono (L' := ft nb p Fl Fv) (fun z hz => Or.inl (ft_mem.2 (Or.inl (List.mem_singleton.1 hz))))) (fun x hx => Or.inl hx) hn2)
    have HOK := hide hok2
    clear hn2 hok2 HST
    go_wp2
    go_end0
    obtain rfl := HR.out
    exact ⟨rfl, H2.out, HOK.out⟩
   ·rw [if_neg hz] at hR
    have HR := hide hR
    have u1 : decide (12 + 7 * N.id < N.quiet + 1) = false := decide_eq_false hz
    clear h h1 hs hV b1 cc hw1 hz hR hro hr hd' hs1 HST
    go_enter Tryz.func20, Tryz.ntmps20
    go_upto_region 6 with fail
    rw [HF.out.2.2.2]
    clear q15 f15 y0
    refine lxR (fun w' => Below w1.heap.size w1 w') [] 0 [(2, 0), (2, 1), (2, 2), (0, 3), (2, 4), (2, 5), (2, 6), (0, 7), (2, 8), (2, 9), (2, 10)] #[true, true, true, true, true, true, true, true, true, true, true] (by kernel_rfl) (by kernel_rfl) (by decide) (by kernel_rfl) (by kernel_rfl) (fun _ _ _ _ _ h => h) (by (exact r1.drew)) (fun hS0 => ?_)
    simp only [List.map_cons, List.map_nil, List.getElem?_toArray, List.getElem?_cons_succ, List.getElem?_cons_zero]
    (iterate 3 ((apply lxP (by rfl); (focus (intro w; go_simp; (try with_reducible rfl); done)); simp only [Act.put, zA28, zB28, zC28]))); (apply lxT (by rfl); (focus (intro w hw; (try dsimp only at hw); go_simp; (try with_reducible rfl); done)); simp only [Act.put, zA28, zB28, zC28]); (iterate 3 ((apply lxP (by rfl); (focus (intro w; go_simp; (try with_reducible rfl); done)); simp only [Act.put, zA28, zB28, zC28]))); (apply lxT (by rfl); (focus (intro w hw; (try dsimp only at hw); go_simp; (try with_reducible rfl); done)); simp only [Act.put, zA28, zB28, zC28]); (iterate 3 ((apply lxP (by rfl); (focus (intro w; go_simp; (try with_reducible rfl); done)); simp only [Act.put, zA28, zB28, zC28])))
    refine lxN (fun _ => wqD (by kernel_rfl) ?_ _)
    go_wp2
    go_end0
    obtain rfl := HR.out
    exact ⟨rfl, NP.nodeOwn (HF.out.1.below r1.drew) (HF.out.2.1.below r1.drew), HF.out.2.2.1.up (by omega)⟩
end
end Go.Proofs.YteppdlkmjgladaaGreat
