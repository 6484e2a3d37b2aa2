/- One text of: Nm Nn No. -/
import Derived.Test.YtcahcjfgmdpdoaaGreatQNC
set_option maxHeartbeats 4000000
set_option maxRecDepth 100000
namespace Go.Proofs.YtcahcjfgmdpdoaaGreat
open Go.RowKit Go.Proofs Go.Maps
set_option linter.unusedVariables false
set_option linter.unusedSimpArgs false

def Nd.beat (N : Nd) : Nd := { N with beats := N.beats + 1 }
def Nd.wait (N : Nd) : Nd := { N with quiet := N.quiet + 1 }
def Nd.tick (N : Nd) : Nd := if N.dead then N else if N.role = 2 then (if N.beat.beats % 3 = 0 then N.beat.hand else N.beat) else if 12 + 7 * N.id < N.wait.quiet then N.wait.stand else N.wait
section
variable {w w' : World} {nb : Nat} {p : Pl} {Fl Fv : List Nat} {N : Nd}
theorem NP.nodeOwn {w1 : World} {N1 : Nd} (h : NP w1 nb p Fl Fv N1) (hc : Chg [nb] w w1) : NodeT w w1 nb (ft nb p Fl Fv) N1 := NP.node h (hc.mono (fun z hz => Or.inl (ft_mem.2 (Or.inl (List.mem_singleton.1 hz))))) (fun x hx => Or.inl hx)
theorem ntick_calls (h : NP w nb p Fl Fv N) (hs : Solo N) (hl : N.L.length ≤ 900) (hr : N.role = 2 → 1 ≤ N.L.length) (hbt : N.bt < 2 ^ 57) (hq : 0 ≤ N.quiet ∧ N.quiet ≤ 1000000) (hbe : 0 ≤ N.beats ∧ N.beats ≤ 1000000) {g : Nat} (hV : VltOk N.V g) (hg : g + 1 < 2 ^ 60) :
  Calls Tryz.prog 19 #[.pointer (some ⟨nb, 0, none⟩)] w fun e w' => e = .returned (.tuple #[]) ∧ NodeT w w' nb (ft nb p Fl Fv) N.tick ∧ VltOk N.tick.V (g + 2) := by
 obtain ⟨R, hR⟩ : ∃ R, N.tick = R := ⟨_, rfl⟩; rw [hR]; unfold Nd.tick at hR; have r0 := Below.refl w.heap.size w; have y2 : w.cell? ⟨nb, 2, none⟩ = some (.bool N.dead) := h.blk.cell 2; have y13 : w.cell? ⟨nb, 13, none⟩ = some (.int .i64 N.role) := h.blk.cell 13
 by_cases hd : N.dead = true
 ·rw [if_pos hd] at hR
  subst hR; rw [hd] at y2; have HF := hd2 (NP.nodeOwn h (Chg.refl [nb] w)) (hV.up (show g ≤ g + 2 by omega)); clear hd h hs hV
  go_enter Tryz.func19, Tryz.ntmps19
  go_wp2
  refine bodyPost_ret (results_none rfl _ _ _) rfl ?_
  exact ⟨rfl, HF.out⟩
 ·rw [if_neg hd] at hR
  have hd' : N.dead = false := by simpa using hd
  rw [hd'] at y2; clear hd
  by_cases hro : N.role = 2
  ·rw [if_pos hro] at hR
   rw [hro] at y13; have q16 := h.blk.cell 16; have f16 := h.blk.frozen 16; simp only [Nd.cells, List.getElem?_cons_succ, List.getElem?_cons_zero] at q16; have c1 : IntKind.i64.wrap (N.beats + 1) = N.beats + 1 := IntWalk.i64_in _ (by omega); have b1 := h.blk.set 16 (.int .i64 (N.beats + 1)); have cc : Chg [nb] w (w.setCell ⟨nb, 16, none⟩ (.int .i64 (N.beats + 1))) := (Chg.refl [nb] w).setCell (p := ⟨nb, 16, none⟩) (Or.inl (by simp)) _; have h1 := h.own cc (dead := N.dead) (bt := N.bt) (bv := N.bv) (commit := N.commit) (told := N.told) (role := N.role) (leader := N.leader) (quiet := N.quiet) (beats := N.beats + 1) b1; rw [show ({ N with beats := N.beats + 1 } : Nd) = N.beat from rfl] at h1; obtain ⟨w1, hw1⟩ : ∃ w1, w.setCell ⟨nb, 16, none⟩ (.int .i64 (N.beats + 1)) = w1 := ⟨_, rfl⟩; rw [hw1] at h1 cc; have HSP := hide (nspread_calls h1 (⟨hs.sm, hs.id, hs.L, hs.n, hs.nx, hs.bt, hs.com⟩ : Solo N.beat) (hr hro)); have HF := hd4 (NP.nodeOwn h1 cc) cc (hV.up (show g ≤ g + 2 by omega)) hw1
   have hbe0 : 0 ≤ N.beats + 1 := by omega
   by_cases hz : N.beat.beats % 3 = 0
   ·rw [if_pos hz] at hR
    have HR := hide hR; have hz' : (N.beats + 1) % 3 = 0 := hz
    have u1 : ((N.beats + 1) % 3 == 0) = true := by simp [hz']
    clear h h1 hs hV b1 cc hw1 hz hz' hR hro hr hd'
    go_enter Tryz.func19, Tryz.ntmps19
    go_wp2_with fail; rw [HF.out.2.2.2]
    with_reducible refine HSP.out.mono ?_
    rintro e w2 ⟨rfl, h2, hc2⟩; have H2 := hide (NP.node h2 ((HF.out.2.1.mono (L' := ft nb p Fl Fv) (fun z hz => Or.inl (ft_mem.2 (Or.inl (List.mem_singleton.1 hz))))).trans hc2 (fun z hz => Or.inl (ft_mem.2 (Or.inr (Or.inl (List.mem_singleton.1 hz)))))) (fun x hx => Or.inl hx)); clear h2 hc2 HSP; go_wp2
    refine bodyPost_ret (results_none rfl _ _ _) rfl ?_
    obtain rfl := HR.out
    exact ⟨rfl, H2.out, HF.out.2.2.1⟩
   ·rw [if_neg hz] at hR
    have HR := hide hR; have hz' : ¬ (N.beats + 1) % 3 = 0 := hz
    have u1 : ((N.beats + 1) % 3 == 0) = false := by simpa using hz'
    clear hz'; clear h h1 hs hV b1 cc hw1 hz hR hro hr hd' HSP
    go_enter Tryz.func19, Tryz.ntmps19
    go_wp2
    refine bodyPost_ret (results_none rfl _ _ _) rfl ?_
    obtain rfl := HR.out; rw [HF.out.2.2.2]
    exact ⟨rfl, HF.out.1, HF.out.2.2.1⟩
  ·rw [if_neg hro] at hR
   have u0 : (N.role == 2) = false := by simpa using hro
   have q15 := h.blk.cell 15; have f15 := h.blk.frozen 15; have y0 : w.cell? ⟨nb, 0, none⟩ = some (.int .i64 N.id) := h.blk.cell 0; simp only [Nd.cells, List.getElem?_cons_succ, List.getElem?_cons_zero] at q15; have c1 : IntKind.i64.wrap (N.quiet + 1) = N.quiet + 1 := IntWalk.i64_in _ (by omega); have c2 : IntKind.i64.wrap (7 * N.id) = 7 * N.id := IntWalk.i64_in _ (by have := hs.id; omega); have c3 : IntKind.i64.wrap (12 + 7 * N.id) = 12 + 7 * N.id := IntWalk.i64_in _ (by have := hs.id; omega); have b1 := h.blk.set 15 (.int .i64 (N.quiet + 1)); obtain ⟨w1, hw1⟩ : ∃ w1, w.setCell ⟨nb, 15, none⟩ (.int .i64 (N.quiet + 1)) = w1 := ⟨_, rfl⟩
   have cc : Chg [nb] w w1 := by rw [← hw1]; exact (Chg.refl [nb] w).setCell (p := ⟨nb, 15, none⟩) (Or.inl (by simp)) _
   rw [hw1] at b1; have h1 := h.own cc (dead := N.dead) (bt := N.bt) (bv := N.bv) (commit := N.commit) (told := N.told) (role := N.role) (leader := N.leader) (quiet := N.quiet + 1) (beats := N.beats) b1; rw [show ({ N with quiet := N.quiet + 1 } : Nd) = N.wait from rfl] at h1; have y0r := h1.blk.rule 0 _ rfl; have y15r := h1.blk.rule 15 _ rfl; rw [show N.wait.id = N.id from rfl] at y0r; rw [show N.wait.quiet = N.quiet + 1 from rfl] at y15r; have r1 := Below.refl w1.heap.size w1; have hs1 : Solo N.wait := ⟨hs.sm, hs.id, hs.L, hs.n, hs.nx, hs.bt, hs.com⟩; have HST := hide (nstand_calls (h1.below r1.drew) hs1 hl hbt (show VltOk N.wait.V g from hV) hg); have HF := hd4 h1 cc hV hw1
   by_cases hz : 12 + 7 * N.id < N.wait.quiet
   ·rw [if_pos hz] at hR
    have HR := hide hR; have u1 : decide (12 + 7 * N.id < N.quiet + 1) = true := decide_eq_true hz; clear h h1 hs hV b1 cc hw1 hz hR hro hr hd' hs1
    go_enter Tryz.func19, Tryz.ntmps19
    go_upto_region 6 with fail
    rw [HF.out.2.2.2]; clear q15 f15 y0
    refine region_lx (fun w' => Below w1.heap.size w1 w') [] [2, 2, 2, 0, 2, 2, 2, 0, 2, 2, 2] (by (exact r1.drew)) (fun hS0 => ?_)
    (iterate 11 (first | refine lxt ?_ | refine lxp ?_))
    refine lxN ?_
    go_wp2_with fail
    with_reducible refine HST.out.mono ?_
    rintro e w2 ⟨rfl, hn2, hok2⟩; have H2 := hide (NodeT.step ((HF.out.2.1.below r1.drew).mono (L' := ft nb p Fl Fv) (fun z hz => Or.inl (ft_mem.2 (Or.inl (List.mem_singleton.1 hz))))) (fun x hx => Or.inl hx) hn2); have HOK := hide hok2; clear hn2 hok2 HST; go_wp2
    go_end0
    obtain rfl := HR.out
    exact ⟨rfl, H2.out, HOK.out⟩
   ·rw [if_neg hz] at hR
    have HR := hide hR; have u1 : decide (12 + 7 * N.id < N.quiet + 1) = false := decide_eq_false hz; clear h h1 hs hV b1 cc hw1 hz hR hro hr hd' hs1 HST
    go_enter Tryz.func19, Tryz.ntmps19
    go_upto_region 6 with fail
    rw [HF.out.2.2.2]; clear q15 f15 y0
    refine region_lx (fun w' => Below w1.heap.size w1 w') [] [2, 2, 2, 0, 2, 2, 2, 0, 2, 2, 2] (by (exact r1.drew)) (fun hS0 => ?_)
    (iterate 11 (first | refine lxt ?_ | refine lxp ?_))
    refine lxN ?_
    go_wp2
    go_end0
    obtain rfl := HR.out
    exact ⟨rfl, NP.nodeOwn (HF.out.1.below r1.drew) (HF.out.2.1.below r1.drew), HF.out.2.2.1.up (by omega)⟩
end

section
variable {w w' : World} {nb : Nat} {p : Pl} {Fl Fv : List Nat} {N : Nd}
theorem nrest_no (h : NP w nb p Fl Fv N) :
  Calls Tryz.prog 90 #[.pointer (some ⟨nb, 0, none⟩)] w fun e w' => e = .returned (.tuple #[.slice none 0 0, .int .i64 0, .bool false]) ∧ w = w' := by
 have y12 : w.cell? ⟨nb, 12, none⟩ = some (.bool false) := h.blk.cell 12; clear h
 go_enter Tryz.func90, Tryz.ntmps90
 go_wp2
 go_ret3
 exact ⟨rfl, rfl⟩
def Nd.prop (N : Nd) (b : List Nat) : Nd := ((N.pushE 1 b).hand).settle
theorem npropP_calls (h : NP w nb p Fl Fv N) (hs : Solo N) (hm : MatOk N) (hd : N.dead = false) (hr : N.role = 2) (hl : N.L.length ≤ 900) {g : Nat} (hV : VltOk N.V g) (hg : g < 2 ^ 60) {A : Option Addr} {c : Nat} {b : List Nat} (hb : Rb w [] A c b) (hbb : ∀ x ∈ b, x < 256) (hbl : b.length ≤ 800) :
  Calls Tryz.prog 22 #[.pointer (some ⟨nb, 0, none⟩), .slice A b.length c] w fun e w' => e = .returned (.tuple #[.int .i64 (N.L.length + 1 : Nat), .int .i64 N.bt, .int .i64 0]) ∧ NodeP w w' nb p Fl Fv (N.prop b) ∧ VltOk (N.prop b).V (g + 1) := by
 have y2 : w.cell? ⟨nb, 2, none⟩ = some (.bool false) := by have := h.blk.cell 2; simp only [Nd.cells, List.getElem?_cons_succ, List.getElem?_cons_zero, hd] at this; exact this
 have y13 : w.cell? ⟨nb, 13, none⟩ = some (.int .i64 2) := by have := h.blk.cell 13; simp only [Nd.cells, List.getElem?_cons_succ, List.getElem?_cons_zero, hr] at this; exact this
 have u1 : ¬ (800 : Int) < b.length := by omega
 have r0 := Below.refl w.heap.size w; have s0 : w.drew.cell? ⟨nb, 3, none⟩ = some (.int .i64 N.bt) := h.blk.rule 3 _ rfl _ r0.drew; have HCL := hide (cloneB_calls A c b w.drew (by omega) (hb.below r0.drew).rd); have H := hd8 h hs hm hl hV hg hbb hbl; clear h hs hm hd hr hV hb hbb; obtain ⟨i, hi⟩ : ∃ i, N.L.length + 1 = i := ⟨_, rfl⟩; rw [hi]
 have HPUr : Hid (∀ (w1 : World) (A1 : Option Addr) (c1 : Nat), Below w.heap.size w w1 → OwnB w.drew w1 A1 c1 b → Calls Tryz.prog 47 #[.pointer (some ⟨nb, 0, none⟩), .int .i64 1, .slice A1 b.length c1] w1 fun e w' => e = .returned (.int .i64 i) ∧ NodeP w1 w' nb p Fl Fv (N.pushE 1 b) ∧ VltOk (N.pushE 1 b).V (g + 1)) := hide (fun w1 A1 c1 hb1 ho => by
  have hcm : c1 ≤ maxLen := by obtain ⟨A2, c2, e, _, h2, _⟩ := own_view ho.1; cases e; exact h2
  have h9 := npush_calls (H.out.1.below hb1) H.out.2.2.2.2.1 H.out.2.2.2.2.2.1 (by have := H.out.2.1.bt; omega) H.out.2.1.id (by have := H.out.2.2.2.1; omega) 1 (by omega) ho.bt H.out.2.2.2.2.2.2.1 (by have := H.out.2.2.2.2.2.2.2; omega) hcm; rw [hi] at h9
  exact h9)
 go_enter Tryz.func22, Tryz.ntmps22
 go_upto_region 5 with fail
 clear y2 y13
 refine region_lxf (fun w' => w'.cell? ⟨nb, 3, none⟩ = some (.int .i64 N.bt)) [] 0 [(2,0),(2,1),(2,4),(2,5),(2,6),(2,7),(0,8),(1,2),(1,3),(2,9),(2,10)] (bzA 11 2047) (by (first | exact s0 | exact s1 | exact s2)) (fun hS0 => ?_)
 (iterate 7 (first | refine lxt ?_ | refine lxp ?_)); (iterate 2 ((refine lxe ?_; go_simp; (first | (go_at_call 48; (with_reducible refine HCL.out.mono ?_); rintro e w1 ⟨A1, c1, rfl, ho1, hb1⟩; have hb01 := belowA hb1 r0.drew; have s1 : w1.cell? ⟨nb, 3, none⟩ = some (.int .i64 N.bt) := H.out.1.blk.rule 3 _ rfl _ hb01) | (go_at_call 47; (with_reducible refine (HPUr.out _ _ _ hb01 ho1).mono ?_); rintro e w2 ⟨rfl, ⟨Fl2, Fv2, h2, hc2, hl2, hv2⟩, hok2⟩; have s2 : w2.cell? ⟨nb, 3, none⟩ = some (.int .i64 N.bt) := by have h8 := h2.blk.cell 3; simp only [Nd.cells, List.getElem?_cons_succ, List.getElem?_cons_zero, (N.pushE_same 1 b).2.1] at h8; exact h8)); refine lxB (by (first | exact s0 | exact s1 | exact s2)) (fun hS1 => ?_)))); (iterate 2 (refine lxp ?_))
 refine lxN (lxd ?_)
 have hsame := N.pushE_same 1 b; have hs1 := H.out.2.1.push (k := 1) (b := b) (by omega) (by omega) H.out.2.2.2.1; have hm1 := H.out.2.2.1.push 1 b
 have hn1 : 1 ≤ (N.pushE 1 b).L.length := by rw [hsame.2.2.2.1, List.length_append, List.length_singleton]; omega
 obtain ⟨N1, hN1⟩ : ∃ N1, N.pushE 1 b = N1 := ⟨_, rfl⟩; rw [hN1] at h2 hok2 hs1 hm1 hn1; have HSP := hide (nspread_calls h2 hs1 hn1); have hc02 : Chg (ft nb p Fl Fv) w w2 := (Chg.of_below hb01).trans hc2 (fun z hz => Or.inl hz); have hl02 := ft_step (nb := nb) (p := p) (s := w.heap.size) (fun x hx => (hl2 x hx).imp id (fun h => Nat.le_trans hb01.size h)) (fun x hx => (hv2 x hx).imp id (fun h => Nat.le_trans hb01.size h)); have HLV := hd2 (fun x hx => (hl2 x hx).imp id (fun h => Nat.le_trans hb01.size h)) (fun x hx => (hv2 x hx).imp id (fun h => Nat.le_trans hb01.size h)); have H2 := hd7 hs1 hm1 hn1 hc02 hl02 hok2 hN1; clear h2 hc2 hl2 hv2 hok2 hs1 hm1 hn1 hc02 hl02 hsame hN1 s0 s1 s2 hS0 hS1 ho1 hb1 hb01 HCL HPUr; go_wp2_with fail
 with_reducible refine HSP.out.mono ?_
 rintro e w5 ⟨rfl, h5, hc5⟩; have HSE := hide (nsettle_calls h5 (H2.out.1.hand H2.out.2.2.1) H2.out.2.1); have hc05 := H2.out.2.2.2.1.trans hc5 (fun z hz => H2.out.2.2.2.2.1 z (ft_mem.2 (Or.inr (Or.inl (List.mem_singleton.1 hz))))); have HC5 := hide hc05; clear h5 hc5 hc05 HSP; go_wp2_with fail
 with_reducible refine HSE.out.mono ?_
 rintro e w6 ⟨rfl, h6, hc6⟩; have hc06 := HC5.out.trans hc6 (fun z hz => H2.out.2.2.2.2.1 z (ft_mem.2 (Or.inl (List.mem_singleton.1 hz))))
 have hle : N1.hand.settle = N.prop b := by unfold Nd.prop; rw [H2.out.2.2.2.2.2.2]
 have hv6 : VltOk N1.hand.settle.V (g + 1) := by rw [N1.hand.settle_same.1]; exact H2.out.2.2.2.2.2.1
 rw [hle] at h6 hv6; have HF : Hid (NodeP w w6 nb p Fl Fv (N.prop b) ∧ VltOk (N.prop b).V (g + 1)) := hide ⟨⟨_, _, h6, hc06, HLV.out.1, HLV.out.2⟩, hv6⟩; clear h6 hc6 hc06 hle hv6 HSE; go_wp2
 go_ret3
 exact ⟨rfl, HF.out⟩
end

structure ApR where
 i : Int
 e : Ent
def ApR.cells (x : ApR) : List Value := [.int .i64 x.i, .int .i64 x.e.t, .int .i64 x.e.k, .slice x.e.A x.e.b.length x.e.c]
def apCells (X : List ApR) : List Value := X.flatMap ApR.cells
def ApR.con (x : ApR) : Int × Con := (x.i, x.e.con)
theorem Tryz.infoAp : (Tryz.prog.info? 166).map (fun i => (i.zero, i.size, i.bytes)) = some (some (.agg #[.int .i64 0, .int .i64 0, .int .i64 0, .slice none 0 0]), 4, 48) := by kernel_rfl
def ApT (w w' : World) (A : Option Addr) (c : Nat) (X : List ApR) : Prop := w'.ownsRow 0 166 4 (.slice A X.length c) X.length (apCells X) ∧ (∀ x ∈ X, EntOk w' x.e) ∧ ∀ g, A.map Addr.block = some g → w.heap.size ≤ g
def Nd.tell (N : Nd) (k : Int) : Nd := { N with told := k }
theorem VltM.not {w : World} {v d x : Nat} {F : List Nat} {V : Vlt} {t : TypeId} {cs : List Value} (h : VltM w v d F V) (hb : Blk w x t cs) (h1 : t ≠ 95) (h2 : t ≠ 205) (h3 : t ≠ 262) (h4 : t ≠ 58) (h5 : t ≠ 198) (h6 : t ≠ 248) : x ∉ F := by
 obtain ⟨jp, mb, Fj, Fd, k1, ⟨X, k2, _⟩, k3, k4, rfl⟩ := h.ex
 intro hx
 simp only [List.mem_cons, List.mem_append] at hx
 rcases hx with rfl | rfl | hx | hx
 ·exact h1 (hb.one k1).2
 ·exact k2.gm.noBlk hb
 ·rcases k3 with ⟨j, _, k3⟩ | ⟨_, rfl⟩
  ·exact k3.ne hb h2 h3 hx
  ·cases hx
 ·exact k4.ne hb h4 h5 h6 hx
theorem NP.row {w w' : World} {nb : Nat} {p : Pl} {Fl Fv : List Nat} {N : Nd} {G : List Nat} (h : NP w nb p Fl Fv N) (hc : Chg G w w') (hG : ∀ z ∈ G, ∃ cs, Blk w z 166 cs) : NP w' nb p Fl Fv N := by
 have hh : HardL w G := fun z hz => by obtain ⟨cs, hb⟩ := hG z hz; exact hb.hard (by decide) (by decide)
 have hblk : ∀ {x : Nat} {t : TypeId} {cs : List Value}, Blk w x t cs → t ≠ 166 → x ∉ G := fun hb ht hx => by
  obtain ⟨cs', hb'⟩ := hG _ hx
  exact ht (hb.one hb').2
 have him : ∀ {x n : Nat} {f : Int → Option Int}, IM w x n f → x ∉ G := fun hi hx => by
  obtain ⟨cs', hb'⟩ := hG _ hx; obtain ⟨D, ⟨es, clock, hb, _⟩, _⟩ := hi; have := hb'.symm.trans hb
  simp at this
 refine ⟨h.blk.chg hc (hblk h.blk (by decide)), ?_, ?_, h.sm.chg hc hh, h.vo.chg hc hh, h.nx.chg hc (him h.nx), h.mx.chg hc (him h.mx), h.sep⟩
 ·refine h.vlt.chg hc (fun x hx hx' => ?_) hh.nob
  obtain ⟨cs', hb'⟩ := hG _ hx'
  exact h.vlt.not hb' (by decide) (by decide) (by decide) (by decide) (by decide) (by decide) hx
 ·refine h.log.keep hc (fun x hx hx' => ?_) (fun x hx => (hh x hx).notByte)
  obtain ⟨cs', hb'⟩ := hG _ hx'; obtain ⟨A, cap, es, hl, _, rfl⟩ := h.log; unfold foot at hx
  rcases List.mem_cons.1 hx with rfl | hx
  ·exact absurd (hb'.one hl.blk).2 (by decide)
  ·exact absurd (own_typed hl.own (by simpa using hx) hb') (by decide)
section
variable {w w' : World} {nb : Nat} {p : Pl} {Fl Fv : List Nat} {N : Nd}
theorem napplied_calls (h : NP w nb p Fl Fv N) (hf : FewC N.L) (hl : N.L.length ≤ 1000) {tn cn : Nat} (ht : N.told = tn) (hc : N.commit = cn) (htc : tn ≤ cn) (hcl : cn ≤ N.L.length) :
  Calls Tryz.prog 91 #[.pointer (some ⟨nb, 0, none⟩)] w fun e w' => ∃ A c X, e = .returned (.slice A X.length c) ∧ ApT w w' A c X ∧ X.length = cn - tn ∧ (∀ j (hj : j < X.length), ∃ hL : tn + j < N.L.length, X[j].con = (((tn + j + 1 : Nat) : Int), N.L[tn + j])) ∧ NP w' nb p Fl Fv (N.tell cn) ∧ Chg [nb] w w' := by
 have r0 := Below.refl w.heap.size w; obtain ⟨m, hm⟩ : ∃ m, cn - tn = m := ⟨_, rfl⟩; rw [hm]
 have h0 : N.tell tn = N := by unfold Nd.tell; rw [← ht]
 have HA0 : Hid (ApT w w none 0 []) := hide ⟨ownsRow_nil _ _ _, by simp, fun g hg => by cases hg⟩; have HN0 : Hid (NP w nb p Fl Fv (N.tell tn)) := hide (by rw [h0]; exact h); have H := hd6 hf hl hc htc hcl hm
 have hmn : tn + m = cn := by omega
 have hcn : cn ≤ 1000 := by omega
 clear h hf ht hc h0 hm
 go_enter Tryz.func91, Tryz.ntmps91
 go_wp2
 go_loopw [3, 4, 5, 6, 7, 8, 9, 10, 11, 12, 13, 14, 15, 16, 17, 18, 19, 20, 21, 22, 23, 24, 25, 26, 27, 28, 29, 30, 31, 32, 33, 34, 35, 36, 37, 38, 39, 40, 41, 42, 43, 44, 45] (fun ov _ _ _ _ _ _ _ _ _ _ _ _ _ _ _ _ _ _ _ _ _ _ _ _ _ _ _ _ _ _ _ _ _ _ _ _ _ _ _ _ _ _ wr => ∃ (k : Nat) (X : List ApR) (A : Option Addr) (c : Nat), k ≤ m ∧ ov = .slice A X.length c ∧ Hid (X.length = k ∧ ∀ j (hj : j < X.length), ∃ hL : tn + j < N.L.length, X[j].con = (((tn + j + 1 : Nat) : Int), N.L[tn + j])) ∧ Hid (ApT w wr A c X ∧ NP wr nb p Fl Fv (N.tell ((tn + k : Nat) : Int)) ∧ Chg [nb] w wr)) (fun ov _ _ _ _ _ _ _ _ _ _ _ _ _ _ _ _ _ _ _ _ _ _ _ _ _ _ _ _ _ _ _ _ _ _ _ _ _ _ _ _ _ _ _ => m - (match ov with | .slice _ n _ => n | _ => 0))
 case atStart => exact ⟨0, [], none, 0, Nat.zero_le _, rfl, hide ⟨rfl, fun j hj => absurd hj (by simp)⟩, hide ⟨HA0.out, HN0.out, Chg.refl _ _⟩⟩
 case round =>
  obtain ⟨k, X, A, c, hk, rfl, hX, hO⟩ := hrel; have rr := Below.refl wr.heap.size wr; have y11 := hO.out.2.1.blk.rule 11 _ rfl; have y10 := hO.out.2.1.blk.rule 10 _ rfl; have hX2 := hX; obtain ⟨q, hq⟩ : ∃ q, tn + k = q := ⟨_, rfl⟩; have hO2 := hO.out; rw [hq] at hO2; rw [show (N.tell ((tn + k : Nat) : Int)).told = ((tn + k : Nat) : Int) from rfl, hq] at y11; rw [show (N.tell ((tn + k : Nat) : Int)).commit = (cn : Int) from H.out.2.2.1] at y10; have y9 := hO2.2.1.blk.rule 9 _ rfl; have HO := hide hO2; clear hO hO2 hX2
  by_cases hlt : k < m
  ·have d1 : decide (q < cn) = true := decide_eq_true (by omega)
   obtain ⟨q1, hq1⟩ : ∃ q1, q + 1 = q1 := ⟨_, rfl⟩
   have c1 : IntKind.i64.wrap ((q : Int) + 1) = (q1 : Int) := by rw [IntWalk.i64_in _ (by omega)]; omega
   have hqL : q < N.L.length := by omega
   have HG : Hid (∀ w', Below wr.heap.size wr w' → Calls Tryz.prog 134 #[.pointer (some ⟨p.lb, 0, none⟩), .int .i64 (q1 : Int)] w' fun e w'' => ∃ x : Ent, e = .returned (.tuple #[.agg #[.int .i64 x.t, .int .i64 x.k, .slice x.A x.b.length x.c], .bool true]) ∧ x.con = N.L[q] ∧ EntOk w'' x ∧ Below w'.heap.size w' w'') := hide (fun w' hb => lg_get q (HO.out.2.1.below hb).log hqL H.out.1 (Int.le_refl _) (by omega) (show N.L.length ≤ 1000000 by omega) (by omega))
   go_upto_region 2 with fail
   refine region_lx (fun w' => Below wr.heap.size wr w') [] [2, 2, 2, 0, 2, 2, 2, 0, 2] (by (exact rr.drew)) (fun hS0 => ?_)
   (iterate 9 (first | refine lxt ?_ | refine lxp ?_))
   refine lxN ?_
   have r3 : Below wr.heap.size wr (wr.alloc (.cells #[.int .i64 0, .int .i64 0, .slice none 0 0] 157)).drew.drew := (belowL rr _).drew.drew; have HR3 := hide r3; clear r3; have bz : Blk (wr.alloc (.cells #[.int .i64 0, .int .i64 0, .slice none 0 0] 157)).drew.drew wr.heap.size 157 [.int .i64 0, .int .i64 0, .slice none 0 0] := (show Blk (wr.alloc (.cells #[.int .i64 0, .int .i64 0, .slice none 0 0] 157)) wr.heap.size 157 [.int .i64 0, .int .i64 0, .slice none 0 0] from Blk.new rfl).drewT.drewT
   go_upto_region 3 with fail
   refine region_lxf (fun w' => Below wr.heap.size wr w') [14] 7 [(2,0),(2,1),(2,2),(0,3),(2,4),(2,5),(2,6),(0,7),(2,8)] (bzA 16 511) (by (first | exact rr.drew.drew | exact HR3.out | exact hb2' | exact HbW.out)) (fun hS0 => ?_)
   (iterate 9 (first | refine lxt ?_ | refine lxp ?_))
   refine lxN (lxf2 9 13 (bzA 16 1023) (bzA 16 8703) ?_ ?_)
   focus
    refine lxa ?_
    go_simp
    (first | (go_at_call 134; (with_reducible refine (HG.out _ HR3.out).mono ?_); rintro e w2 ⟨x, rfl, hxc, hxo, hb2⟩; have hb2' := belowA hb2 HR3.out; have HbW := hide hb2'; have b2 := bz.below hb2; have hxW := hxo; have hge := Nat.le_refl wr.heap.size; have s0 := b2.cell 0; have s1 := b2.cell 1; have s2 := b2.cell 2; have t0 := b2.frozen 0; have t1 := b2.frozen 1; have t2 := b2.frozen 2; simp only [List.getElem?_cons_succ, List.getElem?_cons_zero] at s0 s1 s2) | (go_at_call 134; (with_reducible refine (HG.out _ rr.drew.drew).mono ?_); rintro e w2 ⟨x, rfl, hxc, hxo, hb2⟩; have hb2' := belowA hb2 rr.drew.drew; have HbW := hide (belowL hb2' (.cells #[.int .i64 0, .int .i64 0, .slice none 0 0] 157)); have b2 : Blk (w2.alloc (.cells #[.int .i64 0, .int .i64 0, .slice none 0 0] 157)) w2.heap.size 157 [.int .i64 0, .int .i64 0, .slice none 0 0] := Blk.new rfl; have hxW := hxo.below (belowL (Below.refl _ _) (.cells #[.int .i64 0, .int .i64 0, .slice none 0 0] 157)); have hge := hb2'.size; have s0 := b2.cell 0; have s1 := b2.cell 1; have s2 := b2.cell 2; have t0 := b2.frozen 0; have t1 := b2.frozen 1; have t2 := b2.frozen 2; simp only [List.getElem?_cons_succ, List.getElem?_cons_zero] at s0 s1 s2))
    refine lxB (by (first | exact rr.drew.drew | exact HR3.out | exact hb2' | exact HbW.out)) (fun hS1 => ?_)
    refine lxm 0 [(2,10),(2,11),(2,12),(1,13),(3,14),(2,15)] (bzA 16 65535) ?_
    (iterate 3 (refine lxp ?_))
    (refine lxe ?_; go_simp; refine lxB (by (first | exact rr.drew.drew | exact HR3.out | exact hb2' | exact HbW.out)) (fun hS1 => ?_))
    (refine lxn ?_; go_simp)
    refine lxp ?_
    refine lxN (lxd ?_)
   rotate_left
   focus
    refine lxa ?_
    go_simp
    refine lxB (by (first | exact rr.drew.drew | exact HR3.out | exact hb2' | exact HbW.out)) (fun hS1 => ?_)
    refine lxm 0 [(1,9),(2,10),(2,11),(2,12),(3,14),(2,15)] (bzA 16 65535) ?_
    (refine lxe ?_; go_simp; (first | (go_at_call 134; (with_reducible refine (HG.out _ HR3.out).mono ?_); rintro e w2 ⟨x, rfl, hxc, hxo, hb2⟩; have hb2' := belowA hb2 HR3.out; have HbW := hide hb2'; have b2 := bz.below hb2; have hxW := hxo; have hge := Nat.le_refl wr.heap.size; have s0 := b2.cell 0; have s1 := b2.cell 1; have s2 := b2.cell 2; have t0 := b2.frozen 0; have t1 := b2.frozen 1; have t2 := b2.frozen 2; simp only [List.getElem?_cons_succ, List.getElem?_cons_zero] at s0 s1 s2) | (go_at_call 134; (with_reducible refine (HG.out _ rr.drew.drew).mono ?_); rintro e w2 ⟨x, rfl, hxc, hxo, hb2⟩; have hb2' := belowA hb2 rr.drew.drew; have HbW := hide (belowL hb2' (.cells #[.int .i64 0, .int .i64 0, .slice none 0 0] 157)); have b2 : Blk (w2.alloc (.cells #[.int .i64 0, .int .i64 0, .slice none 0 0] 157)) w2.heap.size 157 [.int .i64 0, .int .i64 0, .slice none 0 0] := Blk.new rfl; have hxW := hxo.below (belowL (Below.refl _ _) (.cells #[.int .i64 0, .int .i64 0, .slice none 0 0] 157)); have hge := hb2'.size; have s0 := b2.cell 0; have s1 := b2.cell 1; have s2 := b2.cell 2; have t0 := b2.frozen 0; have t1 := b2.frozen 1; have t2 := b2.frozen 2; simp only [List.getElem?_cons_succ, List.getElem?_cons_zero] at s0 s1 s2)); refine lxB (by (first | exact rr.drew.drew | exact HR3.out | exact hb2' | exact HbW.out)) (fun hS1 => ?_))
    (iterate 3 (refine lxp ?_))
    (refine lxn ?_; go_simp)
    refine lxp ?_
    refine lxN (lxd ?_)
   rotate_left
   focus
    obtain ⟨eb, heb⟩ : ∃ eb, w2.heap.size = eb := ⟨_, rfl⟩; obtain ⟨w3, hw3⟩ : ∃ w3, w2.alloc (.cells #[.int .i64 x.t, .int .i64 x.k, .slice x.A x.b.length x.c] 157) = w3 := ⟨_, rfl⟩
    have b3 : Blk w3 eb 157 [.int .i64 x.t, .int .i64 x.k, .slice x.A x.b.length x.c] := by rw [← hw3, ← heb]; exact Blk.new rfl
    have hB3 : Below wr.heap.size wr w3 := by rw [← hw3]; exact belowL hb2' _
    have hx3 : EntOk w3 x := by rw [← hw3]; exact hxo.below (belowL (Below.refl _ _) _)
    (try rw [heb])
    rw [hw3]; have h3 := HO.out.2.1.below hB3; have q11 := h3.blk.cell 11; have f11 := h3.blk.frozen 11; simp only [Nd.cells, List.getElem?_cons_succ, List.getElem?_cons_zero] at q11; rw [show (N.tell ((q : Nat) : Int)).told = (q : Int) from rfl] at q11; obtain ⟨w4, hw4⟩ : ∃ w4, w3.setCell ⟨nb, 11, none⟩ (.int .i64 q1) = w4 := ⟨_, rfl⟩
    have c4 : Chg [nb] w3 w4 := by rw [← hw4]; exact (Chg.refl [nb] w3).setCell (p := ⟨nb, 11, none⟩) (Or.inl (by simp)) _
    have b4 := h3.blk.set 11 (.int .i64 q1); rw [hw4] at b4; have h4 := h3.own c4 (dead := N.dead) (bt := N.bt) (bv := N.bv) (commit := N.commit) (told := (q1 : Int)) (role := N.role) (leader := N.leader) (quiet := N.quiet) (beats := N.beats) b4
    have hne : eb ∉ [nb] := fun hx => by
     rw [List.mem_singleton.1 hx] at b3
     exact absurd (b3.one h3.blk).2 (by decide)
    have b34 := b3.chg c4 hne; have hx4 : EntOk w4 x := hx3.chg c4 (fun z hz => by rw [List.mem_singleton.1 hz]; exact h3.blk.notByte (by decide))
    have hrow4 : w4.ownsRow 0 166 4 (.slice A X.length c) X.length (apCells X) := own_chg (own_chg HO.out.1.1 (Chg.of_below (L := []) hB3) (fun _ _ hx => by cases hx)) c4 (fun g hg hx => by
     rw [owS] at hg; rw [List.mem_singleton.1 hx] at hg
     exact absurd (own_typed (own_chg HO.out.1.1 (Chg.of_below (L := []) hB3) (fun _ _ hx => by cases hx)) hg h3.blk) (by decide))
    have hents4 : ∀ z ∈ X, EntOk w4 z.e := fun z hz => ((HO.out.1.2.1 z hz).below hB3).chg c4 (fun z hz => by rw [List.mem_singleton.1 hz]; exact h3.blk.notByte (by decide))
    rw [show ({ N.tell (q : Int) with dead := N.dead, bt := N.bt, bv := N.bv, commit := N.commit, told := (q1 : Int), role := N.role, leader := N.leader, quiet := N.quiet, beats := N.beats } : Nd) = N.tell (q1 : Int) from rfl] at h4; have z11 := h4.blk.rule 11 _ rfl; rw [show (N.tell (q1 : Int)).told = (q1 : Int) from rfl] at z11; have z0 := b34.rule 0 _ rfl; have z1 := b34.rule 1 _ rfl; have z2 := b34.rule 2 _ rfl; have r4 := Below.refl w4.heap.size w4; have hcw4 : Chg [nb] w w4 := ((HO.out.2.2.below hB3).trans c4 (fun z hz => Or.inl hz)); have H4 := hd7 h4 hrow4 hents4 hx4 hcw4 (HO.out.1.2.2) hxc; have HW4 := hide hw4; clear s0 s1 s2 t0 t1 t2 b2 b3 hw3 HbW hxW hxo hb2 hb2' hB3 hx3 h3 b4 c4 h4 hne b34 hx4 hrow4 hents4 hcw4 hxc heb hge y11 y10 y9 hw4 hS0 HG
    go_upto_region 6 with fail
    rw [HW4.out]; clear q11 f11; obtain ⟨iA, hiA, hzA, hsA, hbA⟩ := info_parts Tryz.infoAp
    have hXl : X.length ≤ 1000 := by have := hX.out.1; omega
    have hbl : Below w4.heap.size w4 (w4.alloc (.cells #[.int .i64 (q1 : Int), .int .i64 x.t, .int .i64 x.k, .slice x.A x.b.length x.c] 166)).drew := (belowL r4 _).drew; have HRW := hide (own_chg H4.out.2.1 (Chg.of_below (L := []) hbl) (fun _ _ hx => by cases hx)); have bNew : Blk (w4.alloc (.cells #[.int .i64 (q1 : Int), .int .i64 x.t, .int .i64 x.k, .slice x.A x.b.length x.c] 166)) w4.heap.size 166 [.int .i64 (q1 : Int), .int .i64 x.t, .int .i64 x.k, .slice x.A x.b.length x.c] := Blk.new rfl; have HRD : Hid (Reads (w4.alloc (.cells #[.int .i64 (q1 : Int), .int .i64 x.t, .int .i64 x.k, .slice x.A x.b.length x.c] 166)).drew (w4.heap.size + 1) 4 (some ⟨w4.heap.size, 0, none⟩) 1 [.int .i64 (q1 : Int), .int .i64 x.t, .int .i64 x.k, .slice x.A x.b.length x.c]) := hide ⟨rfl, fun _ => ⟨w4.heap.size, 0, rfl, by omega, fun j u hu => by rw [Nat.zero_add, bNew.drewT.cell j]; exact hu⟩⟩; have HON : Hid (∀ u ∈ ([.int .i64 (q1 : Int), .int .i64 x.t, .int .i64 x.k, .slice x.A x.b.length x.c] : List Value), u.oneCell' = true) := hide (fun u hu => by (simp only [List.mem_cons, List.not_mem_nil, or_false] at hu; rcases hu with rfl | rfl | rfl | rfl <;> rfl)); have HBL := hide hbl; clear hbl bNew
    refine region_lx (fun w' => Below w4.heap.size w4 w') [8] [2, 2, 2, 2, 0, 0, 2, 1, 3, 2] (by (first | exact r4.drew | exact belowL r4 _ | exact belowL r4.drew _ | exact (belowL r4 _).drew)) (fun hS0 => ?_)
    (iterate 7 (first | refine lxt ?_ | refine lxp ?_))
    (refine lxe ?_; go_simp; refine lxB (by (first | exact r4.drew | exact belowL r4 _ | exact belowL r4.drew _ | exact (belowL r4 _).drew)) (fun hS1 => ?_))
    (refine lxn ?_; (refine wp_append_rd _ _ _ 163 rfl 166 iA _ 4 48 Tryz.underlying163 hiA hzA hsA hbA (by kernel_rfl) (by decide) (.slice A X.length c) X.length (apCells X) rfl HRW.out (some ⟨w4.heap.size, 0, none⟩) 1 1 (w4.heap.size + 1) [.int .i64 (q1 : Int), .int .i64 x.t, .int .i64 x.k, .slice x.A x.b.length x.c] rfl HRD.out HON.out (by unfold maxLen; omega) (by omega) ?_; intro v5 w5 ho5 hc5 hg5); (try simp only [Act.put, List.setIfInBounds_toArray, List.set_cons_zero, List.set_cons_succ]))
    refine lxp ?_
    refine lxN ?_
    have hw45 : Below w4.heap.size w4 (w4.alloc (.cells #[.int .i64 (q1 : Int), .int .i64 x.t, .int .i64 x.k, .slice x.A x.b.length x.c] 166)).drew := HBL.out; obtain ⟨A5, c5, rfl, _⟩ := own_view ho5; rw [owS] at hc5
    have hfr5 : ∀ g, A5.map Addr.block = some g → w.heap.size ≤ g := fun g hg => by
     rcases hg5 g (by rw [owS]; exact hg) with h | h
     ·rw [owS] at h; exact H4.out.2.2.2.2.2.1 g h
     ·rw [h]; exact Nat.le_trans H4.out.2.2.2.2.1.size hw45.size
    have hrn : ∀ z ∈ (A.map Addr.block).toList, ¬ ByteBlk w4 z ∧ z ≠ nb ∧ z < w4.heap.size := fun z hz => by
     have hz' : A.map Addr.block = some z := by simpa using hz
     obtain ⟨cs, hcs⟩ := own_blk H4.out.2.1 hz'
     exact ⟨hcs.notByte (by decide), fun e => by rw [e] at hcs; exact absurd (hcs.one H4.out.1.blk).2 (by decide), hcs.lt⟩
    have hcA : Chg (A.map Addr.block).toList w4 w5 := (Chg.of_below hw45).trans hc5 (fun z hz => Or.inl hz)
    have hH5 : HardL w4 (A.map Addr.block).toList := fun z hz => by
     have hz' : A.map Addr.block = some z := by simpa using hz
     obtain ⟨cs, hcs⟩ := own_blk H4.out.2.1 hz'
     exact hcs.hard (by decide) (by decide)
    have h5 := H4.out.1.row hcA (fun z hz => by
     have hz' : A.map Addr.block = some z := by simpa using hz
     obtain ⟨cs, hcs⟩ := own_blk H4.out.2.1 hz'
     exact ⟨_, hcs⟩)
    have hcw5 : Chg [nb] w w5 := H4.out.2.2.2.2.1.trans hcA (fun z hz => by
     have hz' : A.map Addr.block = some z := by simpa using hz
     exact Or.inr (H4.out.2.2.2.2.2.1 z hz'))
    have hents5 : ∀ z ∈ X ++ [⟨(q1 : Int), x⟩], EntOk w5 z.e := fun z hz => by
     rcases List.mem_append.1 hz with hz | hz
     ·exact (H4.out.2.2.1 z hz).chg hcA (fun y hy => (hrn y hy).1)
     ·rw [List.mem_singleton.1 hz]; exact H4.out.2.2.2.1.chg hcA (fun y hy => (hrn y hy).1)
    have hap5 : ApT w w5 A5 c5 (X ++ [⟨(q1 : Int), x⟩]) := ⟨by
     rw [List.length_append, List.length_singleton, show apCells (X ++ [⟨(q1 : Int), x⟩]) = apCells X ++ [.int .i64 (q1 : Int), .int .i64 x.t, .int .i64 x.k, .slice x.A x.b.length x.c] by simp [apCells, ApR.cells]]
     exact ho5, hents5, hfr5⟩
    have hX5 : (X ++ [(⟨(q1 : Int), x⟩ : ApR)]).length = k + 1 ∧ ∀ j (hj : j < (X ++ [(⟨(q1 : Int), x⟩ : ApR)]).length), ∃ hL : tn + j < N.L.length, (X ++ [(⟨(q1 : Int), x⟩ : ApR)])[j].con = (((tn + j + 1 : Nat) : Int), N.L[tn + j]) := by
     refine ⟨by rw [List.length_append, List.length_singleton, hX.out.1], fun j hj => ?_⟩
     rw [List.length_append, List.length_singleton] at hj
     rcases Nat.lt_or_ge j X.length with hjl | hjl
     ·obtain ⟨hL, he⟩ := hX.out.2 j hjl
      exact ⟨hL, by rw [List.getElem_append_left hjl]; exact he⟩
     ·have hjk : j = X.length := by omega
      subst hjk
      have htj : tn + X.length = q := by rw [hX.out.1]; exact hq
      refine ⟨by omega, ?_⟩
      rw [List.getElem_append_right (Nat.le_refl _)]; simp only [Nat.sub_self, List.getElem_cons_zero, ApR.con, H4.out.2.2.2.2.2.2, htj]; rw [hq1]
    have h5' : NP w5 nb p Fl Fv (N.tell ((tn + (k + 1) : Nat) : Int)) := by rw [show tn + (k + 1) = q1 by omega]; exact h5
    have H5 := hd4 hX5 hap5 h5' hcw5; clear hw45 ho5 hc5 hg5 hfr5 hrn hcA hH5 h5 hcw5 hents5 hap5 hX5 h5' z11 z0 z1 z2 hS0 hS1 HRW HRD HON HBL; go_wp2
    go_roundw
    case rel => exact ⟨k + 1, X ++ [⟨(q1 : Int), x⟩], A5, c5, by omega, by first | rfl | simp, hide H5.out.1, hide H5.out.2⟩
    case measure => simp; have := hX.out.1; omega
   focus
    obtain ⟨eb, heb⟩ : ∃ eb, wr.heap.size = eb := ⟨_, rfl⟩; rw [heb] at b2
    (try rw [heb])
    have hge := Nat.le_of_eq heb; have hbW := HbW.out; obtain ⟨w3, hw3⟩ : ∃ w3, ((w2.setCell ⟨eb, 0, none⟩ (.int .i64 x.t)).setCell ⟨eb, 1, none⟩ (.int .i64 x.k)).setCell ⟨eb, 2, none⟩ (.slice x.A x.b.length x.c) = w3 := ⟨_, rfl⟩; have b3 := ((b2.set 0 (.int .i64 x.t)).set 1 (.int .i64 x.k)).set 2 (.slice x.A x.b.length x.c)
    have c3 : Chg [eb] w2 w3 := by rw [← hw3]; exact (((Chg.refl [eb] w2).setCell (p := ⟨eb, 0, none⟩) (Or.inl (by simp)) _).setCell (p := ⟨eb, 1, none⟩) (Or.inl (by simp)) _).setCell (p := ⟨eb, 2, none⟩) (Or.inl (by simp)) _
    rw [hw3] at b3; rw [hw3]; have hB3 := Chg.onto hbW hbW.size c3 (fun z hz => by rw [List.mem_singleton.1 hz]; exact hge); have hx3 : EntOk w3 x := hxW.chg c3 (fun z hz => by rw [List.mem_singleton.1 hz]; exact b2.notByte (by decide)); clear c3 hbW; have h3 := HO.out.2.1.below hB3; have q11 := h3.blk.cell 11; have f11 := h3.blk.frozen 11; simp only [Nd.cells, List.getElem?_cons_succ, List.getElem?_cons_zero] at q11; rw [show (N.tell ((q : Nat) : Int)).told = (q : Int) from rfl] at q11; obtain ⟨w4, hw4⟩ : ∃ w4, w3.setCell ⟨nb, 11, none⟩ (.int .i64 q1) = w4 := ⟨_, rfl⟩
    have c4 : Chg [nb] w3 w4 := by rw [← hw4]; exact (Chg.refl [nb] w3).setCell (p := ⟨nb, 11, none⟩) (Or.inl (by simp)) _
    have b4 := h3.blk.set 11 (.int .i64 q1); rw [hw4] at b4; have h4 := h3.own c4 (dead := N.dead) (bt := N.bt) (bv := N.bv) (commit := N.commit) (told := (q1 : Int)) (role := N.role) (leader := N.leader) (quiet := N.quiet) (beats := N.beats) b4
    have hne : eb ∉ [nb] := fun hx => by
     rw [List.mem_singleton.1 hx] at b3
     exact absurd (b3.one h3.blk).2 (by decide)
    have b34 := b3.chg c4 hne; have hx4 : EntOk w4 x := hx3.chg c4 (fun z hz => by rw [List.mem_singleton.1 hz]; exact h3.blk.notByte (by decide))
    have hrow4 : w4.ownsRow 0 166 4 (.slice A X.length c) X.length (apCells X) := own_chg (own_chg HO.out.1.1 (Chg.of_below (L := []) hB3) (fun _ _ hx => by cases hx)) c4 (fun g hg hx => by
     rw [owS] at hg; rw [List.mem_singleton.1 hx] at hg
     exact absurd (own_typed (own_chg HO.out.1.1 (Chg.of_below (L := []) hB3) (fun _ _ hx => by cases hx)) hg h3.blk) (by decide))
    have hents4 : ∀ z ∈ X, EntOk w4 z.e := fun z hz => ((HO.out.1.2.1 z hz).below hB3).chg c4 (fun z hz => by rw [List.mem_singleton.1 hz]; exact h3.blk.notByte (by decide))
    rw [show ({ N.tell (q : Int) with dead := N.dead, bt := N.bt, bv := N.bv, commit := N.commit, told := (q1 : Int), role := N.role, leader := N.leader, quiet := N.quiet, beats := N.beats } : Nd) = N.tell (q1 : Int) from rfl] at h4; have z11 := h4.blk.rule 11 _ rfl; rw [show (N.tell (q1 : Int)).told = (q1 : Int) from rfl] at z11; have z0 := b34.rule 0 _ rfl; have z1 := b34.rule 1 _ rfl; have z2 := b34.rule 2 _ rfl; have r4 := Below.refl w4.heap.size w4; have hcw4 : Chg [nb] w w4 := ((HO.out.2.2.below hB3).trans c4 (fun z hz => Or.inl hz)); have H4 := hd7 h4 hrow4 hents4 hx4 hcw4 (HO.out.1.2.2) hxc; have HW4 := hide hw4; clear s0 s1 s2 t0 t1 t2 b2 b3 hw3 HbW hxW hxo hb2 hb2' hB3 hx3 h3 b4 c4 h4 hne b34 hx4 hrow4 hents4 hcw4 hxc heb hge y11 y10 y9 hw4 hS0 HG
    go_upto_region 6 with fail
    rw [HW4.out]; clear q11 f11; obtain ⟨iA, hiA, hzA, hsA, hbA⟩ := info_parts Tryz.infoAp
    have hXl : X.length ≤ 1000 := by have := hX.out.1; omega
    have hbl : Below w4.heap.size w4 (w4.alloc (.cells #[.int .i64 (q1 : Int), .int .i64 x.t, .int .i64 x.k, .slice x.A x.b.length x.c] 166)).drew := (belowL r4 _).drew; have HRW := hide (own_chg H4.out.2.1 (Chg.of_below (L := []) hbl) (fun _ _ hx => by cases hx)); have bNew : Blk (w4.alloc (.cells #[.int .i64 (q1 : Int), .int .i64 x.t, .int .i64 x.k, .slice x.A x.b.length x.c] 166)) w4.heap.size 166 [.int .i64 (q1 : Int), .int .i64 x.t, .int .i64 x.k, .slice x.A x.b.length x.c] := Blk.new rfl; have HRD : Hid (Reads (w4.alloc (.cells #[.int .i64 (q1 : Int), .int .i64 x.t, .int .i64 x.k, .slice x.A x.b.length x.c] 166)).drew (w4.heap.size + 1) 4 (some ⟨w4.heap.size, 0, none⟩) 1 [.int .i64 (q1 : Int), .int .i64 x.t, .int .i64 x.k, .slice x.A x.b.length x.c]) := hide ⟨rfl, fun _ => ⟨w4.heap.size, 0, rfl, by omega, fun j u hu => by rw [Nat.zero_add, bNew.drewT.cell j]; exact hu⟩⟩; have HON : Hid (∀ u ∈ ([.int .i64 (q1 : Int), .int .i64 x.t, .int .i64 x.k, .slice x.A x.b.length x.c] : List Value), u.oneCell' = true) := hide (fun u hu => by (simp only [List.mem_cons, List.not_mem_nil, or_false] at hu; rcases hu with rfl | rfl | rfl | rfl <;> rfl)); have HBL := hide hbl; clear hbl bNew
    refine region_lx (fun w' => Below w4.heap.size w4 w') [8] [2, 2, 2, 2, 0, 0, 2, 1, 3, 2] (by (first | exact r4.drew | exact belowL r4 _ | exact belowL r4.drew _ | exact (belowL r4 _).drew)) (fun hS0 => ?_)
    (iterate 7 (first | refine lxt ?_ | refine lxp ?_))
    (refine lxe ?_; go_simp; refine lxB (by (first | exact r4.drew | exact belowL r4 _ | exact belowL r4.drew _ | exact (belowL r4 _).drew)) (fun hS1 => ?_))
    (refine lxn ?_; (refine wp_append_rd _ _ _ 163 rfl 166 iA _ 4 48 Tryz.underlying163 hiA hzA hsA hbA (by kernel_rfl) (by decide) (.slice A X.length c) X.length (apCells X) rfl HRW.out (some ⟨w4.heap.size, 0, none⟩) 1 1 (w4.heap.size + 1) [.int .i64 (q1 : Int), .int .i64 x.t, .int .i64 x.k, .slice x.A x.b.length x.c] rfl HRD.out HON.out (by unfold maxLen; omega) (by omega) ?_; intro v5 w5 ho5 hc5 hg5); (try simp only [Act.put, List.setIfInBounds_toArray, List.set_cons_zero, List.set_cons_succ]))
    refine lxp ?_
    refine lxN ?_
    have hw45 : Below w4.heap.size w4 (w4.alloc (.cells #[.int .i64 (q1 : Int), .int .i64 x.t, .int .i64 x.k, .slice x.A x.b.length x.c] 166)).drew := HBL.out; obtain ⟨A5, c5, rfl, _⟩ := own_view ho5; rw [owS] at hc5
    have hfr5 : ∀ g, A5.map Addr.block = some g → w.heap.size ≤ g := fun g hg => by
     rcases hg5 g (by rw [owS]; exact hg) with h | h
     ·rw [owS] at h; exact H4.out.2.2.2.2.2.1 g h
     ·rw [h]; exact Nat.le_trans H4.out.2.2.2.2.1.size hw45.size
    have hrn : ∀ z ∈ (A.map Addr.block).toList, ¬ ByteBlk w4 z ∧ z ≠ nb ∧ z < w4.heap.size := fun z hz => by
     have hz' : A.map Addr.block = some z := by simpa using hz
     obtain ⟨cs, hcs⟩ := own_blk H4.out.2.1 hz'
     exact ⟨hcs.notByte (by decide), fun e => by rw [e] at hcs; exact absurd (hcs.one H4.out.1.blk).2 (by decide), hcs.lt⟩
    have hcA : Chg (A.map Addr.block).toList w4 w5 := (Chg.of_below hw45).trans hc5 (fun z hz => Or.inl hz)
    have hH5 : HardL w4 (A.map Addr.block).toList := fun z hz => by
     have hz' : A.map Addr.block = some z := by simpa using hz
     obtain ⟨cs, hcs⟩ := own_blk H4.out.2.1 hz'
     exact hcs.hard (by decide) (by decide)
    have h5 := H4.out.1.row hcA (fun z hz => by
     have hz' : A.map Addr.block = some z := by simpa using hz
     obtain ⟨cs, hcs⟩ := own_blk H4.out.2.1 hz'
     exact ⟨_, hcs⟩)
    have hcw5 : Chg [nb] w w5 := H4.out.2.2.2.2.1.trans hcA (fun z hz => by
     have hz' : A.map Addr.block = some z := by simpa using hz
     exact Or.inr (H4.out.2.2.2.2.2.1 z hz'))
    have hents5 : ∀ z ∈ X ++ [⟨(q1 : Int), x⟩], EntOk w5 z.e := fun z hz => by
     rcases List.mem_append.1 hz with hz | hz
     ·exact (H4.out.2.2.1 z hz).chg hcA (fun y hy => (hrn y hy).1)
     ·rw [List.mem_singleton.1 hz]; exact H4.out.2.2.2.1.chg hcA (fun y hy => (hrn y hy).1)
    have hap5 : ApT w w5 A5 c5 (X ++ [⟨(q1 : Int), x⟩]) := ⟨by
     rw [List.length_append, List.length_singleton, show apCells (X ++ [⟨(q1 : Int), x⟩]) = apCells X ++ [.int .i64 (q1 : Int), .int .i64 x.t, .int .i64 x.k, .slice x.A x.b.length x.c] by simp [apCells, ApR.cells]]
     exact ho5, hents5, hfr5⟩
    have hX5 : (X ++ [(⟨(q1 : Int), x⟩ : ApR)]).length = k + 1 ∧ ∀ j (hj : j < (X ++ [(⟨(q1 : Int), x⟩ : ApR)]).length), ∃ hL : tn + j < N.L.length, (X ++ [(⟨(q1 : Int), x⟩ : ApR)])[j].con = (((tn + j + 1 : Nat) : Int), N.L[tn + j]) := by
     refine ⟨by rw [List.length_append, List.length_singleton, hX.out.1], fun j hj => ?_⟩
     rw [List.length_append, List.length_singleton] at hj
     rcases Nat.lt_or_ge j X.length with hjl | hjl
     ·obtain ⟨hL, he⟩ := hX.out.2 j hjl
      exact ⟨hL, by rw [List.getElem_append_left hjl]; exact he⟩
     ·have hjk : j = X.length := by omega
      subst hjk
      have htj : tn + X.length = q := by rw [hX.out.1]; exact hq
      refine ⟨by omega, ?_⟩
      rw [List.getElem_append_right (Nat.le_refl _)]; simp only [Nat.sub_self, List.getElem_cons_zero, ApR.con, H4.out.2.2.2.2.2.2, htj]; rw [hq1]
    have h5' : NP w5 nb p Fl Fv (N.tell ((tn + (k + 1) : Nat) : Int)) := by rw [show tn + (k + 1) = q1 by omega]; exact h5
    have H5 := hd4 hX5 hap5 h5' hcw5; clear hw45 ho5 hc5 hg5 hfr5 hrn hcA hH5 h5 hcw5 hents5 hap5 hX5 h5' z11 z0 z1 z2 hS0 hS1 HRW HRD HON HBL; go_wp2
    go_roundw
    case rel => exact ⟨k + 1, X ++ [⟨(q1 : Int), x⟩], A5, c5, by omega, by first | rfl | simp, hide H5.out.1, hide H5.out.2⟩
    case measure => simp; have := hX.out.1; omega
  ·have d1 : decide (q < cn) = false := decide_eq_false (by omega)
   go_upto_region 2 with fail
   refine region_lx (fun w' => Below wr.heap.size wr w') [] [2, 2, 2, 0, 2, 2, 2, 0, 2] (by (exact rr.drew)) (fun hS0 => ?_)
   (iterate 9 (first | refine lxt ?_ | refine lxp ?_))
   refine lxN ?_
   have hkm : k = m := by omega
   have HF := hd4 ((HO.out.2.1.below rr.drew)) (HO.out.2.2.below rr.drew) HO.out.1 hkm; clear y9 y10 y11; go_wp2; go_ret
   refine ⟨A, c, X, rfl, ⟨own_chg HF.out.2.2.1.1 (Chg.of_below (L := []) rr.drew) (fun _ _ hx => by cases hx), fun z hz => (HF.out.2.2.1.2.1 z hz).below rr.drew, HF.out.2.2.1.2.2⟩, by rw [hX.out.1]; exact hkm, hX.out.2, ?_, HF.out.2.1⟩
   have h9 := HF.out.1; rw [show q = cn by omega] at h9
   exact h9
end
end Go.Proofs.YtcahcjfgmdpdoaaGreat
