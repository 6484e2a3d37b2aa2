/- One text of: Nh Ni. -/
import Derived.Test.YtcahcjfgmdpdoaaGreatQNA
set_option maxHeartbeats 4000000
set_option maxRecDepth 100000
namespace Go.Proofs.YtcahcjfgmdpdoaaGreat
open Go.RowKit Go.Proofs Go.Maps
set_option linter.unusedVariables false
set_option linter.unusedSimpArgs false

def bi (b : List Nat) : List Int := b.map fun (x : Nat) => (x : Int)
theorem bi_len (b : List Nat) : (bi b).length = b.length := List.length_map ..
def NodeP (w w' : World) (nb : Nat) (p : Pl) (Fl Fv : List Nat) (N : Nd) : Prop := ∃ Fl' Fv', NP w' nb p Fl' Fv' N ∧ Chg (ft nb p Fl Fv) w w' ∧ (∀ x ∈ Fl', x ∈ Fl ∨ w.heap.size ≤ x) ∧ ∀ x ∈ Fv', x ∈ Fv ∨ w.heap.size ≤ x
def Nd.pushE (N : Nd) (kind : Nat) (b : List Nat) : Nd :=
 let N1 := ({ N with L := N.L ++ [(N.bt, (kind : Int), bi b)] } : Nd).put (1000 + (N.L.length + 1 : Nat)) (ebytes N.bt.toNat kind b)
 if N1.dead then N1 else { N1 with mat := upd N1.mat N.id (some (N.L.length + 1 : Nat)) }
section
variable {w w' : World} {nb : Nat} {p : Pl} {Fl Fv : List Nat} {N : Nd}
theorem ft_mem {x : Nat} : x ∈ ft nb p Fl Fv ↔ x = nb ∨ x = p.nx ∨ x = p.mx ∨ x ∈ Fl ∨ x ∈ Fv := by
 unfold ft; simp only [List.mem_cons, List.mem_append]
theorem PutT.nodeP (h : PutT w w' nb p Fl Fv N) : NodeP w w' nb p Fl Fv N := by
 obtain ⟨Fv', h1, h2, h3⟩ := h
 exact ⟨Fl, Fv', h1, h2.mono (fun z hz => Or.inl (ft_mem.2 ((List.mem_cons.1 hz).imp id (fun h => Or.inr (Or.inr (Or.inr h)))))), fun x hx => Or.inl hx, h3⟩
theorem ft_step {s : Nat} {Fl' Fv' : List Nat} (hl : ∀ x ∈ Fl', x ∈ Fl ∨ s ≤ x) (hv : ∀ x ∈ Fv', x ∈ Fv ∨ s ≤ x) : ∀ x ∈ ft nb p Fl' Fv', x ∈ ft nb p Fl Fv ∨ s ≤ x := fun x hx => by
 rcases ft_mem.1 hx with h | h | h | h | h
 ·exact Or.inl (ft_mem.2 (Or.inl h))
 ·exact Or.inl (ft_mem.2 (Or.inr (Or.inl h)))
 ·exact Or.inl (ft_mem.2 (Or.inr (Or.inr (Or.inl h))))
 ·exact (hl x h).imp (fun h => ft_mem.2 (Or.inr (Or.inr (Or.inr (Or.inl h))))) id
 ·exact (hv x h).imp (fun h => ft_mem.2 (Or.inr (Or.inr (Or.inr (Or.inr h))))) id
theorem NodeP.step {w1 w2 : World} {Fl1 Fv1 : List Nat} (hc : Chg (ft nb p Fl Fv) w w1) (hl : ∀ x ∈ Fl1, x ∈ Fl ∨ w.heap.size ≤ x) (hv : ∀ x ∈ Fv1, x ∈ Fv ∨ w.heap.size ≤ x) (h : NodeP w1 w2 nb p Fl1 Fv1 N) : NodeP w w2 nb p Fl Fv N := by
 obtain ⟨Fl', Fv', h1, h2, h3, h4⟩ := h
 exact ⟨Fl', Fv', h1, hc.trans h2 (ft_step hl hv), fun x hx => (h3 x hx).elim (hl x) (fun h => Or.inr (Nat.le_trans hc.size h)), fun x hx => (h4 x hx).elim (hv x) (fun h => Or.inr (Nat.le_trans hc.size h))⟩
theorem NodeP.node (h : NodeP w w' nb p Fl Fv N) : NodeT w w' nb (ft nb p Fl Fv) N := by
 obtain ⟨Fl', Fv', h1, h2, h3, h4⟩ := h
 exact ⟨_, ⟨p, Fl', Fv', h1, rfl⟩, h2, ft_step h3 h4⟩
theorem NodeP.stay (h : NP w nb p Fl Fv N) (hb : Below w.heap.size w w') : NodeP w w' nb p Fl Fv N := ⟨Fl, Fv, h.below hb, Chg.of_below hb, fun x hx => Or.inl hx, fun x hx => Or.inl hx⟩
theorem Bt.ent {A : Option Addr} {c : Nat} {b : List Nat} (h : Bt w A c b) (hb : ∀ x ∈ b, x < 256) (hc : c ≤ maxLen) (t k : Int) : EntOk w ⟨t, k, A, c, bi b⟩ := by
 refine ⟨by rw [bi_len]; exact h.rb.le, hc, fun x hx => ?_, fun a ha => (h.rb.ap a ha).1, fun a ha => ?_, fun h0 => ?_⟩
 ·obtain ⟨y, hy, rfl⟩ := List.mem_map.1 hx
  have := hb y hy
  omega
 ·obtain ⟨cs, hbk⟩ := h.ty a ha
  exact ⟨cs.toArray, (0, 0), hbk⟩
 ·rw [bi_len] at h0
  obtain ⟨g, o, e, _, _, hc⟩ := h.rb.at_ h0; obtain ⟨cs, hbk⟩ := h.ty _ e
  refine ⟨g, o, e, ⟨cs.toArray, (0, 0), hbk⟩, fun j x hx => ?_⟩
  have hj : j < b.length := by have := (List.getElem?_eq_some_iff.1 hx).1; rw [bi_len] at this; exact this
  rw [show (bi b)[j]? = some ((b[j] : Nat) : Int) by unfold bi; rw [List.getElem?_map, List.getElem?_eq_getElem hj]; rfl] at hx
  cases hx
  exact hc j hj
theorem EntOk.rb {t k : Int} {A : Option Addr} {c : Nat} {b : List Nat} (h : EntOk w ⟨t, k, A, c, bi b⟩) : Rb w [] A c b := by
 obtain ⟨h1, h2, h3, h4, h5, h6⟩ := h; rw [bi_len] at h1; simp only [bi_len] at h6
 refine ⟨h1, ⟨by simp [bys], fun h0 => ?_⟩, fun a ha => ⟨h4 a ha, by simp, (h5 a ha).lt⟩⟩
 obtain ⟨g, o, e, hb, hc⟩ := h6 h0
 refine ⟨g, o, e, hb.lt, fun j u hu => ?_⟩
 have hj : j < b.length := by have := (List.getElem?_eq_some_iff.1 hu).1; simpa [bys] using this
 have hu2 : u = .int .u8 ((b[j] : Nat) : Int) := by
  unfold bys at hu; rw [List.getElem?_map, List.getElem?_eq_getElem hj] at hu
  simpa using hu.symm
 rw [hu2]
 exact hc j _ (by unfold bi; rw [List.getElem?_map, List.getElem?_eq_getElem hj]; rfl)
theorem npush_calls (h : NP w nb p Fl Fv N) {g : Nat} (hV : VltOk N.V g) (hg : g < 2 ^ 60) (ht : 0 ≤ N.bt ∧ N.bt < 2 ^ 59) (hid : 0 ≤ N.id ∧ N.id ≤ 15) (hln : N.L.length ≤ 100000) (kind : Nat) (hk : kind < 2 ^ 59) {A : Option Addr} {c : Nat} {b : List Nat} (hb : Bt w A c b) (hbb : ∀ x ∈ b, x < 256) (hbl : b.length ≤ 50000) (hcm : c ≤ maxLen) :
  Calls Tryz.prog 47 #[.pointer (some ⟨nb, 0, none⟩), .int .i64 kind, .slice A b.length c] w fun e w' => e = .returned (.int .i64 (N.L.length + 1 : Nat)) ∧ NodeP w w' nb p Fl Fv (N.pushE kind b) ∧ VltOk (N.pushE kind b).V (g + 1) := by
 obtain ⟨R, hR⟩ : ∃ R, N.pushE kind b = R := ⟨_, rfl⟩; rw [hR]; unfold Nd.pushE at hR; obtain ⟨NL, hNL⟩ : ∃ NL, ({ N with L := N.L ++ [(N.bt, (kind : Int), bi b)] } : Nd) = NL := ⟨_, rfl⟩; simp only [hNL] at hR
 have hNLV : NL.V = N.V ∧ NL.id = N.id := by rw [← hNL]; exact ⟨rfl, rfl⟩
 have HNL := hd2 hNL hNLV; clear hNL hNLV; obtain ⟨t, htn⟩ : ∃ t : Nat, N.bt = t := ⟨N.bt.toNat, by omega⟩
 have y3 : w.cell? ⟨nb, 3, none⟩ = some (.int .i64 t) := by have := h.blk.cell 3; simp only [Nd.cells, List.getElem?_cons_succ, List.getElem?_cons_zero, htn] at this; exact this
 rw [show N.bt.toNat = t by omega] at hR; obtain ⟨w0, hw0⟩ : ∃ w0, w.alloc (.cells #[.int .i64 t, .int .i64 kind, .slice A b.length c] 157) = w0 := ⟨_, rfl⟩; obtain ⟨xb, hxb⟩ : ∃ xb, w.heap.size = xb := ⟨_, rfl⟩
 have hb0 : Below w.heap.size w w0 := hw0 ▸ belowL (Below.refl _ _) _
 have bX : Blk w0 xb 157 [.int .i64 t, .int .i64 kind, .slice A b.length c] := by rw [← hw0, ← hxb]; exact Blk.new rfl
 have h0 := h.below hb0; have r0 := Below.refl w0.heap.size w0; have x0 := bX.rule 0 _ rfl; have x1 := bX.rule 1 _ rfl; have x2 := bX.rule 2 _ rfl; have y9 := h0.blk.rule 9 _ rfl; have HLP := lg_push (w := w0.drew) (p := p.lb) ⟨(t : Int), (kind : Int), A, c, bi b⟩ (h0.log.below r0.drew) ((hb.below (belowA r0.drew hb0)).ent hbb hcm t kind) (Int.le_refl _) (by omega) (by omega) (by rw [bi_len]; omega); simp only [bi_len, Int.zero_add, Ent.con] at HLP; obtain ⟨i, hi⟩ : ∃ i, N.L.length + 1 = i := ⟨_, rfl⟩
 have hii : ((N.L.length : Nat) : Int) + 1 = (i : Int) := by omega
 rw [hi] at hR ⊢; rw [hii] at HLP; have q1 : IntKind.i64.wrap (1000 + (i : Int)) = 1000 + (i : Int) := IntWalk.i64_in _ (by omega)
 have hil : (i : Int) ≤ 100001 := by omega
 have hFl : ∀ x ∈ Fl, x < xb := fun x hx => by rw [← hxb]; exact h.log.lt x hx
 have HFL := hide hFl; have HW := hd2 hw0 hxb; have HLP := hide HLP; have H := hd7 h0 hV hg hb0 bX hid htn; have HB := hd4 hb hbb hbl (show t < 2 ^ 60 by omega); have HR := hide hR; clear hFl h h0 hV hb hbb hb0 bX hw0 hxb hR hi hii ht htn hid
 go_enter Tryz.func47, Tryz.ntmps47
 go_upto_region 2 with fail
 (try rw [HW.out.1])
 (try rw [HW.out.2])
 refine region_lx (fun w' => Below w0.heap.size w0 w') [5] [2, 2, 2, 0, 0, 3, 2] (by (exact r0.drew)) (fun hS0 => ?_)
 (iterate 5 (first | refine lxt ?_ | refine lxp ?_))
 (refine lxn ?_; go_simp; ((go_at_call 89; with_reducible refine HLP.out.mono ?_; rintro e w2 ⟨Fl2, rfl, hl2, hc2, hf2⟩)))
 refine lxp ?_
 refine lxN ?_
 have hl0 : Below w.heap.size w w0.drew := belowA r0.drew H.out.2.2.2.1; rw [← H.out.2.2.2.2.2.2] at hl2; have hn2 := (H.out.1.below r0.drew).logT hl2 hc2 (fun x hx => hf2 x hx); rw [HNL.out.1] at hn2
 have hxF : xb ∉ Fl := fun hx => by have := HFL.out xb hx; omega
 have bX2 := (H.out.2.2.2.2.1.below r0.drew).chg hc2 hxF; have hh := (H.out.1.log.below r0.drew).hard; have hb2 : Bt w2 A c b := (HB.out.1.below hl0).chg hc2 hh.nob; have x0' : w2.cell? ⟨xb, 0, none⟩ = some (.int .i64 t) := bX2.cell 0; have x1' : w2.cell? ⟨xb, 1, none⟩ = some (.int .i64 kind) := bX2.cell 1; have x2' : w2.cell? ⟨xb, 2, none⟩ = some (.slice A b.length c) := bX2.cell 2; have heb := ebytes_ok (t := t) (k := kind) HB.out.2.2.2 (by omega) HB.out.2.1 (by have := HB.out.2.2.1; omega); have HEB := hide (entb_calls (w := w2) t kind hb2.rb HB.out.2.2.2 (by omega) (by have := HB.out.2.2.1; omega)); have hcF : Chg (ft nb p Fl Fv) w w2 := (Chg.of_below hl0).trans hc2 (fun z hz => Or.inl (ft_mem.2 (Or.inr (Or.inr (Or.inr (Or.inl hz))))))
 have hfF : ∀ x ∈ Fl2, x ∈ Fl ∨ w.heap.size ≤ x := fun x hx => (hf2 x hx).imp id (fun h => Nat.le_trans hl0.size h)
 have H2 := hd4 hn2 hcF hfF heb; clear hl2 hc2 hf2 hl0 hn2 hxF bX2 hh hb2 hcF hfF heb x0 x1 x2 y9 hS0 HLP; go_wp2_with fail
 with_reducible refine HEB.out.mono ?_
 rintro e w3 ⟨A3, c3, rfl, ho3, hb3⟩; obtain ⟨EB, hEB⟩ : ∃ EB, ebytes t kind b = EB := ⟨_, rfl⟩; have H2' := H2.out; rw [hEB] at ho3 HR H2' ⊢; have hpu := nput_calls (H2'.1.below hb3) (show VltOk NL.V g by rw [HNL.out.2.1]; exact H.out.2.1) H.out.2.2.1 (1000 + (i : Int)) ho3.bt H2'.2.2.2.2 (by have := H2'.2.2.2.1; have := HB.out.2.2.1; omega); have HC3 := hd2 (H2'.2.1.below hb3) H2'.2.2.1; have hR := HR.out
 have hide1 : (NL.put (1000 + (i : Int)) EB).id = N.id := by
  unfold Nd.put
  split <;> exact HNL.out.2.2
 obtain ⟨N1, hN1⟩ : ∃ N1, NL.put (1000 + (i : Int)) EB = N1 := ⟨_, rfl⟩; simp only [hN1] at hR hpu hide1; have HPU := hide hpu; have HI := hide hide1; clear hN1 hpu ho3 hb3 H2' HEB x0' x1' x2' hide1 HR H2; go_wp2_with fail
 with_reducible refine HPU.out.mono ?_
 rintro e w4 ⟨rfl, ⟨Fv4, h4, hc4, hF4⟩, hok4⟩; have hcc : Chg (ft nb p Fl Fv) w w4 := HC3.out.1.trans hc4 (fun z hz => Or.inl (ft_mem.2 ((List.mem_cons.1 hz).imp id (fun h => Or.inr (Or.inr (Or.inr h))))))
 have hF4' : ∀ x ∈ Fv4, x ∈ Fv ∨ w.heap.size ≤ x := fun x hx => (hF4 x hx).imp id (fun h => Nat.le_trans HC3.out.1.size h)
 have H4 := hd4 h4 hcc hF4' hok4; clear h4 hc4 hF4 hcc hF4' hok4 HPU
 by_cases hd : N1.dead = true
 ·rw [if_pos hd] at hR
  subst hR
  have hdz2 : (!N1.dead) = false := by rw [hd]; rfl
  rw [hdz2]; go_wp2; go_ret
  exact ⟨rfl, ⟨Fl2, Fv4, H4.out.1, H4.out.2.1, HC3.out.2, H4.out.2.2.1⟩, H4.out.2.2.2⟩
 ·rw [if_neg hd] at hR
  have hdz2 : (!N1.dead) = true := by simpa using hd
  rw [hdz2]; have r4 := Below.refl w4.heap.size w4; have y19 := H4.out.1.blk.rule 19 _ rfl; have y0 := H4.out.1.blk.rule 0 _ rfl; rw [HI.out] at y0; have HMX := hide (H4.out.1.mx.chg (L := []) (Chg.of_below r4.drew) (by simp)); have HID := hd2 H.out.2.2.2.2.2.1 (show i64ok (i : Int) by unfold i64ok; omega)
  go_upto_region 4 with fail
  refine region_lx (fun w' => Below w4.heap.size w4 w') [9] [2, 2, 2, 0, 2, 2, 2, 0, 2, 3] (by (exact r4.drew)) (fun hS0 => ?_)
  (iterate 9 (first | refine lxt ?_ | refine lxp ?_))
  (refine lxn ?_; (refine IM.wp_putR _ _ _ rfl rfl rfl rfl HMX.out HID.out.1 HID.out.2 ?_; intro w5 hm5 hc5); (try simp only [Act.put]))
  refine lxN ?_
  have h5 := (H4.out.1.below r4.drew).matT hm5 (by exact hc5); have hc05 : Chg (ft nb p Fl Fv) w w5 := (H4.out.2.1.below r4.drew).trans hc5 (fun z hz => Or.inl (ft_mem.2 (Or.inr (Or.inr (Or.inl (List.mem_singleton.1 hz)))))); have H5 := hd2 h5 hc05; have HR := hide hR; clear h5 hc05 hm5 hc5 y19 y0 HMX hR hd hdz2; go_wp2; go_ret; obtain rfl := HR.out
  exact ⟨rfl, ⟨Fl2, Fv4, H5.out.1, H5.out.2, HC3.out.2, H4.out.2.2.1⟩, H4.out.2.2.2⟩
end

def ConOk (L : List Con) : Prop := ∀ c ∈ L, ∃ (t k : Nat) (b : List Nat), c = ((t : Int), (k : Int), bi b) ∧ t < 2 ^ 59 ∧ k < 2 ^ 59 ∧ k ≠ 2 ∧ b.length ≤ 50000
theorem ConOk.few {L : List Con} (h : ConOk L) : FewC L := fun c hc => by
 obtain ⟨t, k, b, rfl, _, _, _, hb⟩ := h c hc; simp only [bi_len]
 omega
theorem ConOk.kind {L : List Con} (h : ConOk L) : ∀ c ∈ L, c.2.1 ≠ 2 := fun c hc => by
 obtain ⟨t, k, b, rfl, _, _, hk, _⟩ := h c hc; simp only []
 omega
def Nd.at_ (N : Nd) : Nat := let a := min ((N.next N.id).getD 0).toNat (N.L.length + 1); if a = 0 then N.L.length else a
def Nd.hand (N : Nd) : Nd := { N with next := upd N.next N.id (some (N.at_ : Int)) }
theorem termC_in {base term : Int} {L : List Con} {q : Nat} (h : q ≤ L.length) : (termC base term L q).2 = true := by
 unfold termC
 cases q with
 |zero => rfl
 |succ k =>
  simp only []; rw [List.getElem?_eq_getElem (by omega)]
section
variable {w w' : World} {nb : Nat} {p : Pl} {Fl Fv : List Nat} {N : Nd}
theorem nsend_calls (h : NP w nb p Fl Fv N) (k : Int) (A1 A2 A3 : Option Addr) (n1 n2 n3 c1 c2 c3 : Nat) :
  Calls Tryz.prog 98 #[.pointer (some ⟨nb, 0, none⟩), .int .i64 N.id, .agg #[.int .i64 k, .slice A1 n1 c1, .slice A2 n2 c2, .slice A3 n3 c3]] w fun e w' => e = .returned (.tuple #[]) ∧ Below w.heap.size w w' := by
 have r0 := Below.refl w.heap.size w; have hb0 := belowL r0 (.cells #[.int .i64 k, .slice A1 n1 c1, .slice A2 n2 c2, .slice A3 n3 c3] 176); have b0 := h.blk.below hb0; have y2 : (w.alloc (.cells #[.int .i64 k, .slice A1 n1 c1, .slice A2 n2 c2, .slice A3 n3 c3] 176)).cell? ⟨nb, 2, none⟩ = some (.bool N.dead) := b0.cell 2; have y0 : (w.alloc (.cells #[.int .i64 k, .slice A1 n1 c1, .slice A2 n2 c2, .slice A3 n3 c3] 176)).cell? ⟨nb, 0, none⟩ = some (.int .i64 N.id) := b0.cell 0; obtain ⟨dd, hdd⟩ : ∃ dd, N.dead = dd := ⟨_, rfl⟩; rw [hdd] at y2; have HB := hide hb0; clear h b0 hb0 hdd
 cases dd with
 |true =>
  go_enter Tryz.func98, Tryz.ntmps98
  go_wp2
  go_end0
  exact ⟨rfl, HB.out⟩
 |false =>
  go_enter Tryz.func98, Tryz.ntmps98
  go_wp2
  go_end0
  exact ⟨rfl, HB.out⟩
theorem nhand_calls (h : NP w nb p Fl Fv N) (hid : 0 ≤ N.id ∧ N.id ≤ 15) (hL : ConOk N.L) (hn : 1 ≤ N.L.length ∧ N.L.length ≤ 100000) (hnx : 0 ≤ (N.next N.id).getD 0 ∧ (N.next N.id).getD 0 ≤ 1000000) :
  Calls Tryz.prog 93 #[.pointer (some ⟨nb, 0, none⟩), .int .i64 N.id] w fun e w' => e = .returned (.tuple #[]) ∧ NP w' nb p Fl Fv N.hand ∧ Chg [p.nx] w w' := by
 have r0 := Below.refl w.heap.size w; have HLA := hide (lg_last0 h.log (by omega)); obtain ⟨f0, hf0⟩ : ∃ f0 : Nat, (N.next N.id).getD 0 = f0 := ⟨((N.next N.id).getD 0).toNat, by omega⟩; obtain ⟨n, hnn⟩ : ∃ n, N.L.length = n := ⟨_, rfl⟩; obtain ⟨a, ha⟩ : ∃ a, N.at_ = a := ⟨_, rfl⟩
 have hav : a = (if min f0 (n + 1) = 0 then n else min f0 (n + 1)) := by rw [← ha]; unfold Nd.at_; simp only [hf0, hnn, Int.toNat_natCast]
 have y9 : w.cell? ⟨nb, 9, none⟩ = some (.pointer (some ⟨p.lb, 0, none⟩)) := h.blk.cell 9; rw [hnn] at HLA; have H := hd7 h hid hL hn hf0 hnn ha; clear h hid hL hf0 ha
 go_enter Tryz.func93, Tryz.ntmps93
 go_wp2_with fail
 with_reducible refine HLA.out.mono ?_
 rintro e w1 ⟨rfl, q, rfl⟩; have hb1 := below_drewN r0 q; have h1 := H.out.1.below hb1; have y18 : (w.drewN q).cell? ⟨nb, 18, none⟩ = some (.map (some p.nx)) := h1.blk.cell 18; have hlk := h1.nx.look (k := N.id) (by have := H.out.2.1; unfold i64ok; omega); rw [H.out.2.2.2.2.1] at hlk
 have q1 : IntKind.i64.wrap ((n : Int) + 1) = ((n + 1 : Nat) : Int) := by rw [IntWalk.i64_in _ (by omega)]; omega
 have H1 := hd2 h1 hb1; obtain ⟨m, hm⟩ : ∃ m, min f0 (n + 1) = m := ⟨_, rfl⟩; rw [hm] at hav
 have qm : min (f0 : Int) ((n : Int) + 1) = (m : Int) := by omega
 have ham : 1 ≤ a ∧ a ≤ n + 1 := by split at hav <;> omega
 have HA := hd2 ham hnn; clear y9 HLA h1 hb1 hm hnn
 have hmu : ∀ wz : World, Below w.heap.size w wz → IM wz p.nx (cnt16 N.next) N.next := fun wz hb => H.out.1.nx.chg (L := []) (Chg.of_below hb) (by simp)
 have HMU := hide hmu; have HOK := hide (show i64ok (a : Int) by unfold i64ok; have := ham.2; have := H.out.2.2.2.1; have := HA.out.2; omega); clear hmu
 by_cases hm0 : m = 0
 ·rw [if_pos hm0] at hav
  have u0 : ((m : Int) == 0) = true := by simp [hm0]
  have HA0 := hide hav; have HOK := HOK.out; rw [hav] at HOK; have HOK := hide HOK; clear hav hm0 ham
  go_wp2_with (first | with_reducible fail | (refine IM.wpl_putR rfl _ _ _ rfl rfl rfl rfl (HMU.out _ H1.out.2) H.out.2.1 HOK.out ?_))
  intro w2 hm2 hc2
  have h2 := H1.out.1.nextT hm2 hc2; have hcw : Chg [p.nx] w w2 := (Chg.of_below H1.out.2).trans hc2 (fun z hz => Or.inl hz)
  have hNh : ({ N with next := upd N.next N.id (some (n : Int)) } : Nd) = N.hand := by unfold Nd.hand; rw [H.out.2.2.2.2.2.2, HA0.out]
  rw [hNh] at h2; obtain ⟨r, hr⟩ : ∃ r, n - 1 = r := ⟨_, rfl⟩
  have hX : 1 ≤ n ∧ n ≤ n + 1 := by have := HA.out.1; have := HA0.out; omega
  have hnl : n ≤ 100000 := by have := H.out.2.2.2.1; have := HA.out.2; omega
  have q2 : IntKind.i64.wrap ((n : Int) - 1) = (r : Int) := by rw [IntWalk.i64_in _ (by omega)]; omega
  have HTE := lg_term r h2.log (Int.le_refl _) (by omega) (by omega) (i := (r : Int)) (by omega); have htc := termC_in (base := 0) (term := 0) (L := N.L) (q := r) (by have := HA.out.2; omega); rw [show N.hand.L = N.L from rfl, htc] at HTE; obtain ⟨tv, htv⟩ : ∃ tv, (termC 0 0 N.L r).1 = tv := ⟨_, rfl⟩; rw [htv] at HTE; have HTE := hide HTE; have y9 : w2.cell? ⟨nb, 9, none⟩ = some (.pointer (some ⟨p.lb, 0, none⟩)) := h2.blk.cell 9; have HX := hd2 hX hr; have HNL := hide hnl; have H2 := hd2 h2 hcw
  have hnl2 : (n : Int) ≤ 100000 := by omega
  have hX2 : (1 : Int) ≤ n ∧ (n : Int) ≤ 100001 := by omega
  clear hm2 hc2 h2 hcw hNh hr hX hnl htc htv hlk; go_wp2_with fail
  with_reducible refine HTE.out.mono ?_
  rintro e w3 ⟨rfl, q3, rfl⟩; have hb3 := below_drewN (Below.refl w2.heap.size w2) q3; have h3 := H2.out.1.below hb3; have y9' : (w2.drewN q3).cell? ⟨nb, 9, none⟩ = some (.pointer (some ⟨p.lb, 0, none⟩)) := h3.blk.cell 9; have HFR := lg_from r 8 h3.log (show FewC N.L from H.out.2.2.1.few) (Int.le_refl _) (by omega) (show N.L.length ≤ 1000000 by have := HA.out.2; have := HNL.out; omega) (by have := HX.out; have := HNL.out; omega) (i := (n : Int)) (by have := HX.out; omega); have HFR := hide HFR; have H3 := hd2 h3 hb3; obtain ⟨w3, hw3⟩ : ∃ w3, w2.drewN q3 = w3 := ⟨_, rfl⟩; rw [hw3] at y9' HFR H3; rw [hw3]; clear y9 HTE hb3 h3 hw3; go_wp2_with fail
  with_reducible refine HFR.out.mono ?_
  rintro e w4 hfo; obtain ⟨A4, n4, c4, rfl, hn4, hents, hfr4, hb4⟩ := hfo.ents; obtain ⟨⟨ys, hys1, hys2, hrd, hok⟩, hcap⟩ := hents
  have hn48 : n4 ≤ 8 := by rw [hn4, List.length_take]; exact Nat.min_le_left _ _
  have hcv : ∀ y ∈ cons ys, ∃ (t k : Nat) (b : List Nat), y = ((t : Int), (k : Int), bi b) ∧ t < 2 ^ 59 ∧ k < 2 ^ 59 ∧ k ≠ 2 ∧ b.length ≤ 50000 := fun y hy => H.out.2.2.1 y (List.mem_of_mem_drop (List.mem_of_mem_take (show y ∈ (N.L.drop r).take (8 : Int).toNat from hys2 ▸ hy)))
  have HY := hd4 hys1 hrd hok hcv; have H4 := hide hb4; have hnil : Hid (OwnT w4 w4 none 0 []) := hide (OwnT.nil _ _)
  have hn482 : (n4 : Int) ≤ 8 := by omega
  clear hfo hn4 hfr4 hb4 hcv hys1 hys2 hrd hok hcap y9' HFR; go_wp2
  go_loopw [10, 12, 83, 84, 85, 86, 87, 88, 89, 90, 91, 92] (fun ov _ iv _ _ _ _ _ _ _ _ _ wr => ∃ (k : Nat) (Lb : List (List Nat)) (A : Option Addr) (c : Nat), k ≤ n4 ∧ iv = .int .i64 k ∧ ov = .slice A Lb.length c ∧ Hid (Lb.length = k) ∧ Hid (OwnT w4 wr A c Lb ∧ Below w4.heap.size w4 wr)) (fun _ _ iv _ _ _ _ _ _ _ _ _ _ => n4 - (Go.RowKit.intOf iv).toNat)
  case atStart => exact ⟨0, [], none, 0, Nat.zero_le _, rfl, rfl, hide rfl, hide ⟨hnil.out, Below.refl _ _⟩⟩
  case round =>
   obtain ⟨k, Lb, A, c, hk, rfl, rfl, hLb, hO⟩ := hrel
   by_cases hlt : k < n4
   ·have i1 : (k : Int) < n4 := by omega
    have hky : k < ys.length := by rw [HY.out.1]; exact hlt
    have hrr := HY.out.2.1.below hO.out.2; obtain ⟨b, o, rfl, hbl, hc⟩ := hrr.at_ (by omega); obtain ⟨x, hx⟩ : ∃ x, ys[k] = x := ⟨_, rfl⟩
    have hxm : x ∈ ys := by rw [← hx]; exact List.getElem_mem _
    have g0 := hc (k * 3 + 0) (.int .i64 x.t) (by rw [entCells_get ys k 0 hky (by omega), hx]; rfl); have g1 := hc (k * 3 + 1) (.int .i64 x.k) (by rw [entCells_get ys k 1 hky (by omega), hx]; rfl); have g2 := hc (k * 3 + 2) (.slice x.A x.b.length x.c) (by rw [entCells_get ys k 2 hky (by omega), hx]; rfl); obtain ⟨et, ek, eb, hxe, he1, he2, _, he3⟩ := HY.out.2.2.2 x.con (by unfold cons; exact List.mem_map_of_mem hxm); have hxo := (HY.out.2.2.1 x hxm).below hO.out.2; obtain ⟨xt, xk, xA, xc, xbb⟩ := x; simp only [Ent.con, Prod.mk.injEq] at hxe; obtain ⟨rfl, rfl, rfl⟩ := hxe; simp only [bi_len] at g0 g1 g2
    have g1' : wr.cell? ⟨b, o + k * 3 + 1, none⟩ = some (.int .i64 ek) := by rw [Nat.add_assoc]; exact g1
    have g2' : wr.cell? ⟨b, o + k * 3 + 2, none⟩ = some (.slice xA eb.length xc) := by rw [Nat.add_assoc]; exact g2
    have g0' : wr.cell? ⟨b, o + k * 3, none⟩ = some (.int .i64 et) := g0; obtain ⟨wA, hwA⟩ : ∃ wA, wr.alloc (.cells #[.int .i64 et, .int .i64 ek, .slice xA eb.length xc] 157) = wA := ⟨_, rfl⟩
    have hbA : Below wr.heap.size wr wA := hwA ▸ belowL (Below.refl _ _) _
    have HEB := hide (entb_calls (w := wA) et ek (hxo.rb.below hbA) (by omega) (by omega) (by omega)); have HWA := hide hwA; have HBA := hide (belowA hbA hO.out.2); have HOA := hide (hO.out.1.below hbA); clear hxo hx hxm hc hbl hrr hwA hbA g0 g1 g2 he1 he2 he3 hky; go_wp2_with fail; rw [HWA.out]
    with_reducible refine HEB.out.mono ?_
    rintro e w5 ⟨A5, c5, rfl, ho5, hb5⟩; obtain ⟨tb, htb⟩ : ∃ tb, ebytes et ek eb = tb := ⟨_, rfl⟩; rw [htb] at ho5 ⊢; have H5 := hd3 (HOA.out.below hb5) (belowA hb5 HBA.out) (ho5.back HBA.out.size); have HLl := hide (show Lb.length ≤ 100000 by rw [hLb.out]; omega); clear ho5 hb5 htb HEB g0' g1' g2' HOA HBA
    go_wp2_with (at_builtin; refine wpList_appendT rfl _ _ rfl H5.out.1 H5.out.2.1 H5.out.2.2 HLl.out rfl rfl ?_)
    intro A6 c6 w6 hO6 hb6 hst
    have H6 := hd2 hO6 hb6; clear hO6 hb6 hst H5; go_wp2
    go_roundw
    case rel => exact ⟨k + 1, Lb ++ [tb], A6, c6, by omega, by go_num, by first | rfl | simp, hide (by simp [hLb.out]), H6⟩
    case measure => simp [Go.RowKit.intOf]; omega
   ·have i1 : ¬ (k : Int) < n4 := by omega
    have h5 := (H3.out.1.below H4.out).below hO.out.2; have rr := Below.refl wr.heap.size wr; have y3r := h5.blk.rule 3 _ rfl; have y10r := h5.blk.rule 10 _ rfl
    have hse := fun (w' : World) (hb : Below wr.heap.size wr w') (A1 A2 A3 : Option Addr) (n1 n2 n3 c1 c2 c3 : Nat) => nsend_calls (h5.below hb) 3 A1 A2 A3 n1 n2 n3 c1 c2 c3
    rw [show N.hand.id = N.id from rfl] at hse; have HSE := hide hse; have H5 := hide h5; clear h5 hse
    go_upto_region 15 with fail
    refine region_lxf (fun w' => Below wr.heap.size wr w') [] 0 [(2,0),(2,1),(2,2),(2,3),(2,4),(2,5),(0,6),(2,7),(2,8),(2,9),(2,10),(2,11),(2,12),(0,13),(2,15),(1,14),(2,16),(1,17)] (bzA 18 262143) (by (first | exact rr.drew | exact belowL rr _ | exact (belowL rr _).drew | exact hb7')) (fun hS0 => ?_)
    (iterate 15 (first | refine lxt ?_ | refine lxp ?_))
    (refine lxe ?_; go_simp; refine lxB (by (first | exact rr.drew | exact belowL rr _ | exact (belowL rr _).drew | exact hb7')) (fun hS1 => ?_))
    refine lxp ?_
    (refine lxe ?_; go_simp; ((go_at_call 98; with_reducible refine (HSE.out _ (belowL rr _).drew _ _ _ _ _ _ _ _ _).mono ?_; rintro e w7 ⟨rfl, hb7⟩; have hb7' := belowA hb7 (belowL rr _).drew)); refine lxB (by (first | exact rr.drew | exact belowL rr _ | exact (belowL rr _).drew | exact hb7')) (fun hS1 => ?_))
    refine lxN (lxd ?_)
    go_wp2
    go_end0
    exact ⟨rfl, H5.out.below hb7', ((((H2.out.2.below H3.out.2).below H4.out).below hO.out.2).below hb7')⟩
 ·rw [if_neg hm0] at hav
  have u0 : ((m : Int) == 0) = false := by simp; omega
  have HA0 := hide hav; have HOK := HOK.out; rw [hav] at HOK; have HOK := hide HOK; clear hav hm0 ham
  go_wp2_with (first | with_reducible fail | (refine IM.wpl_putR rfl _ _ _ rfl rfl rfl rfl (HMU.out _ H1.out.2) H.out.2.1 HOK.out ?_))
  intro w2 hm2 hc2
  have h2 := H1.out.1.nextT hm2 hc2; have hcw : Chg [p.nx] w w2 := (Chg.of_below H1.out.2).trans hc2 (fun z hz => Or.inl hz)
  have hNh : ({ N with next := upd N.next N.id (some (m : Int)) } : Nd) = N.hand := by unfold Nd.hand; rw [H.out.2.2.2.2.2.2, HA0.out]
  rw [hNh] at h2; obtain ⟨r, hr⟩ : ∃ r, m - 1 = r := ⟨_, rfl⟩
  have hX : 1 ≤ m ∧ m ≤ n + 1 := by have := HA.out.1; have := HA0.out; omega
  have hnl : n ≤ 100000 := by have := H.out.2.2.2.1; have := HA.out.2; omega
  have q2 : IntKind.i64.wrap ((m : Int) - 1) = (r : Int) := by rw [IntWalk.i64_in _ (by omega)]; omega
  have HTE := lg_term r h2.log (Int.le_refl _) (by omega) (by omega) (i := (r : Int)) (by omega); have htc := termC_in (base := 0) (term := 0) (L := N.L) (q := r) (by have := HA.out.2; omega); rw [show N.hand.L = N.L from rfl, htc] at HTE; obtain ⟨tv, htv⟩ : ∃ tv, (termC 0 0 N.L r).1 = tv := ⟨_, rfl⟩; rw [htv] at HTE; have HTE := hide HTE; have y9 : w2.cell? ⟨nb, 9, none⟩ = some (.pointer (some ⟨p.lb, 0, none⟩)) := h2.blk.cell 9; have HX := hd2 hX hr; have HNL := hide hnl; have H2 := hd2 h2 hcw
  have hnl2 : (n : Int) ≤ 100000 := by omega
  have hX2 : (1 : Int) ≤ m ∧ (m : Int) ≤ 100001 := by omega
  clear hm2 hc2 h2 hcw hNh hr hX hnl htc htv hlk; go_wp2_with fail
  with_reducible refine HTE.out.mono ?_
  rintro e w3 ⟨rfl, q3, rfl⟩; have hb3 := below_drewN (Below.refl w2.heap.size w2) q3; have h3 := H2.out.1.below hb3; have y9' : (w2.drewN q3).cell? ⟨nb, 9, none⟩ = some (.pointer (some ⟨p.lb, 0, none⟩)) := h3.blk.cell 9; have HFR := lg_from r 8 h3.log (show FewC N.L from H.out.2.2.1.few) (Int.le_refl _) (by omega) (show N.L.length ≤ 1000000 by have := HA.out.2; have := HNL.out; omega) (by have := HX.out; have := HNL.out; omega) (i := (m : Int)) (by have := HX.out; omega); have HFR := hide HFR; have H3 := hd2 h3 hb3; obtain ⟨w3, hw3⟩ : ∃ w3, w2.drewN q3 = w3 := ⟨_, rfl⟩; rw [hw3] at y9' HFR H3; rw [hw3]; clear y9 HTE hb3 h3 hw3; go_wp2_with fail
  with_reducible refine HFR.out.mono ?_
  rintro e w4 hfo; obtain ⟨A4, n4, c4, rfl, hn4, hents, hfr4, hb4⟩ := hfo.ents; obtain ⟨⟨ys, hys1, hys2, hrd, hok⟩, hcap⟩ := hents
  have hn48 : n4 ≤ 8 := by rw [hn4, List.length_take]; exact Nat.min_le_left _ _
  have hcv : ∀ y ∈ cons ys, ∃ (t k : Nat) (b : List Nat), y = ((t : Int), (k : Int), bi b) ∧ t < 2 ^ 59 ∧ k < 2 ^ 59 ∧ k ≠ 2 ∧ b.length ≤ 50000 := fun y hy => H.out.2.2.1 y (List.mem_of_mem_drop (List.mem_of_mem_take (show y ∈ (N.L.drop r).take (8 : Int).toNat from hys2 ▸ hy)))
  have HY := hd4 hys1 hrd hok hcv; have H4 := hide hb4; have hnil : Hid (OwnT w4 w4 none 0 []) := hide (OwnT.nil _ _)
  have hn482 : (n4 : Int) ≤ 8 := by omega
  clear hfo hn4 hfr4 hb4 hcv hys1 hys2 hrd hok hcap y9' HFR; go_wp2
  go_loopw [10, 12, 83, 84, 85, 86, 87, 88, 89, 90, 91, 92] (fun ov _ iv _ _ _ _ _ _ _ _ _ wr => ∃ (k : Nat) (Lb : List (List Nat)) (A : Option Addr) (c : Nat), k ≤ n4 ∧ iv = .int .i64 k ∧ ov = .slice A Lb.length c ∧ Hid (Lb.length = k) ∧ Hid (OwnT w4 wr A c Lb ∧ Below w4.heap.size w4 wr)) (fun _ _ iv _ _ _ _ _ _ _ _ _ _ => n4 - (Go.RowKit.intOf iv).toNat)
  case atStart => exact ⟨0, [], none, 0, Nat.zero_le _, rfl, rfl, hide rfl, hide ⟨hnil.out, Below.refl _ _⟩⟩
  case round =>
   obtain ⟨k, Lb, A, c, hk, rfl, rfl, hLb, hO⟩ := hrel
   by_cases hlt : k < n4
   ·have i1 : (k : Int) < n4 := by omega
    have hky : k < ys.length := by rw [HY.out.1]; exact hlt
    have hrr := HY.out.2.1.below hO.out.2; obtain ⟨b, o, rfl, hbl, hc⟩ := hrr.at_ (by omega); obtain ⟨x, hx⟩ : ∃ x, ys[k] = x := ⟨_, rfl⟩
    have hxm : x ∈ ys := by rw [← hx]; exact List.getElem_mem _
    have g0 := hc (k * 3 + 0) (.int .i64 x.t) (by rw [entCells_get ys k 0 hky (by omega), hx]; rfl); have g1 := hc (k * 3 + 1) (.int .i64 x.k) (by rw [entCells_get ys k 1 hky (by omega), hx]; rfl); have g2 := hc (k * 3 + 2) (.slice x.A x.b.length x.c) (by rw [entCells_get ys k 2 hky (by omega), hx]; rfl); obtain ⟨et, ek, eb, hxe, he1, he2, _, he3⟩ := HY.out.2.2.2 x.con (by unfold cons; exact List.mem_map_of_mem hxm); have hxo := (HY.out.2.2.1 x hxm).below hO.out.2; obtain ⟨xt, xk, xA, xc, xbb⟩ := x; simp only [Ent.con, Prod.mk.injEq] at hxe; obtain ⟨rfl, rfl, rfl⟩ := hxe; simp only [bi_len] at g0 g1 g2
    have g1' : wr.cell? ⟨b, o + k * 3 + 1, none⟩ = some (.int .i64 ek) := by rw [Nat.add_assoc]; exact g1
    have g2' : wr.cell? ⟨b, o + k * 3 + 2, none⟩ = some (.slice xA eb.length xc) := by rw [Nat.add_assoc]; exact g2
    have g0' : wr.cell? ⟨b, o + k * 3, none⟩ = some (.int .i64 et) := g0; obtain ⟨wA, hwA⟩ : ∃ wA, wr.alloc (.cells #[.int .i64 et, .int .i64 ek, .slice xA eb.length xc] 157) = wA := ⟨_, rfl⟩
    have hbA : Below wr.heap.size wr wA := hwA ▸ belowL (Below.refl _ _) _
    have HEB := hide (entb_calls (w := wA) et ek (hxo.rb.below hbA) (by omega) (by omega) (by omega)); have HWA := hide hwA; have HBA := hide (belowA hbA hO.out.2); have HOA := hide (hO.out.1.below hbA); clear hxo hx hxm hc hbl hrr hwA hbA g0 g1 g2 he1 he2 he3 hky; go_wp2_with fail; rw [HWA.out]
    with_reducible refine HEB.out.mono ?_
    rintro e w5 ⟨A5, c5, rfl, ho5, hb5⟩; obtain ⟨tb, htb⟩ : ∃ tb, ebytes et ek eb = tb := ⟨_, rfl⟩; rw [htb] at ho5 ⊢; have H5 := hd3 (HOA.out.below hb5) (belowA hb5 HBA.out) (ho5.back HBA.out.size); have HLl := hide (show Lb.length ≤ 100000 by rw [hLb.out]; omega); clear ho5 hb5 htb HEB g0' g1' g2' HOA HBA
    go_wp2_with (at_builtin; refine wpList_appendT rfl _ _ rfl H5.out.1 H5.out.2.1 H5.out.2.2 HLl.out rfl rfl ?_)
    intro A6 c6 w6 hO6 hb6 hst
    have H6 := hd2 hO6 hb6; clear hO6 hb6 hst H5; go_wp2
    go_roundw
    case rel => exact ⟨k + 1, Lb ++ [tb], A6, c6, by omega, by go_num, by first | rfl | simp, hide (by simp [hLb.out]), H6⟩
    case measure => simp [Go.RowKit.intOf]; omega
   ·have i1 : ¬ (k : Int) < n4 := by omega
    have h5 := (H3.out.1.below H4.out).below hO.out.2; have rr := Below.refl wr.heap.size wr; have y3r := h5.blk.rule 3 _ rfl; have y10r := h5.blk.rule 10 _ rfl
    have hse := fun (w' : World) (hb : Below wr.heap.size wr w') (A1 A2 A3 : Option Addr) (n1 n2 n3 c1 c2 c3 : Nat) => nsend_calls (h5.below hb) 3 A1 A2 A3 n1 n2 n3 c1 c2 c3
    rw [show N.hand.id = N.id from rfl] at hse; have HSE := hide hse; have H5 := hide h5; clear h5 hse
    go_upto_region 15 with fail
    refine region_lxf (fun w' => Below wr.heap.size wr w') [] 0 [(2,0),(2,1),(2,2),(2,3),(2,4),(2,5),(0,6),(2,7),(2,8),(2,9),(2,10),(2,11),(2,12),(0,13),(2,15),(1,14),(2,16),(1,17)] (bzA 18 262143) (by (first | exact rr.drew | exact belowL rr _ | exact (belowL rr _).drew | exact hb7')) (fun hS0 => ?_)
    (iterate 15 (first | refine lxt ?_ | refine lxp ?_))
    (refine lxe ?_; go_simp; refine lxB (by (first | exact rr.drew | exact belowL rr _ | exact (belowL rr _).drew | exact hb7')) (fun hS1 => ?_))
    refine lxp ?_
    (refine lxe ?_; go_simp; ((go_at_call 98; with_reducible refine (HSE.out _ (belowL rr _).drew _ _ _ _ _ _ _ _ _).mono ?_; rintro e w7 ⟨rfl, hb7⟩; have hb7' := belowA hb7 (belowL rr _).drew)); refine lxB (by (first | exact rr.drew | exact belowL rr _ | exact (belowL rr _).drew | exact hb7')) (fun hS1 => ?_))
    refine lxN (lxd ?_)
    go_wp2
    go_end0
    exact ⟨rfl, H5.out.below hb7', ((((H2.out.2.below H3.out.2).below H4.out).below hO.out.2).below hb7')⟩
end
end Go.Proofs.YtcahcjfgmdpdoaaGreat
