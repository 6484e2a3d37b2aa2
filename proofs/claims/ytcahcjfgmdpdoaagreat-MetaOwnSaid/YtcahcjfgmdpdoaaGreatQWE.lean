/- One text of: Vtu Vke Vpu. -/
import Derived.Test.YtcahcjfgmdpdoaaGreatQWD
set_option maxHeartbeats 4000000
set_option maxRecDepth 100000
namespace Go.Proofs.YtcahcjfgmdpdoaaGreat
open Go.RowKit Go.Proofs Go.Maps
set_option linter.unusedVariables false
set_option linter.unusedSimpArgs false

section
variable {w w' : World} {v d j : Nat} {F G Fd : List Nat} {D : Dev} {J : Jrn} {V : Vlt} {jp : Option Addr}
theorem DevM.ne (h : DevM w d F D) {t : TypeId} {cs : List Value} (hb : Blk w v t cs) (h1 : t ≠ 58) (h2 : t ≠ 198) (h3 : t ≠ 248) : v ∉ F := by
 obtain ⟨lb, A, c, k1, k2, k3, rfl⟩ := h.ex
 intro hx
 simp only [List.mem_cons, Option.mem_toList] at hx
 rcases hx with rfl | rfl | hx
 ·exact h1 (hb.one k1).2
 ·exact h2 (hb.one k2).2
 ·exact h3 (own_typed k3 hx hb)
theorem JrnM.ne (h : JrnM w j d F J) {t : TypeId} {cs : List Value} (hb : Blk w v t cs) (h1 : t ≠ 205) (h2 : t ≠ 262) : v ∉ F := by
 obtain ⟨A, c, X, k1, k2, k3, k4, rfl⟩ := h.ex
 intro hx
 simp only [List.mem_cons, Option.mem_toList] at hx
 rcases hx with rfl | hx
 ·exact h1 (hb.one k1).2
 ·exact h2 (own_typed k2 hx hb)
theorem JpM.chg (h : JpM w jp d F V) (hc : Chg G w w') (hn : ∀ x ∈ F, x ∉ G) (hG : NoB w G) : JpM w' jp d F V := by
 rcases h with ⟨j, e, h⟩ | h
 ·exact Or.inl ⟨j, e, h.chg hc hn hG⟩
 ·exact Or.inr h
theorem JpM.isB (h : JpM w jp d F V) : ∀ x ∈ F, ∃ t cs, Blk w x t cs := by
 rcases h with ⟨j, e, h⟩ | ⟨_, rfl⟩
 ·exact h.isB
 ·simp
theorem JpM.nob (h : JpM w jp d F V) : NoB w F := by
 rcases h with ⟨j, e, h⟩ | ⟨_, rfl⟩
 ·exact h.nob
 ·intro g hg; cases hg
theorem JpM.apart (h : JpM w jp d F V) (hd : DevM w d Fd D) : ∀ x ∈ F, x ∉ Fd := by
 rcases h with ⟨j, e, h⟩ | ⟨_, rfl⟩
 ·exact h.apart hd
 ·simp
theorem JpM.ne (h : JpM w jp d F V) {cs : List Value} (hb : Blk w v 95 cs) : v ∉ F := by
 rcases h with ⟨j, e, h⟩ | ⟨_, rfl⟩
 ·exact h.ne hb (by decide) (by decide)
 ·simp
theorem JpM.off (h : JpM w jp d F V) (D' : Dev) : JpM w jp d F { V with D := D', gone := true } := h.imp id (fun h => ⟨rfl, h.2⟩)
def VltT (w w' : World) (v d : Nat) (F : List Nat) (V : Vlt) : Prop := ∃ F', VltM w' v d F' V ∧ Chg F w w' ∧ ∀ x ∈ F', x ∈ F ∨ w.heap.size ≤ x
theorem Blk.isB {t : TypeId} {cs : List Value} (h : Blk w v t cs) : ∀ x ∈ [v], ∃ t cs, Blk w x t cs := fun x hx => by rw [List.mem_singleton.1 hx]; exact ⟨_, _, h⟩
theorem KvM.chgB {m : Nat} {l : KV} (h : KvM w m l) (hc : Chg G w w') (hB : ∀ x ∈ G, ∃ t cs, Blk w x t cs) (hG : NoB w G) : KvM w' m l := h.chg hc (fun hx => h.notB hB m hx (by simp)) hG
end
theorem vlturn_calls {w : World} {v d m g : Nat} {F : List Nat} {V : Vlt} {l : KV} (h : VltM w v d F V) (hV : VltOk V g) (hng : V.gone = false) (hg : g < 2 ^ 60) (hk : KvM w m l) (hmF : m ∉ F) (hl : l.length ≤ 6000) :
  Calls Tryz.prog 175 #[.pointer (some ⟨v, 0, none⟩), .map (some m)] w fun e w' => e = .returned (.int .i64 (V.turn l).1) ∧ VltT w w' v d (m :: F) (V.turn l).2 ∧ VltOk (V.turn l).2 (g + 1) := by
 obtain ⟨jp, mb, Fj, Fd, h1, h2, h3, h4, rfl⟩ := h.ex; have hvg := hV.gen; have hn4 := hV.n4; have hln := hV.len; obtain ⟨_, hdw, _⟩ := hV.j hng; obtain ⟨R, hR⟩ : ∃ R, V.turn l = R := ⟨_, rfl⟩; rw [hR]
 have HOKD := fun hok => Vlt.turn_ok hV hk.vals hl hok
 rw [hR] at HOKD; unfold Vlt.turn at hR; have r0 := Below.refl w.heap.size w; have hro := kvRecs_ok hk.vals (by omega); have HRC := hide (vrecords_calls hk (by omega))
 have hsl := fun hgm => sectorsF_len (gen := V.gen + 1) hgm (kvRecs l) 0 (by rw [kvRecs_len]; omega) hro
 have hrl := kvRecs_len l; obtain ⟨g1, hg1⟩ : ∃ g1, V.gen + 1 = g1 := ⟨_, rfl⟩; obtain ⟨pl, hpl⟩ : ∃ pl, (g1 + 1) % 2 * V.n = pl := ⟨_, rfl⟩
 have hpn : pl ≤ V.n := by
  rw [← hpl]; have := Nat.mod_lt (g1 + 1) (y := 2) (by omega)
  exact Nat.le_trans (Nat.mul_le_mul_right _ (show (g1 + 1) % 2 ≤ 1 by omega)) (by omega)
 rw [hg1] at HOKD hR hsl; simp only [hpl] at HOKD hR
 have q1 : IntKind.i64.wrap ((V.gen : Int) + 1) = (g1 : Int) := by rw [IntWalk.i64_in _ (by omega)]; omega
 have q2 : IntKind.i64.wrap ((g1 : Int) + 1) = (g1 : Int) + 1 := IntWalk.i64_in _ (by omega)
 have q4 : IntKind.i64.wrap (((g1 : Int) + 1) % 2 * V.n) = (pl : Int) := by
  rw [show ((g1 : Int) + 1) % 2 = (((g1 + 1) % 2 : Nat) : Int) by omega, ← Int.natCast_mul, hpl]
  exact IntWalk.i64_in _ (by omega)
 have y1 := h1.rule 1 _ rfl; have y2 := h1.rule 2 _ rfl; have y2' : w.cell? ⟨v, 2, none⟩ = some (.int .i64 V.gen) := h1.cell 2; obtain ⟨recs, hrecs⟩ : ∃ recs, kvRecs l = recs := ⟨_, rfl⟩; rw [hrecs] at HOKD HRC hro hsl hrl; simp only [hrecs] at hR; have H := hd6 h1 h2 h3 h4 hk hmF; have HN := hd6 hV hdw hro hsl hrl HOKD; have HB := hd7 hln hpn hvg hg hl hn4 hng
 have hg62 : g1 < 2 ^ 62 := by omega
 have hg1V := hide hg1; clear h h1 h2 h3 h4 hk hmF hV hdw hro hsl hrl HOKD hln hpn hvg hg hl hn4 hng hrecs hpl hg1
 go_enter Tryz.func175, Tryz.ntmps175
 go_wp2_with fail; refine HRC.out.mono ?_; rintro e w2 ⟨A2, c2, rfl, ho2, hb2⟩; have r2 := Below.refl w2.heap.size w2; have HSC := hide (vsect_calls (ho2.below r2.drew) (fun t ht => ⟨by have := (HN.out.2.2.1 t ht).1; omega, (HN.out.2.2.1 t ht).2⟩) (by have := HN.out.2.2.2.2.1; have := HB.out; omega) g1 (by omega))
 have y1b := fun w' (hb : Below w2.heap.size w2 w') => y1 w' (belowA hb hb2)
 have HO2 := hd2 ho2 hb2; clear ho2 hb2 HRC y1 y2 y2'
 go_upto_region 3 with fail
 refine region_lxf (fun w' => Below w2.heap.size w2 w') [] 0 [(2,0),(2,1),(2,3),(2,4),(2,5),(0,6),(1,2),(2,7)] (bzA 8 255) (by (first | exact r2.drew | exact hb3')) (fun hS0 => ?_)
 (iterate 6 (first | refine lxt ?_ | refine lxp ?_))
 (refine lxe ?_; go_simp; ((go_at_call 189; refine HSC.out.mono ?_; rintro e w3 ⟨rfl, hb3⟩; have hb3' := belowA hb3 r2.drew)); refine lxB (by (first | exact r2.drew | exact hb3')) (fun hS1 => ?_))
 refine lxp ?_
 refine lxN (lxd ?_)
 have HB3 := hide (belowA hb3' HO2.out.2); have HO3 := hide (HO2.out.1.below hb3'); obtain ⟨sc, hsc⟩ : ∃ sc, sectorsF g1 0 recs = sc := ⟨_, rfl⟩; simp only [hsc] at hR ⊢; have HSL := hide (fun e => hsc ▸ HN.out.2.2.2.1 e); clear hb3 hb3' hS0 hS1 HSC y1b hsc
 by_cases hs : V.n < sc
 ·rw [if_pos hs] at hR
  subst hR; have hf : VltM w3 v d (v :: mb :: (Fj ++ Fd)) V := ⟨jp, mb, Fj, Fd, H.out.1.below HB3.out, H.out.2.1.below HB3.out, H.out.2.2.1.chg (G := []) (Chg.of_below HB3.out) (by simp) (fun g hg => by cases hg), H.out.2.2.2.1.below HB3.out, rfl⟩; have HF := hide hf; clear hf q1 q2 q4; go_wp2; go_ret
  exact ⟨rfl, ⟨_, HF.out, Chg.of_below HB3.out, fun x hx => Or.inl (List.mem_cons_of_mem _ hx)⟩, HN.out.1.up (Nat.le_succ _)⟩
 ·rw [if_neg hs] at hR
  have b3 := H.out.1.below HB3.out; have hdm3 := H.out.2.2.2.1.below HB3.out; have hvd : v ∉ Fd := hdm3.ne b3 (by decide) (by decide) (by decide); have HLY := vlay_calls (V := V) b3 hvd hdm3 pl g1 (by have := HB.out; omega) hg62 (by have := HN.out.2.1; omega) HO3.out (fun t ht => ⟨by have := (HN.out.2.2.1 t ht).1; omega, (HN.out.2.2.1 t ht).2⟩) (fun e => by have := HSL.out e; have := HB.out; omega); obtain ⟨⟨e4, D4⟩, hq⟩ : ∃ x, V.lay pl g1 recs = x := ⟨_, rfl⟩; have HOK := HN.out.2.2.2.2.2; have hln := V.lay_len pl g1 recs
  have hlw := fun e => Vlt.lay_ok (V := V) (at_ := pl) (gen := g1) (recs := recs) e
  rw [hq] at HLY HOK hln hlw; simp only [] at hln hlw; have HLN := hide hln; have HLWE := hide hlw; clear hln hlw; simp only [hq] at hR HLY HOK; have HLY := hide HLY; have HOK := hide HOK; have y1 : w3.cell? ⟨v, 1, none⟩ = some (.int .i64 V.n) := b3.cell 1; have HVD := hide hvd; clear b3 hdm3 hvd hq; go_wp2_with fail
  with_reducible refine HLY.out.mono ?_
  rintro e w4 ⟨rfl, Fd4, hdz4, hc4, hF4⟩; have b4 := (H.out.1.below HB3.out).chg hc4 HVD.out; have hdm3 := H.out.2.2.2.1.below HB3.out; have hk4 := (H.out.2.2.2.2.1.below HB3.out).chgB hc4 hdm3.isB hdm3.nob; have hj3 := H.out.2.2.1.chg (G := []) (Chg.of_below HB3.out) (by simp) (fun g hg => by cases hg); have hj4 := hj3.chg hc4 (hj3.apart hdm3) hdm3.nob; have hkv4 := (H.out.2.1.below HB3.out).chgB hc4 hdm3.isB hdm3.nob; have hvd4 : v ∉ Fd4 := hdz4.ne b4 (by decide) (by decide) (by decide); have hc04 : Chg (v :: mb :: (Fj ++ Fd)) w w4 := (Chg.of_below HB3.out).trans hc4 (fun z hz => Or.inl (by simp [hz]))
  have hF04 : ∀ x ∈ Fd4, x ∈ Fd ∨ w.heap.size ≤ x := fun x hx => (hF4 x hx).imp id (fun h => Nat.le_trans HB3.out.size h)
  have nbv4 := NoB.blk b4 (by decide); have H4 := hd9 b4 hk4 hj4 hkv4 hvd4 hdz4 hc04 hF04 nbv4; clear b4 hdm3 hk4 hj3 hj4 hkv4 hvd4 hdz4 hc4 hF4 hc04 hF04 nbv4 HLY y1
  by_cases he4 : e4 = 0
  ·subst he4
   rw [if_neg (by simp)] at hR; have hw4 : D4.l.length = V.D.l.length := HLN.out; have HLW := hide (HLWE.out rfl); obtain ⟨k1, k2, k3, k4, k5, k6, k7, k8, k9⟩ := H4.out; have q2 := k1.cell 2; have f2 := k1.frozen 2; simp only [List.getElem?_cons_succ, List.getElem?_cons_zero] at q2; obtain ⟨w5, hw5⟩ : ∃ w5, w4.setCell ⟨v, 2, none⟩ (.int .i64 g1) = w5 := ⟨_, rfl⟩
   have c5 : Chg [v] w4 w5 := by rw [← hw5]; exact (Chg.refl [v] w4).setCell (p := ⟨v, 2, none⟩) (Or.inl (by simp)) _
   have b5 : Blk w5 v 95 [.pointer (some ⟨d, 0, none⟩), .int .i64 V.n, .int .i64 g1, .map (some mb), .pointer jp, .bool V.gone] := by rw [← hw5]; exact k1.set 2 _
   have m5 := k6.chg c5 (fun x hx hy => k5 (List.mem_singleton.1 hy ▸ hx)); have kk5 := k2.chgB c5 k1.isB k9; have HP := vpart_calls b5 m5 (n := V.n) (gen := g1) (by have := HB.out; omega) hg62 (by rw [HLW.out]; simp); obtain ⟨⟨e6, J6, rc, D6⟩, hq6⟩ : ∃ x, Vlt.part D4 V.n g1 = x := ⟨_, rfl⟩; rw [hq6] at HP; simp only [hq6] at hR HP; have HP := hide HP; have H5 := hd4 b5 kk5 m5 (k7.trans c5 (fun z hz => Or.inl (by rw [List.mem_singleton.1 hz]; simp))); have HK8 := hd2 k8 k5; have HOK4 := hide (HOK.out k6.ok); have HW5 := hide hw5; clear k1 k2 k3 k4 k5 k6 k7 k8 k9 b5 m5 kk5 c5 hw5 hq6 HOK; go_wp2_with fail; rw [HW5.out]
   with_reducible refine HP.out.mono ?_
   rintro e w6 ⟨p6, A6, c6, rfl, ho6, ⟨Fd6, hdz6, hc6, hF6⟩, hj6⟩; clear q2 f2; have hvd4 := HK8.out.2; have b6 := H5.out.1.chg hc6 hvd4; have kk6 := H5.out.2.1.chgB hc6 H5.out.2.2.1.isB H5.out.2.2.1.nob; have nbv6 := NoB.blk b6 (by decide); have hvd6 : v ∉ Fd6 := hdz6.ne b6 (by decide) (by decide) (by decide)
   have hc06 := H5.out.2.2.2.trans hc6 (fun z hz => by
    rcases HK8.out.1 z hz with h | h
    ·exact Or.inl (by simp [h])
    ·exact Or.inr h)
   have hF06 : ∀ x ∈ Fd6, x ∈ Fd ∨ w.heap.size ≤ x := fun x hx => (hF6 x hx).elim (HK8.out.1 x) (fun h => Or.inr (Nat.le_trans H5.out.2.2.2.size h))
   have q3 := b6.cell 3; have q4 := b6.cell 4; have f3 := b6.frozen 3; have f4 := b6.frozen 4; simp only [List.getElem?_cons_succ, List.getElem?_cons_zero] at q3 q4; obtain ⟨w7, hw7⟩ : ∃ w7, (w6.setCell ⟨v, 4, none⟩ (.pointer p6)).setCell ⟨v, 3, none⟩ (.map (some m)) = w7 := ⟨_, rfl⟩
   have c7 : Chg [v] w6 w7 := by rw [← hw7]; exact ((Chg.refl [v] w6).setCell (p := ⟨v, 4, none⟩) (Or.inl (by simp)) _).setCell (p := ⟨v, 3, none⟩) (Or.inl (by simp)) _
   have b7 : Blk w7 v 95 [.pointer (some ⟨d, 0, none⟩), .int .i64 V.n, .int .i64 g1, .map (some m), .pointer p6, .bool V.gone] := by rw [← hw7]; exact (b6.set 4 _).set 3 _
   have m7 := hdz6.chg c7 (fun x hx hy => hvd6 (List.mem_singleton.1 hy ▸ hx)); have kk7 := kk6.chgB c7 b6.isB nbv6; have hvl := H5.out.1.lt
   have j7 : e6 = 0 → ∃ j, p6 = some ⟨j, 0, none⟩ ∧ w.heap.size ≤ j ∧ JrnM w7 j d [j] J6 := fun e => by
    obtain ⟨j, h1, h2, h3⟩ := hj6 e
    exact ⟨j, h1, Nat.le_trans H5.out.2.2.2.size h2, h3.chg c7 (fun x hx hy => by rw [List.mem_singleton.1 hy] at hx; have := List.mem_singleton.1 hx; omega) nbv6⟩
   have HD := hide (vdone_calls b7 e6); have H7 := hd7 b7 m7 kk7 j7 (hc06.trans c7 (fun z hz => Or.inl (by rw [List.mem_singleton.1 hz]; simp))) hF06 hvd6; have HW7 := hide hw7; have HR := hide hR; clear b6 kk6 nbv6 hvd6 hc06 hF06 c7 b7 m7 kk7 j7 hvl hw7 ho6 hdz6 hc6 hF6 hj6 hvd4 hR; go_wp2_with fail; rw [HW7.out]
   with_reducible refine HD.out.mono ?_
   rintro e w8 ⟨rfl, b8, hc8⟩; clear q3 q4 f3 f4; obtain ⟨k1, k2, k3, k4, k5, k6, k7⟩ := H7.out; have nbv := NoB.blk k1 (by decide)
   have hj8 : ∃ Fj', JpM w8 p6 d Fj' ⟨D6, V.n, g1, l, J6, V.gone || e6 != 0⟩ ∧ ∀ x ∈ Fj', w.heap.size ≤ x := by
    by_cases e0 : e6 = 0
    ·obtain ⟨j, h1, h2, h3⟩ := k4 e0
     exact ⟨[j], Or.inl ⟨j, h1, h3.chg hc8 (fun x hx hy => h3.ne k1 (by decide) (by decide) (List.mem_singleton.1 hy ▸ hx)) nbv⟩, fun x hx => by rw [List.mem_singleton.1 hx]; exact h2⟩
    ·exact ⟨[], Or.inr ⟨by simp [e0], rfl⟩, by simp⟩
   obtain ⟨Fj', hjp, hjf⟩ := hj8; have hf : VltM w8 v d (v :: m :: (Fj' ++ Fd6)) ⟨D6, V.n, g1, l, J6, V.gone || e6 != 0⟩ := ⟨p6, m, Fj', Fd6, b8, k3.chgB hc8 k1.isB nbv, hjp, k2.chg hc8 (fun x hx hy => k7 (List.mem_singleton.1 hy ▸ hx)), rfl⟩; have hcf : Chg (m :: v :: mb :: (Fj ++ Fd)) w w8 := (k5.mono (fun z hz => Or.inl (List.mem_cons_of_mem _ hz))).trans hc8 (fun z hz => Or.inl (by rw [List.mem_singleton.1 hz]; simp))
   have hff : ∀ x ∈ v :: m :: (Fj' ++ Fd6), x ∈ m :: v :: mb :: (Fj ++ Fd) ∨ w.heap.size ≤ x := fun x hx => by
    simp only [List.mem_cons, List.mem_append] at hx ⊢
    rcases hx with hx | hx | hx | hx
    ·exact Or.inl (Or.inr (Or.inl hx))
    ·exact Or.inl (Or.inl hx)
    ·exact Or.inr (hjf x hx)
    ·exact (k6 x hx).imp (fun h => Or.inr (Or.inr (Or.inr (Or.inr h)))) id
   have HF := hd3 hf hcf hff; clear k1 k2 k3 k4 k5 k6 k7 nbv hjp hjf hf hcf hff b8 hc8 HD; go_wp2; go_ret; obtain rfl := HR.out
   exact ⟨rfl, ⟨_, HF.out.1, HF.out.2.1, HF.out.2.2⟩, HOK4.out⟩
  ·rw [if_pos (by simpa using he4)] at hR
   have u1 : ((e4 : Int) != 0) = true := by simp; omega
   have HD := hide (vdone_calls H4.out.1 e4)
   have ub : (V.gone || e4 != 0) = true := by simp [he4]
   rw [ub] at HD; have HR := hide hR; clear he4 ub hR q1 q2 q4; go_wp2_with fail; refine HD.out.mono ?_; rintro e w5 ⟨rfl, b5, hc5⟩; obtain ⟨k1, k2, k3, k4, k5, k6, k7, k8, k9⟩ := H4.out; have hf : VltM w5 v d (v :: mb :: (Fj ++ Fd4)) { V with D := D4, gone := true } := ⟨jp, mb, Fj, Fd4, b5, k4.chgB hc5 k1.isB k9, (k3.chg hc5 (fun x hx hy => k3.ne k1 (List.mem_singleton.1 hy ▸ hx)) k9).off D4, k6.chg hc5 (fun x hx hy => k5 (List.mem_singleton.1 hy ▸ hx)), rfl⟩; have hcf : Chg (m :: v :: mb :: (Fj ++ Fd)) w w5 := (k7.mono (fun z hz => Or.inl (List.mem_cons_of_mem _ hz))).trans hc5 (fun z hz => Or.inl (by rw [List.mem_singleton.1 hz]; simp)); have HF := hd3 hf hcf (HOK.out k6.ok); clear k1 k2 k3 k4 k5 k6 k7 k8 k9 b5 hc5 hf hcf HD; go_wp2; go_ret; obtain rfl := HR.out
   refine ⟨rfl, ⟨_, HF.out.1, HF.out.2.1, fun x hx => ?_⟩, HF.out.2.2⟩
   simp only [List.mem_cons, List.mem_append] at hx ⊢
   rcases hx with hx | hx | hx | hx
   ·exact Or.inl (Or.inr (Or.inl hx))
   ·exact Or.inl (Or.inr (Or.inr (Or.inl hx)))
   ·exact Or.inl (Or.inr (Or.inr (Or.inr (Or.inl hx))))
   ·exact (H4.out.2.2.2.2.2.2.2.1 x hx).imp (fun h => Or.inr (Or.inr (Or.inr (Or.inr h)))) id

theorem KvM.clone {w : World} {b : Nat} {l : KV} (h : KvM w b l) :
  Calls Tryz.prog 173 #[.map (some b)] w fun e w' => e = .returned (.map (some w.heap.size)) ∧ KvM w' w.heap.size l ∧ Below w.heap.size w w' := by
 obtain ⟨X, h1, h2, h3⟩ := h
 exact (Tab.clone YtcahcjfgmdpdoaaGreat.cloneByte h1).mono fun e w' ⟨he, k1, k2, k3⟩ => ⟨he, ⟨X, k1, h2, fun x hx => (h3 x hx).chg (Chg.of_below (L := []) k2) (fun g hg => by cases hg)⟩, k2⟩
theorem jt_parts {w2 w3 : World} {v d j mb m : Nat} {Fj Fd : List Nat} {J J' : Jrn} {D D' : Dev} {l l' : KV} {cs : List Value} (hb : Blk w2 v 95 cs) (hk : KvM w2 mb l) (hk2 : KvM w2 m l') (hj : JrnM w2 j d Fj J) (hd : DevM w2 d Fd D) (jt : JT w2 w3 j d Fj Fd J' D') :
  ∃ Fj' Fd', Blk w3 v 95 cs ∧ KvM w3 mb l ∧ KvM w3 m l' ∧ JrnM w3 j d Fj' J' ∧ DevM w3 d Fd' D' ∧ Chg (Fj ++ Fd) w2 w3 ∧ ∀ x ∈ Fj' ++ Fd', x ∈ Fj ++ Fd ∨ w2.heap.size ≤ x := by
 obtain ⟨Fj', Fd', h1, h2, h3, h4⟩ := jt
 have hB : ∀ x ∈ Fj ++ Fd, ∃ t cs, Blk w2 x t cs := fun x hx => (List.mem_append.1 hx).elim (hj.isB x) (hd.isB x)
 have hN : NoB w2 (Fj ++ Fd) := fun x hx => (List.mem_append.1 hx).elim (hj.nob x) (hd.nob x)
 exact ⟨Fj', Fd', hb.chg h3 (fun hx => (List.mem_append.1 hx).elim (hj.ne hb (by decide) (by decide)) (hd.ne hb (by decide) (by decide) (by decide))), hk.chgB h3 hB hN, hk2.chgB h3 hB hN, h1, h2, h3, h4⟩
theorem vfresh {w w2 : World} {v mb m : Nat} {Fj Fd Fj' Fd' : List Nat} (hs : w.heap.size ≤ w2.heap.size) (h : ∀ x ∈ Fj' ++ Fd', x ∈ Fj ++ Fd ∨ w2.heap.size ≤ x) (hm : m = mb ∨ w.heap.size ≤ m) : ∀ x ∈ v :: m :: (Fj' ++ Fd'), x ∈ v :: mb :: (Fj ++ Fd) ∨ w.heap.size ≤ x := fun x hx => by
 rcases List.mem_cons.1 hx with rfl | hx
 ·exact Or.inl (by simp)
 ·rcases List.mem_cons.1 hx with rfl | hx
  ·rcases hm with rfl | hm
   ·exact Or.inl (by simp)
   ·exact Or.inr hm
  ·rcases h x hx with h | h
   ·exact Or.inl (List.mem_cons_of_mem _ (List.mem_cons_of_mem _ h))
   ·exact Or.inr (Nat.le_trans hs h)
theorem VltT.step {w w1 w2 : World} {v d : Nat} {F F1 : List Nat} {V : Vlt} (hc : Chg F w w1) (hF : ∀ x ∈ F1, x ∈ F ∨ w.heap.size ≤ x) (h : VltT w1 w2 v d F1 V) : VltT w w2 v d F V := by
 obtain ⟨F2, h1, h2, h3⟩ := h
 exact ⟨F2, h1, hc.trans h2 hF, fun x hx => (h3 x hx).elim (hF x) (fun h => Or.inr (Nat.le_trans hc.size h))⟩
theorem vkeep_calls {w : World} {v d g : Nat} {F : List Nat} {V : Vlt} (h : VltM w v d F V) (hV : VltOk V g) (hg : g < 2 ^ 60) {A : Option Addr} {c : Nat} {b : List Nat} (hb : Bt w A c b) (hbb : ∀ x ∈ b, x < 256) (hbl : b.length ≤ 100000) :
  Calls Tryz.prog 154 #[.pointer (some ⟨v, 0, none⟩), .slice A b.length c] w fun e w' => e = .returned (.int .i64 (V.keep b).1) ∧ VltT w w' v d F (V.keep b).2 ∧ VltOk (V.keep b).2 (g + 1) := by
 obtain ⟨jp, mb, Fj, Fd, h1, h2, h3, h4, rfl⟩ := h.ex
 have hkp := fun ht => Vlt.keep_ok (b := b) hV hbb ht
 obtain ⟨R, hR⟩ : ∃ R, V.keep b = R := ⟨_, rfl⟩; rw [hR] at hkp ⊢; unfold Vlt.keep at hR; have r0 := Below.refl w.heap.size w; have y5 : w.cell? ⟨v, 5, none⟩ = some (.bool V.gone) := h1.cell 5; have y3 : w.cell? ⟨v, 3, none⟩ = some (.map (some mb)) := h1.cell 3
 by_cases hgn : V.gone = true
 ·rw [if_pos hgn] at hR
  subst hR; rw [hgn] at y5; have HF := hd2 h hV; clear hgn h1 h2 h3 h4 h hV hkp y3
  go_enter Tryz.func154, Tryz.ntmps154
  go_wp2; go_ret
  exact ⟨rfl, ⟨_, HF.out.1, Chg.refl _ _, fun x hx => Or.inl hx⟩, HF.out.2.up (Nat.le_succ _)⟩
 ·rw [if_neg hgn] at hR
  have hng : V.gone = false := by simpa using hgn
  rw [hng] at y5; obtain ⟨j1, j2, j3, j4, j5, j6, j7, j8⟩ := hV.j hng; have hn4 := hV.n4; have hln := hV.len; have hvg := hV.gen
  obtain ⟨j, rfl, hjm⟩ : ∃ j, jp = some ⟨j, 0, none⟩ ∧ JrnM w j d Fj V.J := by
   rcases h3 with h | h
   ·exact h
   ·rw [hng] at h; cases h.1
  have hll := hV.ll; have HCL := hide h2.clone; have H := hd7 h1 h2 hjm h4 hb hbb hbl; have HV := hide hV; have HKP := hide hkp; have HNG := hide hng; have HJ := hd8 j1 j2 j3 j4 j5 j6 j7 j8; have HB := hd5 hn4 hln hvg hll hg; clear hgn hng h h1 h2 h3 h4 hjm hb hbb hbl hV hkp j1 j2 j3 j4 j5 j6 j7 j8 hn4 hln hvg hll hg
  go_enter Tryz.func154, Tryz.ntmps154
  go_wp2_with fail; refine HCL.out.mono ?_; rintro e w1 ⟨rfl, hk1, hb1⟩; obtain ⟨m, hm⟩ : ∃ m, w.heap.size = m := ⟨_, rfl⟩; rw [hm] at hk1 ⊢; have HCH := hide (vchange_calls hk1 (H.out.2.2.2.2.1.below hb1) H.out.2.2.2.2.2.1 H.out.2.2.2.2.2.2 (by have := HB.out; omega)); obtain ⟨l', hl'⟩ : ∃ l', (kvChange V.l b).getD V.l = l' := ⟨_, rfl⟩
  have hl'l : l'.length ≤ V.l.length + 1 := by
   rw [← hl']
   cases hc : kvChange V.l b with
   |none => exact Nat.le_succ _
   |some l' => exact kvChange_len hc
  have hmF : m ∉ v :: mb :: (Fj ++ Fd) := fun hx => by
   have hlt : ∀ x ∈ v :: mb :: (Fj ++ Fd), x < w.heap.size := fun x hx => by
    simp only [List.mem_cons, List.mem_append] at hx
    rcases hx with rfl | rfl | hx | hx
    ·exact H.out.1.lt
    ·exact H.out.2.1.lt
    ·exact H.out.2.2.1.lt x hx
    ·exact H.out.2.2.2.1.lt x hx
   have := hlt m hx
   omega
  have HM := hd4 hm hl' hl'l hmF; have H1 := hd2 hk1 hb1; simp only [hl'] at hR HKP; have HKP := hide HKP.out; clear hm hl' hl'l hmF hk1 hb1 HCL y5 y3; go_wp2_with fail; refine HCH.out.mono ?_; rintro e w2 ⟨rfl, hk2, hc2⟩; rw [HM.out.2.1] at hk2; have hb2 : Below w.heap.size w w2 := Chg.onto H1.out.2 H1.out.2.size hc2 (fun z hz => by rw [List.mem_singleton.1 hz]; exact Nat.le_of_eq HM.out.1); have HAD := jadd_calls (H.out.2.2.1.below hb2) (H.out.2.2.2.1.below hb2) (H.out.2.2.2.2.1.below hb2) H.out.2.2.2.2.2.1 H.out.2.2.2.2.2.2 ⟨by have := HJ.out; have := HB.out; omega, by have := HJ.out; have := HB.out; omega⟩ ⟨HJ.out.2.2.2.2.2.1, by have := HJ.out; have := HB.out; omega⟩ (by have := HJ.out; omega) (by rw [HJ.out.1]; simp); have hfull := Jrn.add_full (J := V.J) (D := V.D) (b := b); have hake := V.J.add_keep V.D H.out.2.2.2.2.2.1 HJ.out.2.2.2.2.2.1; obtain ⟨⟨e3, J3, D3⟩, hq3⟩ : ∃ x, V.J.add V.D b = x := ⟨_, rfl⟩; rw [hq3] at HAD hfull hake; simp only [hq3] at hR HAD hfull hake; have HKP := HKP.out; simp only [hq3] at HKP; have HKP := hide HKP; have HAD := hide HAD; have HFU := hd2 hfull hake; have y4 : w2.cell? ⟨v, 4, none⟩ = some (.pointer (some ⟨j, 0, none⟩)) := (H.out.1.below hb2).cell 4; have H2 := hd2 hk2 hb2; clear hk2 hc2 hb2 hq3 hfull hake HCH; go_wp2_with fail
  with_reducible refine HAD.out.mono ?_
  rintro e w3 ⟨rfl, jt3⟩; obtain ⟨Fj3, Fd3, p1, p2, p3, p4, p5, p6, p7⟩ := jt_parts (H.out.1.below H2.out.2) (H.out.2.1.below H2.out.2) H2.out.1 (H.out.2.2.1.below H2.out.2) (H.out.2.2.2.1.below H2.out.2) jt3; have hc3 : Chg (v :: mb :: (Fj ++ Fd)) w w3 := (Chg.of_below H2.out.2).trans p6 (fun z hz => Or.inl (List.mem_cons_of_mem _ (List.mem_cons_of_mem _ hz))); have H3 := hd7 p1 p2 p3 p4 p5 hc3 p7; clear p1 p2 p3 p4 p5 p6 p7 hc3 jt3 HAD y4
  by_cases he6 : e3 = 6
  ·subst he6
   obtain ⟨_, rfl, rfl⟩ : True ∧ J3 = V.J ∧ D3 = V.D := by
    have := HFU.out.1 rfl; simp only [Prod.mk.injEq] at this
    exact ⟨trivial, this.2.1, this.2.2⟩
   rw [if_pos rfl] at hR; have hR : V.turn l' = R := hR; obtain ⟨p1, p2, p3, p4, p5, p6, p7⟩ := H3.out; have hm3 : VltM w3 v d (v :: mb :: (Fj3 ++ Fd3)) V := ⟨some ⟨j, 0, none⟩, mb, Fj3, Fd3, p1, p2, Or.inl ⟨j, rfl, p4⟩, p5, rfl⟩
   have hmn : m ∉ v :: mb :: (Fj3 ++ Fd3) := fun hx => by
    have hml := H2.out.1.lt; have hmF := HM.out.2.2.2; simp only [List.mem_cons] at hx hmF
    rcases hx with h | h | h
    ·exact hmF (Or.inl h)
    ·exact hmF (Or.inr (Or.inl h))
    ·exact (p7 m h).elim (fun h => hmF (Or.inr (Or.inr h))) (fun h => by omega)
   have HTU := vlturn_calls hm3 HV.out HNG.out HB.out.2.2.2.2 p3 hmn (by have := HB.out; have := HM.out.2.2.1; have := HJ.out; omega); rw [hR] at HTU; have HTU := hide HTU
   have hfr : ∀ x ∈ m :: v :: mb :: (Fj3 ++ Fd3), x ∈ v :: mb :: (Fj ++ Fd) ∨ w.heap.size ≤ x := fun x hx => by
    rcases List.mem_cons.1 hx with rfl | hx
    ·exact Or.inr (Nat.le_of_eq HM.out.1)
    ·exact vfresh (w := w) H2.out.2.size p7 (Or.inl rfl) x hx
   have HFR := hd2 p6 hfr; clear p1 p2 p3 p4 p5 p6 p7 hm3 hmn hfr hR; go_wp2_with fail
   with_reducible refine HTU.out.mono ?_
   rintro e w4 ⟨rfl, hv4, hok4⟩; have H4 := hd2 (VltT.step HFR.out.1 HFR.out.2 hv4) hok4; clear hv4 hok4 HTU; go_wp2; go_ret
   exact ⟨rfl, H4.out⟩
  ·rw [if_neg he6] at hR
   have HOK := hide (HKP.out (fun h => absurd h he6))
   have off : ∀ (w4 w5 : World) (J4 : Jrn) (D4 : Dev) (Fj4 Fd4 : List Nat) (cs : List Value), Blk w4 v 95 cs → KvM w4 mb V.l → JrnM w4 j d Fj4 J4 → DevM w4 d Fd4 D4 → Chg (v :: mb :: (Fj ++ Fd)) w w4 → (∀ x ∈ Fj4 ++ Fd4, x ∈ Fj ++ Fd ∨ w.heap.size ≤ x) → Chg [v] w4 w5 → Blk w5 v 95 [.pointer (some ⟨d, 0, none⟩), .int .i64 V.n, .int .i64 V.gen, .map (some mb), .pointer (some ⟨j, 0, none⟩), .bool true] → VltT w w5 v d (v :: mb :: (Fj ++ Fd)) { V with J := J4, D := D4, gone := true } := fun w4 w5 J4 D4 Fj4 Fd4 cs k1 k2 k4 k5 k6 k7 k8 k9 => by
    have nb := NoB.blk k1 (by decide)
    exact ⟨v :: mb :: (Fj4 ++ Fd4), ⟨some ⟨j, 0, none⟩, mb, Fj4, Fd4, k9, k2.chgB k8 k1.isB nb, Or.inl ⟨j, rfl, k4.chg k8 (fun x hx hy => k4.ne k1 (by decide) (by decide) (List.mem_singleton.1 hy ▸ hx)) nb⟩, k5.chg k8 (fun x hx hy => k5.ne k1 (by decide) (by decide) (by decide) (List.mem_singleton.1 hy ▸ hx)), rfl⟩,
     k6.trans k8 (fun z hz => Or.inl (by rw [List.mem_singleton.1 hz]; simp)), vfresh (w2 := w) (Nat.le_refl _) k7 (Or.inl rfl)⟩
   have OFF := hide off; clear off
   by_cases he0 : e3 = 0
   ·subst he0
    rw [if_neg (by simp)] at hR; have HFL := jflush_calls H3.out.2.2.2.1 H3.out.2.2.2.2.1 (by have := HFU.out.2.jw; rw [HJ.out.1] at this; simp only [List.length_nil] at this; omega) (by have := HFU.out.2.dw; have := HJ.out.2.1; omega); obtain ⟨⟨e4, J4, D4⟩, hq4⟩ : ∃ x, J3.flush D3 = x := ⟨_, rfl⟩; rw [hq4] at HFL; simp only [hq4] at hR HFL; have HFL := hide HFL; have y4 : w3.cell? ⟨v, 4, none⟩ = some (.pointer (some ⟨j, 0, none⟩)) := H3.out.1.cell 4; clear hq4 he6; go_wp2_with fail
    with_reducible refine HFL.out.mono ?_
    rintro e w4 ⟨rfl, jt4⟩; obtain ⟨p1, p2, p3, p4, p5, p6, p7⟩ := H3.out; obtain ⟨Fj4, Fd4, k1, k2, k3, k4, k5, k6, k7⟩ := jt_parts p1 p2 p3 p4 p5 jt4; have hc4 : Chg (v :: mb :: (Fj ++ Fd)) w w4 := p6.trans k6 (fun z hz => (p7 z hz).imp (fun h => List.mem_cons_of_mem _ (List.mem_cons_of_mem _ h)) (fun h => Nat.le_trans H2.out.2.size h))
    have hF4 : ∀ x ∈ Fj4 ++ Fd4, x ∈ Fj ++ Fd ∨ w.heap.size ≤ x := fun x hx => (k7 x hx).elim (fun h => (p7 x h).imp id (fun h => Nat.le_trans H2.out.2.size h)) (fun h => Or.inr (Nat.le_trans p6.size h))
    have H4 := hd7 k1 k2 k3 k4 k5 hc4 hF4; clear p1 p2 p3 p4 p5 p6 p7 k1 k2 k3 k4 k5 k6 k7 hc4 hF4 jt4 HFL y4
    by_cases he4 : e4 = 0
    ·subst he4
     rw [if_neg (by simp)] at hR; obtain ⟨k1, k2, k3, k4, k5, k6, k7⟩ := H4.out; have q3 := k1.cell 3; have f3 := k1.frozen 3; simp only [List.getElem?_cons_succ, List.getElem?_cons_zero] at q3; have b5 := k1.set 3 (.map (some m)); have c5 : Chg [v] w4 (w4.setCell ⟨v, 3, none⟩ (.map (some m))) := (Chg.refl [v] w4).setCell (p := ⟨v, 3, none⟩) (Or.inl (by simp)) _; have nb := NoB.blk k1 (by decide); have hf : VltM (w4.setCell ⟨v, 3, none⟩ (.map (some m))) v d (v :: m :: (Fj4 ++ Fd4)) { V with J := J4, D := D4, l := l' } := ⟨some ⟨j, 0, none⟩, m, Fj4, Fd4, b5, k3.chgB c5 k1.isB nb, Or.inl ⟨j, rfl, k4.chg c5 (fun x hx hy => k4.ne k1 (by decide) (by decide) (List.mem_singleton.1 hy ▸ hx)) nb⟩, k5.chg c5 (fun x hx hy => k5.ne k1 (by decide) (by decide) (by decide) (List.mem_singleton.1 hy ▸ hx)), rfl⟩; have HF := hide (show VltT w (w4.setCell ⟨v, 3, none⟩ (.map (some m))) v d (v :: mb :: (Fj ++ Fd)) { V with J := J4, D := D4, l := l' } from ⟨_, hf, k6.trans c5 (fun z hz => Or.inl (by rw [List.mem_singleton.1 hz]; simp)), vfresh (w2 := w) (Nat.le_refl _) k7 (Or.inr (Nat.le_of_eq HM.out.1))⟩); have HR := hide hR; clear k1 k2 k3 k4 k5 k6 k7 b5 c5 nb hf hR; go_wp2; go_ret; obtain rfl := HR.out
     exact ⟨rfl, HF.out, HOK.out⟩
    ·rw [if_pos (by simpa using he4)] at hR
     have u1 : ((e4 : Int) != 0) = true := by simp; omega
     have HD := hide (vdone_calls H4.out.1 e4)
     have ub : (V.gone || e4 != 0) = true := by simp [he4]
     rw [ub] at HD; have HR := hide hR; clear he4 ub hR; go_wp2_with fail
     with_reducible refine HD.out.mono ?_
     rintro e w5 ⟨rfl, b5, hc5⟩; have HF := hide (OFF.out w4 w5 J4 D4 Fj4 Fd4 _ H4.out.1 H4.out.2.1 H4.out.2.2.2.1 H4.out.2.2.2.2.1 H4.out.2.2.2.2.2.1 H4.out.2.2.2.2.2.2 hc5 b5); clear b5 hc5 HD; go_wp2; go_ret; obtain rfl := HR.out
     exact ⟨rfl, HF.out, HOK.out⟩
   ·rw [if_pos (by simpa using he0)] at hR
    have u1 : ((e3 : Int) == 0) = false := by simp; omega
    have u2 : ((e3 : Int) == 6) = false := by simp; omega
    have HD := hide (vdone_calls H3.out.1 e3)
    have ub : (V.gone || e3 != 0) = true := by simp [he0]
    rw [ub] at HD; have HR := hide hR; clear he0 he6 ub hR; go_wp2_with fail
    with_reducible refine HD.out.mono ?_
    rintro e w5 ⟨rfl, b5, hc5⟩; have HF := hide (OFF.out w3 w5 J3 D3 Fj3 Fd3 _ H3.out.1 H3.out.2.1 H3.out.2.2.2.1 H3.out.2.2.2.2.1 H3.out.2.2.2.2.2.1 (fun x hx => (H3.out.2.2.2.2.2.2 x hx).imp id (fun h => Nat.le_trans H2.out.2.size h)) hc5 b5); clear b5 hc5 HD; go_wp2; go_ret; obtain rfl := HR.out
    exact ⟨rfl, HF.out, HOK.out⟩

theorem VltM.below {w w' : World} {v d : Nat} {F : List Nat} {V : Vlt} (h : VltM w v d F V) (hb : Below w.heap.size w w') : VltM w' v d F V := by
 obtain ⟨jp, mb, Fj, Fd, h1, h2, h3, h4, rfl⟩ := h.ex
 exact ⟨jp, mb, Fj, Fd, h1.below hb, h2.below hb, h3.chg (G := []) (Chg.of_below hb) (by simp) (fun g hg => by cases hg), h4.below hb, rfl⟩
theorem VltM.stay {w w' : World} {v d : Nat} {F : List Nat} {V : Vlt} (h : VltM w v d F V) (hb : Below w.heap.size w w') : VltT w w' v d F V := ⟨F, h.below hb, Chg.of_below hb, fun x hx => Or.inl hx⟩
theorem vlput_calls {w : World} {v d g : Nat} {F : List Nat} {V : Vlt} (h : VltM w v d F V) (hV : VltOk V g) (hg : g < 2 ^ 60) (k : Int) {A : Option Addr} {c : Nat} {b : List Nat} (hb : Bt w A c b) (hbb : ∀ x ∈ b, x < 256) (hbl : b.length ≤ 100000) :
  Calls Tryz.prog 130 #[.pointer (some ⟨v, 0, none⟩), .int .i64 k, .slice A b.length c] w fun e w' => e = .returned (.int .i64 (V.put k b).1) ∧ VltT w w' v d F (V.put k b).2 ∧ VltOk (V.put k b).2 (g + 1) := by
 obtain ⟨R, hR⟩ : ∃ R, V.put k b = R := ⟨_, rfl⟩; rw [hR]; unfold Vlt.put at hR; have r0 := Below.refl w.heap.size w; have HF := hd2 (h.stay r0) (hV.up (Nat.le_succ _)); have H := hd5 h hV hg hb hbb; clear h hV hg hb hbb
 by_cases h1 : k < 0 ∨ 1099511627776 < k
 ·rw [if_pos h1] at hR
  subst hR
  rcases h1 with h1 | h1
  ·go_enter Tryz.func130, Tryz.ntmps130
   go_wp2; go_ret
   exact ⟨rfl, HF.out⟩
  ·have h2 : ¬ k < 0 := by omega
   go_enter Tryz.func130, Tryz.ntmps130
   go_wp2; go_ret
   exact ⟨rfl, HF.out⟩
 ·rw [if_neg h1] at hR
  have h2 : ¬ k < 0 := by omega
  have h3 : ¬ 1099511627776 < k := by omega
  by_cases h4 : 900 < b.length
  ·rw [if_pos h4] at hR
   subst hR
   have h5 : (900 : Int) < b.length := by omega
   clear h1
   go_enter Tryz.func130, Tryz.ntmps130
   go_wp2; go_ret
   exact ⟨rfl, HF.out⟩
  ·rw [if_neg h4] at hR
   have h5 : ¬ (900 : Int) < b.length := by omega
   obtain ⟨n, rfl⟩ : ∃ n : Nat, k = n := ⟨k.toNat, by omega⟩; rw [Int.toNat_natCast] at hR; obtain ⟨w1, hw1⟩ : ∃ w1, w.alloc (.cells #[.slice none 0 0] 78) = w1 := ⟨_, rfl⟩; obtain ⟨wb, hwb⟩ : ∃ wb, w.heap.size = wb := ⟨_, rfl⟩
   have hwf : Wf w w1 wb [] := by rw [← hw1, ← hwb]; exact Wf.new r0
   have HN1 := hide (hwf.num n (by omega) (by simp)); have HW := hd2 hw1 hwb; have hnl := enc_len9 (n := n) (by omega); have h1l := enc_len9 (n := 1) (by omega); have hll := enc_len9 (n := b.length) (by omega); have HNL := hd3 hnl h1l hll; clear hw1 hwb hwf h1 hnl h1l hll
   go_enter Tryz.func130, Tryz.ntmps130
   go_upto_region 6 with fail
   (try rw [HW.out.1])
   (try rw [HW.out.2])
   go_wp2_with fail
   with_reducible refine HN1.out.mono ?_
   rintro e w2 ⟨rfl, hf2⟩; rw [List.nil_append] at hf2; have hN2 := hf2.num 1 (by omega) (by have := HNL.out; omega); rw [show ((1 : Nat) : Int) = 1 from rfl] at hN2; have HN2 := hide hN2; clear hf2 hN2 HN1; go_wp2_with fail
   with_reducible refine HN2.out.mono ?_
   rintro e w3 ⟨rfl, hf3⟩; have HT := hide (hf3.text H.out.2.2.2.1.rb (by rw [List.length_append]; have := HNL.out; omega) (by omega)); clear hf3 HN2; go_wp2_with fail
   with_reducible refine HT.out.mono ?_
   rintro e w4 ⟨rfl, hf4⟩; obtain ⟨B, hB⟩ : ∃ B, enc n ++ enc 1 ++ encT b = B := ⟨_, rfl⟩; rw [hB] at hf4 hR
   have hBl : B.length ≤ 100000 := by rw [← hB]; unfold encT; simp only [List.length_append]; have := HNL.out; omega
   have hBb : ∀ x ∈ B, x < 256 := by
    rw [← hB]
    intro x hx
    unfold encT at hx; simp only [List.mem_append] at hx
    rcases hx with (hx | hx) | (hx | hx)
    ·exact enc_byte _ x hx
    ·exact enc_byte _ x hx
    ·exact enc_byte _ x hx
    ·exact H.out.2.2.2.2 x hx
   have HBY := hide (hf4.bytes (by omega)); have HBB := hd2 hBl hBb; clear hf4 HT hB hBl hBb; go_wp2_with fail
   with_reducible refine HBY.out.mono ?_
   rintro e w5 ⟨A5, c5, rfl, ho5, hb5⟩; have hKE := vkeep_calls (H.out.1.below hb5) H.out.2.1 H.out.2.2.1 ho5.bt HBB.out.2 HBB.out.1; rw [hR] at hKE; have HKE := hide hKE; have HB5 := hide hb5; clear ho5 hb5 HBY hKE; go_wp2_with fail
   with_reducible refine HKE.out.mono ?_
   rintro e w6 ⟨rfl, hv6, hok6⟩; have H6 := hd2 (VltT.step (Chg.of_below HB5.out) (fun x hx => Or.inl hx) hv6) hok6; clear hv6 hok6 HKE; go_wp2; go_ret
   exact ⟨rfl, H6.out⟩
end Go.Proofs.YtcahcjfgmdpdoaaGreat
