/- One text of: Vly Vop. -/
import Derived.Test.YtcahcjfgmdpdoaaGreatQWB
set_option maxHeartbeats 4000000
set_option maxRecDepth 100000
namespace Go.Proofs.YtcahcjfgmdpdoaaGreat
open Go.RowKit Go.Proofs Go.Maps
set_option linter.unusedVariables false
set_option linter.unusedSimpArgs false

theorem wipeF_waits : ∀ (S : List (List Nat)) (D : Dev) (i : Nat) (any : Bool), (wipeF S D i any).2.2.l.length = D.l.length ∧ (wipeF S D i any).2.2.waits.length ≤ D.waits.length + S.length
 |[], D, i, any => ⟨rfl, Nat.le_refl _⟩
 |s :: t, D, i, any => by
  unfold wipeF; have hw := D.write_len (i : Int) zero64
  split
  ·have := wipeF_waits t D (i + 1) any
   exact ⟨this.1, by rw [List.length_cons]; omega⟩
  ·simp only []
   split
   ·exact ⟨hw.1, by rw [List.length_cons]; show _ ≤ _; simp only []; omega⟩
   ·have := wipeF_waits t (D.write (i : Int) zero64).2 (i + 1) true
    exact ⟨this.1.trans hw.1, by rw [List.length_cons]; omega⟩
theorem jsweep_waits (D : Dev) (fr many : Nat) : (jsweep D fr many).2.l.length = D.l.length ∧ (jsweep D fr many).2.waits.length ≤ D.waits.length + many := by
 unfold jsweep
 split
 ·exact ⟨rfl, Nat.le_add_right _ _⟩
 ·have h := wipeF_waits ((D.l.drop fr).take many) D fr false
  have hl : ((D.l.drop fr).take many).length ≤ many := by rw [List.length_take]; omega
  simp only []
  split
  ·exact ⟨h.1, Nat.le_trans h.2 (Nat.add_le_add_left hl _)⟩
  ·split
   ·have hf := (wipeF ((D.l.drop fr).take many) D fr false).2.2.flush_w
    exact ⟨(congrArg List.length hf.1).trans h.1, Nat.le_trans hf.2 (Nat.le_trans h.2 (Nat.add_le_add_left hl _))⟩
   ·exact ⟨h.1, Nat.le_trans h.2 (Nat.add_le_add_left hl _)⟩
theorem laysF_keep : ∀ (k : Nat) (D : Dev) (i : Nat) (b : List Nat), (laysF k D i b).2.l.length = D.l.length ∧ (laysF k D i b).2.waits.length ≤ D.waits.length + k
 |0, D, i, b => ⟨rfl, Nat.le_refl _⟩
 |k + 1, D, i, b => by
  have hw := D.write_len (i : Int) (b.take 64); unfold laysF; simp only []
  split
  ·exact ⟨hw.1, by show _ ≤ _; simp only []; omega⟩
  ·have := laysF_keep k (D.write (i : Int) (b.take 64)).2 (i + 1) (b.drop 64)
   exact ⟨this.1.trans hw.1, by omega⟩
structure AddK (J J' : Jrn) (D D' : Dev) (k : Nat) : Prop where
 gen : J'.gen = J.gen
 fr : J'.from_ = J.from_
 many : J'.many = J.many
 used : J'.used ≤ J.many
 n : J'.n ≤ J.n + k
 jw : J'.waits.length ≤ J.waits.length + k
 len : D'.l.length = D.l.length
 dw : D'.waits.length ≤ D.waits.length + 16 * k
theorem AddK.refl {J : Jrn} (D : Dev) (hu : J.used ≤ J.many) (k : Nat) : AddK J J D D k := ⟨rfl, rfl, rfl, hu, Nat.le_add_right _ _, Nat.le_add_right _ _, rfl, Nat.le_add_right _ _⟩
theorem AddK.trans {J J1 J2 : Jrn} {D D1 D2 : Dev} {k m : Nat} (h : AddK J J1 D D1 k) (g : AddK J1 J2 D1 D2 m) : AddK J J2 D D2 (k + m) :=
 ⟨g.gen.trans h.gen, g.fr.trans h.fr, g.many.trans h.many, h.many ▸ g.used, by have := g.n; have := h.n; omega, by have := g.jw; have := h.jw; omega, g.len.trans h.len, by have := g.dw; have := h.dw; omega⟩
theorem Jrn.add_keep (J : Jrn) (D : Dev) {b : List Nat} (hb : ∀ x ∈ b, x < 256) (hu : J.used ≤ J.many) : AddK J (J.add D b).2.1 D (J.add D b).2.2 1 := by
 have hl := jform_len (gen := J.gen) (n := J.n) hb; unfold Jrn.add
 split
 ·exact AddK.refl _ hu _
 ·simp only []
  split
  ·exact AddK.refl _ hu _
  ·split
   ·exact AddK.refl _ hu _
   ·rename_i h3
    have hk := laysF_keep ((jform J.gen J.n b).2.length / 64) D (J.from_ + J.used) ((jform J.gen J.n b).2.set 0 0)
    split
    ·exact ⟨rfl, rfl, rfl, hu, Nat.le_add_right _ _, Nat.le_add_right _ _, hk.1, by have := hk.2; simp only []; omega⟩
    ·exact ⟨rfl, rfl, rfl, by simp only []; omega, Nat.le_refl _, by simp, hk.1, by have := hk.2; simp only []; omega⟩
theorem jopen_keep {D : Dev} (hok : DevOk D) (fr many gen : Nat) : (jopen D fr many gen).2.2.2.l.length = D.l.length ∧ (jopen D fr many gen).2.2.2.waits.length ≤ D.waits.length + many ∧
  ((jopen D fr many gen).1 = 0 → (jopen D fr many gen).2.1.from_ = fr ∧ (jopen D fr many gen).2.1.many = many ∧ (jopen D fr many gen).2.1.gen = gen ∧ (jopen D fr many gen).2.1.used ≤ many ∧ (jopen D fr many gen).2.1.n ≤ (jopen D fr many gen).2.1.used ∧ (jopen D fr many gen).2.1.waits = [] ∧ fr + many ≤ D.l.length) := by
 unfold jopen; simp only []
 split
 ·rename_i h1
  exact ⟨rfl, Nat.le_add_right _ _, fun h => absurd h h1⟩
 ·rename_i h1
  have hb := jscan_bound hok (Classical.not_not.1 h1); have hs := jsweep_waits D (fr + (jscan D fr many gen).2.2) (many - (jscan D fr many gen).2.2)
  split
  ·rename_i h2
   exact ⟨hs.1, by have := hs.2; simp only []; omega, fun h => absurd h h2⟩
  ·exact ⟨hs.1, by have := hs.2; simp only []; omega, fun _ => ⟨rfl, rfl, rfl, hb.1, hb.2.2, rfl, hb.2.1⟩⟩
theorem JT.step {w w1 w2 : World} {j d : Nat} {Fj Fd Fj1 Fd1 : List Nat} {J : Jrn} {D : Dev} (hc : Chg (Fj ++ Fd) w w1) (hF : ∀ x ∈ Fj1 ++ Fd1, x ∈ Fj ++ Fd ∨ w.heap.size ≤ x) (h : JT w1 w2 j d Fj1 Fd1 J D) : JT w w2 j d Fj Fd J D := by
 obtain ⟨a, b, h1, h2, h3, h4⟩ := h
 exact ⟨a, b, h1, h2, hc.trans h3 hF, fun x hx => (h4 x hx).elim (hF x) (fun h => Or.inr (Nat.le_trans hc.size h))⟩
theorem JT.devT {w w2 w3 : World} {j d : Nat} {F F2 : List Nat} {J : Jrn} {D : Dev} (hc : Chg F w w2) (hF : ∀ x ∈ F2, x ∈ F ∨ w.heap.size ≤ x) (hj : w.heap.size ≤ j) (h : JT w2 w3 j d [j] F2 J D) : DevT w w3 d F D := by
 obtain ⟨a, b, h1, h2, h3, h4⟩ := h
 have hz : ∀ z ∈ [j] ++ F2, z ∈ F ∨ w.heap.size ≤ z := fun z hz => by
  rcases List.mem_append.1 hz with h | h
  ·rw [List.mem_singleton.1 h]; exact Or.inr hj
  ·exact hF z h
 exact ⟨b, h2, hc.trans h3 hz, fun x hx => (h4 x (List.mem_append_right _ hx)).elim (hz x) (fun h => Or.inr (Nat.le_trans hc.size h))⟩
theorem jopen_gen {D : Dev} {fr many gen : Nat} (h : (jopen D fr many gen).1 = 0) : gen ≤ 1099511627776 := by
 by_cases hg : 1099511627776 < gen
 ·exfalso
  revert h
  unfold jopen jscan; rw [if_pos (Or.inr hg)]
  simp
 ·omega
theorem OwnT.jd {w0 w w' : World} {j d : Nat} {Fj Fd : List Nat} {J : Jrn} {D : Dev} {A : Option Addr} {c : Nat} {L : List (List Nat)} (h : OwnT w0 w A c L) (hj : JrnM w j d Fj J) (hd : DevM w d Fd D) (hc : Chg (Fj ++ Fd) w w') : OwnT w0 w' A c L := by
 obtain ⟨X, h1, h2, h3, h4⟩ := h; obtain ⟨lb, A', c', k1, k2, k3, rfl⟩ := hd.ex; obtain ⟨A2, c2, X2, m1, m2, m3, m4, rfl⟩ := hj.ex
 refine ⟨X, h1, own_chg h2 hc (fun g hg hx => ?_), h3, fun x hx => ⟨own_chg (h4 x hx).1 hc (fun g hg hx => ?_), (h4 x hx).2⟩⟩
 all_goals
  rw [owS] at hg; simp only [List.mem_append, List.mem_cons, Option.mem_toList] at hx
 ·rcases hx with (rfl | hx) | rfl | rfl | hx
  ·exact absurd (own_typed h2 hg m1) (by decide)
  ·exact absurd (own_own h2 m2 hg hx) (by decide)
  ·exact absurd (own_typed h2 hg k1) (by decide)
  ·exact absurd (own_typed h2 hg k2) (by decide)
  ·exact absurd (own_own h2 k3 hg hx) (by decide)
 ·rcases hx with (rfl | hx) | rfl | rfl | hx
  ·exact absurd (own_typed (h4 _ (by assumption)).1 hg m1) (by decide)
  ·exact absurd (own_own (h4 _ (by assumption)).1 m2 hg hx) (by decide)
  ·exact absurd (own_typed (h4 _ (by assumption)).1 hg k1) (by decide)
  ·exact absurd (own_typed (h4 _ (by assumption)).1 hg k2) (by decide)
  ·exact absurd (own_own (h4 _ (by assumption)).1 k3 hg hx) (by decide)
theorem vlay_calls {w0 w : World} {v d : Nat} {F : List Nat} {V : Vlt} {x2 x3 x4 x5 : Value} (hv : Blk w v 95 [.pointer (some ⟨d, 0, none⟩), .int .i64 V.n, x2, x3, x4, x5]) (hvF : v ∉ F) (h : DevM w d F V.D) (at_ gen : Nat) (hr : at_ + V.n ≤ V.D.l.length) (hg : gen < 2 ^ 62) (hw : V.D.waits.length ≤ 20000)
  {A : Option Addr} {c : Nat} {L : List (List Nat)} (hL : OwnT w0 w A c L) (hb : ∀ t ∈ L, t.length ≤ 100000 ∧ ∀ y ∈ t, y < 256) (hl : gen ≤ 1099511627776 → L.length ≤ 1200) :
  Calls Tryz.prog 190 #[.pointer (some ⟨v, 0, none⟩), .int .i64 at_, .int .i64 gen, .slice A L.length c] w fun e w' => e = .returned (.int .i64 (V.lay at_ gen L).1) ∧ DevT w w' d F (V.lay at_ gen L).2 := by
 have HBL := vblank_calls hv hvF h at_ hr (by omega); obtain ⟨R, hR⟩ : ∃ R, V.lay at_ gen L = R := ⟨_, rfl⟩; rw [hR]; unfold Vlt.lay at hR; obtain ⟨⟨e0, D0⟩, hq⟩ : ∃ x, jsweep V.D at_ V.n = x := ⟨_, rfl⟩; rw [hq] at HBL; simp only [hq] at hR; have HBL := hide HBL; have HQ := hide hq; have H := hd8 hv hvF h hL hb hr hg hw; clear hq hv hvF h hL hb hr hg hw
 go_enter Tryz.func190, Tryz.ntmps190
 go_wp2_with fail; refine HBL.out.mono ?_; rintro e w1 ⟨rfl, F1, hdz1, hc1, hF1⟩
 by_cases he : e0 = 0
 ·subst he
  rw [if_neg (by simp)] at hR; have hjw := jsweep_waits V.D at_ V.n; rw [HQ.out] at hjw; simp only [] at hjw hdz1; have hvn := H.out.2.2.1.n; have hbd := H.out.2.2.2.2.2; have HJO := jopen_calls (hdz1.below (Below.refl w1.heap.size w1).drew) at_ V.n gen (by omega) (by omega) (by omega) (by omega); obtain ⟨⟨e1, J1, rc, D1⟩, hq1⟩ : ∃ x, jopen D0 at_ V.n gen = x := ⟨_, rfl⟩; rw [hq1] at HJO hR; simp only [] at HJO hR; have HJO := hide HJO; have bv1 := H.out.1.chg hc1 H.out.2.1; have y0 := bv1.rule 0 _ rfl; have y1 := bv1.rule 1 _ rfl; have r1 := Below.refl w1.heap.size w1; have H1 := hd5 hdz1 hc1 hF1 hq1 hjw; clear hq1 hjw bv1 hdz1 hc1 hF1 hvn hbd HBL
  go_upto_region 4 with fail
  refine region_lx (fun w' => Below w1.heap.size w1 w') [10] [2, 2, 2, 0, 2, 2, 2, 2, 0, 2, 3, 2, 2, 2, 2, 2, 2, 2] (by (exact r1.drew)) (fun hS0 => ?_)
  (iterate 10 (first | refine lxt ?_ | refine lxp ?_))
  (refine lxn ?_; go_simp; ((go_at_call 79; refine HJO.out.mono ?_; rintro e w2 ⟨p2, A2, c2, rfl, ho2, hdt2, hj2⟩)))
  (iterate 7 (refine lxp ?_))
  refine lxN ?_
  have hdz2 := DevT.step ((Chg.refl F1 w1).drew) (fun x hx => Or.inl hx) hdt2; clear hdt2 HJO y0 y1
  by_cases he1 : e1 = 0
  ·subst he1
   rw [if_neg (by simp)] at hR; have hl := hl (jopen_gen (by rw [H1.out.2.2.2.1])); obtain ⟨j, rfl, hjs, hjm⟩ := hj2 rfl; obtain ⟨F2, hdm2, hc2, hF2⟩ := hdz2; have hjk := jopen_keep H1.out.1.ok at_ V.n gen; rw [H1.out.2.2.2.1] at hjk; simp only [forall_const] at hjk; obtain ⟨j1, j2, j3, j4, j5, j6, j7⟩ := hjk.2.2; have hL2 := ((H.out.2.2.2.1.dev H.out.2.2.1 H1.out.2.1).dev H1.out.1 hc2); have h12 : Chg F w w2 := H1.out.2.1.trans hc2 H1.out.2.2.1
   have hF12 : ∀ x ∈ F2, x ∈ F ∨ w.heap.size ≤ x := fun x hx => (hF2 x hx).elim (H1.out.2.2.1 x) (fun h => Or.inr (Nat.le_trans H1.out.2.1.size h))
   have hjw : w.heap.size ≤ j := Nat.le_trans H1.out.2.1.size hjs; have H2 := hd6 hjm hdm2 h12 hF12 hjw hL2
   have hbn : J1.gen = gen ∧ J1.n ≤ 100000 ∧ J1.used ≤ J1.many ∧ J1.from_ + J1.many ≤ D1.l.length ∧ J1.waits.length = 0 ∧ D1.waits.length ≤ 20000 + 2 * V.n ∧ V.n ≤ 4096 := by
    have k1 := H1.out.2.2.2.2; have k2 := H.out.2.2.1.n; have k3 := H.out.2.2.2.2.2; have k4 := hjk.1; have k5 := hjk.2.1
    refine ⟨j3, by omega, by omega, by omega, by rw [j6]; rfl, by omega, by omega⟩
   have HN := hide hbn; have HG := hd3 H.out.2.2.2.2.1 H.out.2.2.2.2.2.2.1 hl
   have hl2 : (L.length : Int) ≤ 1200 := by omega
   obtain ⟨N, hN⟩ : ∃ N, L.length = N := ⟨_, rfl⟩; rw [hN] at hl2; rw [hN]; have HL := hide hN; obtain ⟨T, hT⟩ : ∃ T, addsF L J1 D1 = T := ⟨_, rfl⟩; rw [hT] at hR; have jt0 : JT w2 w2 j d [j] F2 J1 D1 := ⟨[j], F2, hjm, hdm2, Chg.refl _ _, fun x hx => Or.inl hx⟩; have HT := hide hT; have JT0 := hide jt0; have ak0 := hide (AddK.refl (J := J1) D1 HN.out.2.2.1 0); clear hj2 hjk j1 j2 j3 j4 j5 j6 j7 hjs hjm hdm2 hc2 hF2 hL2 h12 hF12 hjw hbn hT hl hN jt0 ho2; go_wp2
   go_loopw [14, 15, 42, 43, 44, 45, 46, 47, 48, 49, 50, 51, 52] (fun _ _ iv _ _ _ _ _ _ _ _ _ _ wr => ∃ (k : Nat) (Jk : Jrn) (Dk : Dev), k ≤ N ∧ iv = .int .i64 k ∧ Hid (T = addsF (L.drop k) Jk Dk) ∧ Hid (JT w2 wr j d [j] F2 Jk Dk) ∧ Hid (AddK J1 Jk D1 Dk k)) (fun _ _ iv _ _ _ _ _ _ _ _ _ _ _ => N - (Go.RowKit.intOf iv).toNat)
   case atStart => exact ⟨0, J1, D1, Nat.zero_le _, rfl, hide HT.out.symm, JT0, ak0⟩
   case round =>
    obtain ⟨k, Jk, Dk, hk, rfl, hs, hjt, hak⟩ := hrel; obtain ⟨Fj, Fd, hjm, hdm, hcw, hFw⟩ := hjt.out; have hLr := H2.out.2.2.2.2.2.jd H2.out.1 H2.out.2.1 hcw; have HW := hd2 hcw hFw
    by_cases hlt : k < N
    ·have i1 : (k : Int) < N := by omega
     obtain ⟨X, x1, x2, x3, x4⟩ := hLr
     have hkL : k < L.length := by rw [HL.out]; exact hlt
     have hkX : k < X.length := by rw [← x1, List.length_map] at hkL; exact hkL
     obtain ⟨A9, c9, e9, hnc, _, _, _, hrd⟩ := own_view x2
     cases e9
     obtain ⟨bA, oA, rfl, hbA, hcA⟩ := (hrd _ (fun g hg => own_lt x2 hg)).at_ (by omega); have hcl := hcA _ _ (txCells_get X k hkX); obtain ⟨x, hx⟩ : ∃ x, X[k] = x := ⟨_, rfl⟩; rw [hx] at hcl
     have hxm : x ∈ X := by rw [← hx]; exact List.getElem_mem _
     have g1 : L[k] = x.b := by
      have h9 : L[k] = (X.map Tx.b)[k]'(by simpa using hkX) := by simp only [x1]
      rw [h9, List.getElem_map, hx]
     have hxb := HG.out.1 x.b (by rw [← g1]; exact List.getElem_mem _); have ha1 := hak.out; have hn1 := HN.out; have HAD := jadd_calls hjm hdm (x4 x hxm).bt hxb.2 hxb.1 ⟨by have := ha1.gen; have := HG.out.2.1; omega, by have := ha1.n; omega⟩ ⟨by have := ha1.used; have := ha1.many; omega, by rw [ha1.fr, ha1.many, ha1.len]; exact hn1.2.2.2.1⟩ (by have := ha1.dw; have := HG.out.2.2; omega) (by have := ha1.jw; omega); have hk1 := ha1.trans (Jk.add_keep Dk hxb.2 (by have := ha1.used; have := ha1.many; omega)); have hs2 := hs.out; rw [List.drop_eq_getElem_cons hkL, g1, addsF] at hs2; obtain ⟨⟨e2, J2, D2⟩, hq⟩ : ∃ y, Jk.add Dk x.b = y := ⟨_, rfl⟩; rw [hq] at HAD hk1; simp only [hq] at hs2 hk1; have HAD := hide HAD; have HS := hd2 hs2 hk1; clear hs2 hk1 hq ha1 hn1 hxb g1 hx hxm hcA hbA hrd hnc hkL hkX x1 x2 x3 x4 hs hjt hak hjm hdm hcw hFw; go_wp2_with fail; refine HAD.out.mono ?_; rintro e w4 ⟨rfl, hjt4⟩; have H4 := hide (JT.step HW.out.1 HW.out.2 hjt4); clear hjt4 HAD hcl
     by_cases he2 : e2 = 0
     ·subst he2
      have HS2 := HS.out.1; rw [if_neg (by simp)] at HS2; have HS3 := hide HS2; have HA3 := hide HS.out.2; clear HS HS2; go_wp2
      go_roundw
      case rel => exact ⟨k + 1, J2, D2, by omega, by go_num, HS3, H4, HA3⟩
      case measure => simp [Go.RowKit.intOf]; omega
     ·have HS2 := HS.out.1
      rw [if_pos (by simpa using he2)] at HS2; subst HS2; rw [if_pos (by simpa using he2)] at hR; subst hR
      have u2 : ((e2 : Int) != 0) = true := by simp; omega
      have H5 := hide (JT.devT H2.out.2.2.1 H2.out.2.2.2.1 H2.out.2.2.2.2.1 H4.out); clear HS he2; go_wp2; go_ret
      exact ⟨rfl, H5.out⟩
    ·have i1 : ¬ (k : Int) < N := by omega
     obtain rfl : k = N := by omega
     have hs2 := hs.out; rw [List.drop_of_length_le (by rw [HL.out]; exact Nat.le_refl _), addsF] at hs2; subst hs2; rw [if_neg (by simp)] at hR; simp only [] at hR; have HFL := hide (jflush_calls hjm hdm (by have := hak.out.jw; have := HN.out; omega) (by have := hak.out.dw; have := HN.out; omega)); clear hs hjt hak hjm hdm hcw hFw hLr; go_wp2_with fail; refine HFL.out.mono ?_; rintro e w4 ⟨rfl, hjt4⟩; have H4 := hide (JT.devT H2.out.2.2.1 H2.out.2.2.2.1 H2.out.2.2.2.2.1 (JT.step HW.out.1 HW.out.2 hjt4)); subst hR; clear hjt4 HFL; go_wp2; go_ret
     exact ⟨rfl, H4.out⟩
  ·rw [if_pos (by simpa using he1)] at hR
   subst hR
   have u1 : ((e1 : Int) != 0) = true := by simp; omega
   have hdf := DevT.step H1.out.2.1 H1.out.2.2.1 hdz2; have H2 := hide hdf; clear he1 hj2 hdz2 hdf; go_wp2; go_ret
   exact ⟨rfl, H2.out⟩
 ·rw [if_pos (by simpa using he)] at hR
  subst hR
  have u1 : ((e0 : Int) != 0) = true := by simp; omega
  have H1 := hd3 hdz1 hc1 hF1; clear he hdz1 hc1 hF1 HBL; go_wp2; go_ret
  exact ⟨rfl, F1, H1.out⟩

def kvBest (x y : Nat × KV) : Nat × KV := if x.1 < y.1 then y else x
theorem kvCheck_zero {D : Dev} {fr n : Nat} (h : (kvCheck D fr n).2.1 = 0) : (kvCheck D fr n).2 = (0, []) := by
 unfold kvCheck at h ⊢; simp only [] at h ⊢
 split
 ·rfl
 ·split
  ·rfl
  ·split
   ·rfl
   ·rename_i h1 h2 h3
    rw [if_neg h1, if_neg h2, if_neg h3] at h
    revert h
    cases kvRead (jscan D fr n (kvGen (D.read fr).2)).2.1 with
    |none => intro _; rfl
    |some l => intro h; simp only [] at h; exact absurd h (by omega)
theorem kvBest_zero (D : Dev) (fr n : Nat) : kvBest (0, []) (kvCheck D fr n).2 = (kvCheck D fr n).2 := by
 unfold kvBest
 split
 ·rfl
 ·rename_i h; exact (kvCheck_zero (by simp only [] at h; omega)).symm
theorem kvCheck_gen (D : Dev) (fr n : Nat) : (kvCheck D fr n).2.1 ≤ 1099511627776 := by
 unfold kvCheck; simp only []
 split
 ·exact Nat.zero_le _
 ·split
  ·exact Nat.zero_le _
  ·split
   ·exact Nat.zero_le _
   ·split
    ·exact Nat.zero_le _
    ·exact Rdr.num_le _
theorem kvOut_len (k : Nat) (l : KV) : (kvOut k l).length ≤ l.length := List.length_filter_le _ _
theorem kvChange_len {l l' : KV} {b : List Nat} (h : kvChange l b = some l') : l'.length ≤ l.length + 1 := by
 unfold kvChange at h; simp only [] at h
 split at h
 ·split at h
  ·cases h
  ·cases h; exact Nat.le_succ_of_le (kvOut_len _ _)
 ·split at h
  ·cases h
  ·cases h; exact kvPut_len _ _
def BestK (D : Dev) (n k : Nat) (x : Nat × KV) : Prop := (k = 0 ∧ x = (0, [])) ∨ (k = 1 ∧ (kvCheck D 0 n).1 = 0 ∧ x = (kvCheck D 0 n).2) ∨ (k = 2 ∧ (kvCheck D 0 n).1 = 0 ∧ (kvCheck D n n).1 = 0 ∧ x = kvBest (kvCheck D 0 n).2 (kvCheck D n n).2)
theorem BestK.step {D : Dev} {n k : Nat} {x : Nat × KV} (h : BestK D n k x) (he : (kvCheck D (k * n) n).1 = 0) (hk : k < 2) : BestK D n (k + 1) (kvBest x (kvCheck D (k * n) n).2) := by
 rcases h with ⟨rfl, rfl⟩ | ⟨rfl, h1, rfl⟩ | ⟨rfl, _⟩
 ·rw [Nat.zero_mul] at he ⊢
  exact Or.inr (Or.inl ⟨rfl, he, kvBest_zero _ _ _⟩)
 ·rw [Nat.one_mul] at he ⊢
  exact Or.inr (Or.inr ⟨rfl, h1, he, rfl⟩)
 ·omega
theorem BestK.bad {D : Dev} {n k e : Nat} {x : Nat × KV} {α : Type} {no : α} {z : Nat × α} (h : BestK D n k x) (he : (kvCheck D (k * n) n).1 = e) (hne : e ≠ 0) (hk : k < 2) :
  (if (kvCheck D 0 n).1 ≠ 0 then ((kvCheck D 0 n).1, no) else if (kvCheck D n n).1 ≠ 0 then ((kvCheck D n n).1, no) else z) = (e, no) := by
 rcases h with ⟨rfl, rfl⟩ | ⟨rfl, h1, rfl⟩ | ⟨rfl, _⟩
 ·rw [Nat.zero_mul] at he
  rw [he, if_pos hne]
 ·rw [Nat.one_mul] at he
  rw [if_neg (by simp [h1]), he, if_pos hne]
 ·omega
theorem NoB.blk {w : World} {v : Nat} {t : TypeId} {cs : List Value} (h : Blk w v t cs) (ht : t ≠ 5) : NoB w [v] := fun g hg => by
 rw [List.mem_singleton.1 hg]
 exact Or.inl fun cs' hb => absurd (hb.one h).2 (fun h => ht h.symm)
theorem OwnT.old {w0 w w' : World} {A : Option Addr} {c : Nat} {L : List (List Nat)} {G : List Nat} (h : OwnT w0 w A c L) (hc : Chg G w w') (hG : ∀ g ∈ G, g < w0.heap.size) : OwnT w0 w' A c L := by
 obtain ⟨X, h1, h2, h3, h4⟩ := h
 refine ⟨X, h1, own_chg h2 hc (fun g hg hx => ?_), h3, fun x hx => ⟨own_chg (h4 x hx).1 hc (fun g hg hx' => ?_), (h4 x hx).2⟩⟩
 ·rw [owS] at hg
  have := h3 g hg; have := hG g hx
  omega
 ·rw [owS] at hg
  have := (h4 x hx).2 g hg; have := hG g hx'
  omega
theorem jopen_text {D : Dev} (hok : DevOk D) (fr many gen : Nat) : (∀ t ∈ (jopen D fr many gen).2.2.1, t.length ≤ 1024 ∧ ∀ c ∈ t, c < 256) ∧ ((jopen D fr many gen).1 = 0 → (jopen D fr many gen).2.1.n = (jopen D fr many gen).2.2.1.length) := by
 have h := jscan_text hok (fr := fr) (many := many) (gen := gen); unfold jopen; simp only []
 split
 ·rename_i h1; exact ⟨by simp, fun h => absurd h h1⟩
 ·split
  ·rename_i h1; exact ⟨by simp, fun h => absurd h h1⟩
  ·exact ⟨h, fun _ => rfl⟩
def VopT (w w' : World) (d : Nat) (F : List Nat) (p : Option Addr) (R : Nat × Vlt) : Prop := (R.1 ≠ 0 → p = none ∧ DevT w w' d F R.2.D) ∧
 (R.1 = 0 → ∃ v F', p = some ⟨v, 0, none⟩ ∧ w.heap.size ≤ v ∧ VltM w' v d F' R.2 ∧ Chg F w w' ∧ ∀ x ∈ F', x ∈ F ∨ w.heap.size ≤ x)
theorem vopen_calls {w : World} {d : Nat} {F : List Nat} {D : Dev} (h : DevM w d F D) (hw : D.waits.length ≤ 20000) :
  Calls Tryz.prog 16 #[.pointer (some ⟨d, 0, none⟩)] w fun e w' => ∃ p, e = .returned (.tuple #[.pointer p, .int .i64 (vopen D).1]) ∧ VopT w w' d F p (vopen D) := by
 have HLN := dlen_calls h; have hn := h.n; obtain ⟨R, hR⟩ : ∃ R, vopen D = R := ⟨_, rfl⟩; rw [hR]; unfold vopen at hR; have r0 := Below.refl w.heap.size w; have HLN := hide HLN; have H := hd3 h hw hn; have HR := hide hR; clear h hw hR
 by_cases hs : D.l.length < 8
 ·have hR := HR.out
  simp only [if_pos hs] at hR; subst hR
  have u1 : (D.l.length : Int) < 8 := by omega
  clear hs HR
  go_enter Tryz.func16, Tryz.ntmps16
  go_wp2_with fail; refine HLN.out.mono ?_; rintro e w1 ⟨rfl, rfl⟩; go_wp2
  go_ret2
  exact ⟨none, rfl, fun _ => ⟨rfl, H.out.1.stay r0⟩, fun h => absurd h (by simp)⟩
 ·have u1 : ¬ (D.l.length : Int) < 8 := by omega
  obtain ⟨n, hnn⟩ : ∃ n, D.l.length / 4 = n := ⟨_, rfl⟩
  have q1 : (D.l.length : Int) / 4 = (n : Int) := by omega
  have q1' : IntKind.i64.wrap (n : Int) = (n : Int) := IntWalk.i64_in _ (by omega); have hR := HR.out; simp only [if_neg hs] at hR; simp only [hnn] at hR; clear HR; have HR := hide hR; have HN := hd2 hnn hs
  have hn4 : n ≤ 1024 := by omega
  have hmm := @run_makeMap Tryz.prog; clear hR hs hn hnn
  go_enter Tryz.func16, Tryz.ntmps16
  go_wp2_with fail; refine HLN.out.mono ?_; rintro e w1 ⟨rfl, rfl⟩; go_wp2_with fail; refine HLN.out.mono ?_; rintro e w1 ⟨rfl, rfl⟩; go_wp2; obtain ⟨wm, hwm⟩ : ∃ wm, w.alloc (.map #[] 0) = wm := ⟨_, rfl⟩; obtain ⟨mb, hmb⟩ : ∃ mb, w.heap.size = mb := ⟨_, rfl⟩
  have hbm : Below w.heap.size w wm := hwm ▸ belowL r0 _
  have hkm : KvM wm mb [] := ⟨[], by rw [← hwm, ← hmb]; exact Tab.made w, rfl, by simp⟩; obtain ⟨w2, hw2⟩ : ∃ w2, wm.alloc (.cells #[.pointer (some ⟨d, 0, none⟩), .int .i64 n, .int .i64 0, .map (some mb), .pointer none, .bool false] 95) = w2 := ⟨_, rfl⟩; obtain ⟨v, hv⟩ : ∃ v, mb + 1 = v := ⟨_, rfl⟩
  have hv' : wm.heap.size = v := by rw [← hwm, ← hv, ← hmb]; simp
  have hb2 : Below wm.heap.size wm w2 := hw2 ▸ belowL (Below.refl _ _) _
  have bv : Blk w2 v 95 [.pointer (some ⟨d, 0, none⟩), .int .i64 n, .int .i64 0, .map (some mb), .pointer none, .bool false] := by rw [← hw2, ← hv']; exact Blk.new rfl
  have hk2 := hkm.below hb2; have hb02 := belowA hb2 hbm
  have hwv : w.heap.size ≤ v := by rw [← hv']; exact hbm.size
  have hmv : mb ≠ v := by have := hkm.lt; omega
  (try rw [hwm])
  (try rw [hmb])
  (try rw [hw2])
  (try rw [hv])
  have H2 := hd4 bv hk2 (show w.heap.size ≤ mb by omega) hb02; have HV := hd2 hwv hn4; have bk0 := hide (show BestK D n 0 (0, []) from Or.inl ⟨rfl, rfl⟩); clear hwm hmb hbm hkm hw2 hv hv' hb2 bv hk2 hb02 hwv hmv hmm q1 q1' hn4
  go_loopw [5, 6, 7, 8, 28, 29, 30, 31, 32, 33, 34, 35, 36, 37, 38, 39, 40, 41, 42, 43, 44, 45, 46, 47, 48, 49, 50, 51, 52, 53, 54, 55, 56, 57, 58, 59, 60, 61, 62, 63, 64] (fun _ _ _ _ iv _ _ _ _ _ _ _ _ _ _ _ _ _ _ _ _ _ _ _ _ _ _ _ _ _ _ _ _ _ _ _ _ _ _ _ _ wr => ∃ (k g m : Nat) (l : KV), k ≤ 2 ∧ iv = .int .i64 k ∧ Hid (Blk wr v 95 [.pointer (some ⟨d, 0, none⟩), .int .i64 n, .int .i64 g, .map (some m), .pointer none, .bool false] ∧ KvM wr m l ∧ w.heap.size ≤ m ∧ Below w.heap.size w wr) ∧ Hid (l.length ≤ n ∧ g ≤ 1099511627776) ∧ Hid (BestK D n k (g, l))) (fun _ _ _ _ iv _ _ _ _ _ _ _ _ _ _ _ _ _ _ _ _ _ _ _ _ _ _ _ _ _ _ _ _ _ _ _ _ _ _ _ _ _ => 2 - (Go.RowKit.intOf iv).toNat)
  case atStart => exact ⟨0, 0, mb, [], Nat.zero_le _, rfl, H2, hide ⟨Nat.zero_le _, Nat.zero_le _⟩, bk0⟩
  case round =>
   obtain ⟨k, g, m, l, hk, rfl, hbm, hlg, hbk⟩ := hrel; obtain ⟨bv, hkv, hmw, hbr⟩ := hbm.out; have hn4 := HV.out.2; have r1 := Below.refl wr.heap.size wr
   by_cases hlt : k < 2
   ·have i1 : (k : Int) < 2 := by omega
    have hkn : k * n ≤ n := Nat.le_trans (Nat.mul_le_mul_right n (show k ≤ 1 by omega)) (by omega); have HC := vcheck_calls (H.out.1.below (belowA r1.drew hbr)) (k * n) n (by omega) (by omega); have hst := hbk.out.step (hk := hlt)
    have hbad := fun (e : Nat) (he : (kvCheck D (k * n) n).1 = e) (hne : e ≠ 0) {z : Nat × Vlt} {no : Vlt} => hbk.out.bad (z := z) (no := no) he hne hlt
    have hcg := kvCheck_gen D (k * n) n; obtain ⟨⟨e3, g3, l3⟩, hq⟩ : ∃ x, kvCheck D (k * n) n = x := ⟨_, rfl⟩; rw [hq] at HC hst hbad hcg; simp only [] at HC hst hbad hcg; obtain ⟨fr, hfr⟩ : ∃ fr, k * n = fr := ⟨_, rfl⟩; rw [hfr] at HC
    have q1 : IntKind.i64.wrap ((k : Int) * n) = (fr : Int) := by rw [IntWalk.i64_in _ (by rw [← Int.natCast_mul]; omega), ← Int.natCast_mul, hfr]
    have HC := hide HC; have HS := hd3 hst @hbad hcg; have y1 := bv.rule 1 _ rfl; have HB := hide bv; clear hst hbad hcg hq hfr hkn bv hkv hmw hbr
    go_upto_region 7 with fail
    refine region_lx (fun w' => Below wr.heap.size wr w') [11] [2, 2, 2, 2, 2, 0, 2, 2, 2, 2, 0, 3, 2, 2, 2, 2, 2, 2, 2] (by (exact r1.drew)) (fun hS0 => ?_)
    (iterate 11 (first | refine lxt ?_ | refine lxp ?_))
    (refine lxn ?_; go_simp; ((go_at_call 38; refine HC.out.mono ?_; rintro e w3 ⟨mv, rfl, hb3, hk3⟩)))
    (iterate 7 (refine lxp ?_))
    refine lxN ?_
    have hb3 := belowA hb3 r1.drew; have H3 := hd4 (HB.out.below hb3) (hbm.out.2.1.below hb3) hbm.out.2.2.1 (belowA hb3 hbm.out.2.2.2); have hw3 := hbm.out.2.2.2.size; clear HC y1 hS0 hb3
    by_cases he : e3 = 0
    ·subst he
     have HST := hide (HS.out.1 rfl)
     by_cases hgt : g < g3
     ·have u2 : (g : Int) < g3 := by omega
      obtain ⟨b, rfl, hbs, hkb, hkl⟩ := hk3 (by omega); have q2 := H3.out.1.cell 2; have q3 := H3.out.1.cell 3; have f2 := H3.out.1.frozen 2; have f3 := H3.out.1.frozen 3; simp only [List.getElem?_cons_succ, List.getElem?_cons_zero] at q2 q3; have b4 := (H3.out.1.set 2 (.int .i64 g3)).set 3 (.map (some b)); have c4 : Chg [v] w3 ((w3.setCell ⟨v, 2, none⟩ (.int .i64 g3)).setCell ⟨v, 3, none⟩ (.map (some b))) := ((Chg.refl [v] w3).setCell (p := ⟨v, 2, none⟩) (Or.inl (by simp)) _).setCell (p := ⟨v, 3, none⟩) (Or.inl (by simp)) _
      have k4 := hkb.chg c4 (fun h => by
       obtain ⟨X, h1, _⟩ := hkb; rw [List.mem_singleton.1 h] at h1
       exact h1.gm.noBlk H3.out.1) (NoB.blk H3.out.1 (by decide))
      have r4 := Chg.onto H3.out.2.2.2 H3.out.2.2.2.size c4 (fun z hz => by rw [List.mem_singleton.1 hz]; exact HV.out.1); have H4 := hd4 b4 k4 (Nat.le_trans hw3 hbs) r4; have HL4 := hd2 hkl HS.out.2.2; have hbest : kvBest (g, l) (g3, l3) = (g3, l3) := if_pos hgt; rw [hbest] at HST; clear hgt b4 c4 k4 r4 hbs hkb hkl hk3 H3 hw3 hbest; go_wp2
      go_roundw
      case rel => exact ⟨k + 1, g3, b, l3, by omega, by go_num, H4, HL4, HST⟩
      case measure => simp [Go.RowKit.intOf]; omega
     ·have u2 : ¬ (g : Int) < g3 := by omega
      have y2 : w3.cell? ⟨v, 2, none⟩ = some (.int .i64 g) := H3.out.1.cell 2; have hbest : kvBest (g, l) (g3, l3) = (g, l) := if_neg hgt; rw [hbest] at HST; clear hgt hk3 hw3 hbest; go_wp2
      go_roundw
      case rel => exact ⟨k + 1, g, m, l, by omega, by go_num, H3, hlg, HST⟩
      case measure => simp [Go.RowKit.intOf]; omega
    ·have hRe := (HS.out.2.1 e3 rfl he).symm.trans HR.out
     subst hRe
     have u2 : ((e3 : Int) != 0) = true := by simp; omega
     have HE := hide he; clear he hk3 hw3 HR; go_wp2
     go_ret2
     exact ⟨none, rfl, fun _ => ⟨rfl, H.out.1.stay H3.out.2.2.2⟩, fun h => absurd h HE.out⟩
   ·obtain rfl : k = 2 := by omega
    have i1 : ¬ ((2 : Nat) : Int) < 2 := by omega
    have hbx : (kvCheck D 0 n).1 = 0 ∧ (kvCheck D n n).1 = 0 ∧ (g, l) = kvBest (kvCheck D 0 n).2 (kvCheck D n n).2 := by
     rcases hbk.out with ⟨h, _⟩ | ⟨h, _⟩ | ⟨_, h⟩
     ·cases h
     ·cases h
     ·exact h
    have hR := HR.out; have hcx : (if (kvCheck D 0 n).2.1 < (kvCheck D n n).2.1 then (kvCheck D n n).2 else (kvCheck D 0 n).2) = (g, l) := hbx.2.2.symm; rw [if_neg (by simp [hbx.1]), if_neg (by simp [hbx.2.1]), hcx] at hR; simp only [] at hR; clear HR hcx hbx hbk; have hdn := H.out.2.2; have hNN := HN.out; have HP := vpart_calls bv (H.out.1.below hbr) (n := n) (gen := g) (by omega) (by have := hlg.out.2; omega) (by have := H.out.2.1; omega); have hpt := jopen_text H.out.1.ok (2 * n) (D.l.length - 2 * n) g; have hpk := (jopen_keep H.out.1.ok (2 * n) (D.l.length - 2 * n) g).2.2; rw [show jopen D (2 * n) (D.l.length - 2 * n) g = Vlt.part D n g from rfl] at hpt hpk; obtain ⟨⟨e4, J4, rc, D4⟩, hq⟩ : ∃ x, Vlt.part D n g = x := ⟨_, rfl⟩; rw [hq] at HP hR hpt hpk; simp only [] at HP hR hpt hpk; have HP := hide HP; have HPT := hd2 hpt hpk; have HDB := hd3 hkv hmw hbr; have HBV := hide bv; clear hq hpt hpk hdn hNN hn4 bv hkv hmw hbr; go_wp2_with fail; refine HP.out.mono ?_; rintro e w3 ⟨p3, A3, c3, rfl, ho3, hdz3, hj3⟩; have HD3 := hide (DevT.step (Chg.of_below (L := F) HDB.out.2.2) (fun x hx => Or.inl hx) hdz3)
    by_cases he : e4 = 0
    ·subst he
     rw [if_neg (by simp)] at hR; obtain ⟨j, rfl, hjs, hjm⟩ := hj3 rfl; obtain ⟨F3, hdm3, hc3, hF3⟩ := hdz3
     have hvF : v ∉ F := fun h => by have := H.out.1.lt v h; have := HV.out.1; omega
     have b3 := HBV.out.chg hc3 hvF; have q4 := b3.cell 4; have f4 := b3.frozen 4; simp only [List.getElem?_cons_succ, List.getElem?_cons_zero] at q4; obtain ⟨w4, hw4⟩ : ∃ w4, w3.setCell ⟨v, 4, none⟩ (.pointer (some ⟨j, 0, none⟩)) = w4 := ⟨_, rfl⟩
     have b4 : Blk w4 v 95 [.pointer (some ⟨d, 0, none⟩), .int .i64 n, .int .i64 g, .map (some m), .pointer (some ⟨j, 0, none⟩), .bool false] := by rw [← hw4]; exact b3.set 4 _
     have c4 : Chg [v] w3 w4 := by rw [← hw4]; exact (Chg.refl [v] w3).setCell (p := ⟨v, 4, none⟩) (Or.inl (by simp)) _
     have nbv := NoB.blk b3 (by decide); have hkw := HDB.out.1.chg hc3 (fun h => HDB.out.1.notB (H.out.1.below HDB.out.2.2).isB m h (by simp)) (H.out.1.below HDB.out.2.2).nob; have hk4 := hkw.chg c4 (fun h => hkw.notB (F := [v]) (fun x hx => by rw [List.mem_singleton.1 hx]; exact ⟨_, _, b3⟩) m h (by simp)) nbv; have hvl : v < wr.heap.size := HBV.out.lt; have hj4 := hjm.chg c4 (fun x hx hv' => by rw [List.mem_singleton.1 hv', ] at hx; have := List.mem_singleton.1 hx; omega) nbv
     have hdz4 := hdm3.chg c4 (fun x hx hv' => by
      rw [List.mem_singleton.1 hv'] at hx
      exact (hF3 v hx).elim hvF (fun h => by omega))
     have ho4 := ho3.old c4 (fun x hx => by rw [List.mem_singleton.1 hx]; exact hvl); have hml := HDB.out.1.lt; have h04 : Chg F w w4 := ((Chg.of_below (L := F) HDB.out.2.2).trans hc3 (fun z hz => Or.inl hz)).trans c4 (fun z hz => by rw [List.mem_singleton.1 hz]; exact Or.inr HV.out.1)
     have hF4 : ∀ x ∈ F3, x ∈ F ∨ w.heap.size ≤ x := fun x hx => (hF3 x hx).imp id (fun h => Nat.le_trans HDB.out.2.2.size h)
     have hjw : w.heap.size ≤ j := Nat.le_trans HDB.out.2.2.size hjs
     have fin : ∀ (w5 : World) (lk : KV), Chg [m] w4 w5 → KvM w5 m lk → VltM w5 v d (v :: m :: ([j] ++ F3)) ⟨D4, n, g, lk, J4, false⟩ ∧ Chg F w w5 ∧ ∀ x ∈ v :: m :: ([j] ++ F3), x ∈ F ∨ w.heap.size ≤ x := fun w5 lk hc hk => by
      refine ⟨⟨some ⟨j, 0, none⟩, m, [j], F3, b4.chg hc (hk4.notB (F := [v]) (fun x hx => by rw [List.mem_singleton.1 hx]; exact ⟨_, _, b4⟩) v (by simp)), hk, Or.inl ⟨j, rfl, hj4.chg hc (hk4.notB hj4.isB) hk4.nob⟩, hdz4.chg hc (hk4.notB hdz4.isB), rfl⟩, h04.trans hc (fun z hz => by rw [List.mem_singleton.1 hz]; exact Or.inr HDB.out.2.1), fun x hx => ?_⟩
      simp only [List.mem_cons, List.mem_append, List.not_mem_nil, or_false] at hx
      rcases hx with rfl | rfl | rfl | hx
      ·exact Or.inr HV.out.1
      ·exact Or.inr HDB.out.2.1
      ·exact Or.inr hjw
      ·exact hF4 x hx
     have FIN := hide fin; have H4 := hd5 b4 hk4 ho4 hml hvl
     have hrl : rc.length ≤ 4096 := by have h1 := HPT.out.1.2 rfl; have h2 := HPT.out.2 rfl; have := H.out.2.2; omega
     obtain ⟨N, hN⟩ : ∃ N, rc.length = N := ⟨_, rfl⟩; rw [hN] at hrl
     have hrl2 : (N : Int) ≤ 4096 := by omega
     have HL := hide hN; have HW4 := hide hw4; clear b3 c4 nbv hkw hk4 hj4 hdz4 ho4 h04 hF4 hjw fin b4 hml hj3 hjs hjm hdm3 hc3 hF3 ho3 hvF hw4 hN hvl; go_wp2; rw [HW4.out, HL.out]; clear q4 f4
     go_loopw [13, 80, 81, 82, 83, 84, 85, 86, 87, 88, 89, 90, 91] (fun _ iv _ _ _ _ _ _ _ _ _ _ _ wr2 => ∃ (k : Nat) (lk : KV), k ≤ N ∧ iv = .int .i64 k ∧ Hid (kvChanges rc l = kvChanges (rc.drop k) lk) ∧ Hid (KvM wr2 m lk ∧ Chg [m] w4 wr2) ∧ Hid (lk.length ≤ n + k)) (fun _ iv _ _ _ _ _ _ _ _ _ _ _ _ => N - (Go.RowKit.intOf iv).toNat)
     case atStart => exact ⟨0, l, Nat.zero_le _, rfl, hide rfl, hide ⟨H4.out.2.1, Chg.refl _ _⟩, hide hlg.out.1⟩
     case round =>
      obtain ⟨k, lk, hk, rfl, hs, hkm, hll⟩ := hrel; have hmv : v ∉ [m] := H4.out.2.1.notB (F := [v]) (fun x hx => by rw [List.mem_singleton.1 hx]; exact ⟨_, _, H4.out.1⟩) v (by simp); have bvr := H4.out.1.chg hkm.out.2 hmv
      by_cases hlt : k < N
      ·have i1 : (k : Int) < N := by omega
       obtain ⟨X, x1, x2, x3, x4⟩ := H4.out.2.2.1.old hkm.out.2 (fun x hx => by rw [List.mem_singleton.1 hx]; exact H4.out.2.2.2.1)
       have hkL : k < rc.length := by rw [HL.out]; exact hlt
       have hkX : k < X.length := by rw [← x1, List.length_map] at hkL; exact hkL
       obtain ⟨A9, c9, e9, hnc, _, _, _, hrd⟩ := own_view x2
       cases e9
       obtain ⟨bA, oA, rfl, hbA, hcA⟩ := (hrd _ (fun g hg => own_lt x2 hg)).at_ (by omega); have hcl := hcA _ _ (txCells_get X k hkX); obtain ⟨x, hx⟩ : ∃ x, X[k] = x := ⟨_, rfl⟩; rw [hx] at hcl
       have hxm : x ∈ X := by rw [← hx]; exact List.getElem_mem _
       have g1 : rc[k] = x.b := by
        have h9 : rc[k] = (X.map Tx.b)[k]'(by simpa using hkX) := by simp only [x1]
        rw [h9, List.getElem_map, hx]
       have hxb := HPT.out.1.1 x.b (by rw [← g1]; exact List.getElem_mem _); have HCH := vchange_calls hkm.out.1 (x4 x hxm).bt hxb.2 (by have := hxb.1; omega) (by have := hll.out; have := HV.out.2; omega); have hs2 := hs.out; rw [List.drop_eq_getElem_cons hkL, g1, kvChanges] at hs2
       have hcl2 := fun l' => kvChange_len (l := lk) (l' := l') (b := x.b)
       obtain ⟨o, ho⟩ : ∃ o, kvChange lk x.b = o := ⟨_, rfl⟩; rw [ho] at HCH; simp only [ho] at hs2 hcl2; have y3 : wr.cell? ⟨v, 3, none⟩ = some (.map (some m)) := bvr.cell 3; have HCH := hide HCH; have HS := hd2 hs2 hcl2; clear hs2 hcl2 ho g1 hx hxm hcA hbA hrd hnc hkL hkX x1 x2 x3 x4 hs hxb bvr
       cases o with
       |none =>
        have HCH := HCH.out; simp only [Option.isSome_none, Option.getD_none] at HCH; have HCH := hide HCH; go_wp2_with fail; refine HCH.out.mono ?_; rintro e w5 ⟨rfl, hk5, hc5⟩; have H5 := hide (FIN.out w5 lk (hkm.out.2.trans hc5 (fun z hz => Or.inl hz)) hk5); have hS := HS.out.1
        (try simp only [] at hS)
        rw [hS] at hR; subst hR; clear hk5 hc5 HCH y3 hcl HS; go_wp2
        go_ret2
        exact ⟨_, rfl, fun h => absurd rfl h, fun _ => ⟨v, _, rfl, HV.out.1, H5.out⟩⟩
       |some lk' =>
        have HCH := HCH.out; simp only [Option.isSome_some, Option.getD_some] at HCH; have HCH := hide HCH; go_wp2_with fail; refine HCH.out.mono ?_; rintro e w5 ⟨rfl, hk5, hc5⟩; have H5 := hd2 hk5 (hkm.out.2.trans hc5 (fun z hz => Or.inl hz)); have hS := HS.out.1
        (try simp only [] at hS)
        have HS2 := hide hS; have HL2 := hide (show lk'.length ≤ n + (k + 1) by have := HS.out.2 lk' rfl; have := hll.out; omega); clear hk5 hc5 HCH y3 hcl HS hS; go_wp2
        go_roundw
        case rel => exact ⟨k + 1, lk', by omega, by go_num, HS2, H5, HL2⟩
        case measure => simp [Go.RowKit.intOf]; omega
      ·have i1 : ¬ (k : Int) < N := by omega
       obtain rfl : k = N := by omega
       have hs2 := hs.out; rw [List.drop_of_length_le (by rw [HL.out]; exact Nat.le_refl _), kvChanges] at hs2; rw [hs2] at hR; subst hR; have H5 := hide (FIN.out wr lk hkm.out.2 hkm.out.1); clear hs hs2 bvr hmv; go_wp2
       go_ret2
       exact ⟨_, rfl, fun h => absurd rfl h, fun _ => ⟨v, _, rfl, HV.out.1, H5.out⟩⟩
    ·rw [if_pos (by simpa using he)] at hR
     subst hR
     have u2 : ((e4 : Int) != 0) = true := by simp; omega
     have HE := hide he; clear he hj3 ho3 hdz3; go_wp2
     go_ret2
     exact ⟨none, rfl, fun _ => ⟨rfl, HD3.out⟩, fun h => absurd h HE.out⟩
end Go.Proofs.YtcahcjfgmdpdoaaGreat
