/- One text of: Jfl Jad. -/
import Derived.Test.YtcahcjfgmdpdoaaGreatQJB
set_option maxHeartbeats 4000000
set_option maxRecDepth 100000
namespace Go.Proofs.YtcahcjfgmdpdoaaGreat
open Go.RowKit Go.Proofs
set_option linter.unusedVariables false
set_option linter.unusedSimpArgs false

theorem bgCells_get : ∀ (X : List Bg) (k : Nat) (hk : k < X.length), (bgCells X)[k * 2]? = some (.int .i64 X[k].i) ∧ (bgCells X)[k * 2 + 1]? = some (.slice X[k].A X[k].b.length X[k].c)
 |x :: t, 0, _ => ⟨rfl, rfl⟩
 |x :: t, k + 1, hk => by
  have := bgCells_get t k (by simpa using hk); simp only [bgCells, List.flatMap_cons, Bg.cells] at this ⊢; rw [show (k + 1) * 2 = k * 2 + 2 by omega]
  exact this
def JT (w w' : World) (j d : Nat) (Fj Fd : List Nat) (J : Jrn) (D : Dev) : Prop :=
 ∃ Fj' Fd', JrnM w' j d Fj' J ∧ DevM w' d Fd' D ∧ Chg (Fj ++ Fd) w w' ∧ ∀ x ∈ Fj' ++ Fd', x ∈ Fj ++ Fd ∨ w.heap.size ≤ x
theorem Dev.flush_w (D : Dev) : D.flush.2.l = D.l ∧ D.flush.2.waits.length ≤ D.waits.length := by
 have h := D.burn_l; unfold Dev.flush; simp only []
 split
 ·rw [h.1, h.2]; exact ⟨rfl, Nat.le_refl _⟩
 ·simp [h.1]
section
variable {w w' : World} {j d : Nat} {Fj Fd G : List Nat} {J : Jrn} {D : Dev}
theorem JT.of (hj : JrnM w' j d Fj J) (hd : DevM w' d G D) (hc : Chg (Fj ++ Fd) w w') (hG : ∀ x ∈ G, x ∈ Fd ∨ w.heap.size ≤ x) : JT w w' j d Fj Fd J D :=
 ⟨Fj, G, hj, hd, hc, fun x hx => (List.mem_append.1 hx).elim (fun h => Or.inl (List.mem_append_left _ h)) (fun h => (hG x h).imp (List.mem_append_right _) id)⟩
theorem JrnM.dev (hj : JrnM w j d Fj J) (hd : DevM w d Fd D) (hc : Chg Fd w w') : JrnM w' j d Fj J := hj.chg hc (hj.apart hd) hd.nob
theorem DevM.jrn (hd : DevM w d Fd D) (hj : JrnM w j d Fj J) (hc : Chg Fj w w') : DevM w' d Fd D := hd.chg hc (fun x hx hy => hj.apart hd x hy hx)
theorem jflush_calls (hj : JrnM w j d Fj J) (hd : DevM w d Fd D) (hn : J.waits.length ≤ 50000) (hw : D.waits.length ≤ 50000) :
  Calls Tryz.prog 177 #[.pointer (some ⟨j, 0, none⟩)] w fun e w' => e = .returned (.int .i64 (J.flush D).1) ∧ JT w w' j d Fj Fd (J.flush D).2.1 (J.flush D).2.2 := by
 obtain ⟨R, hR⟩ : ∃ R, J.flush D = R := ⟨_, rfl⟩; rw [hR]; unfold Jrn.flush at hR; have HFL := dflush_calls hd; obtain ⟨A, c, X, h1, h2, h3, h4, hFj⟩ := hj.ex; have e7 : w.cell? ⟨j, 7, none⟩ = some (.bool J.gone) := h1.cell 7; have e0 : w.cell? ⟨j, 0, none⟩ = some (.pointer (some ⟨d, 0, none⟩)) := h1.cell 0; have H := hd2 hj hd; have HJ := hd5 h1 h2 h3 h4 hFj
 by_cases hg : J.gone = true
 ·rw [if_pos hg] at hR
  subst hR; rw [hg] at e7; clear hg h1 h2 h3 h4 hFj hj hd HFL
  go_enter Tryz.func177, Tryz.ntmps177
  go_wp2; go_ret
  exact ⟨rfl, JT.of H.out.1 H.out.2 (Chg.refl _ _) (fun x hx => Or.inl hx)⟩
 ·have hg' : J.gone = false := by simpa using hg
  rw [if_neg hg] at hR; rw [hg'] at e7; obtain ⟨⟨e1, D1⟩, hq⟩ : ∃ x, D.flush = x := ⟨_, rfl⟩; have hfw := D.flush_w; rw [hq] at HFL hfw; simp only [hq] at hR; have HFW := hide hfw; clear hfw; have HFL := hide HFL
  have hXl : X.length = J.waits.length := by rw [← h3, List.length_map]
  have HXL := hide hXl; clear hg hg' hq h1 h2 h3 h4 hFj hj hd hXl
  go_enter Tryz.func177, Tryz.ntmps177
  go_wp2_with fail; refine HFL.out.mono ?_; rintro e w1 ⟨rfl, F1, hdz1, hc1, hF1⟩; have hj1 := H.out.1.dev H.out.2 hc1; have b1 : Blk w1 j 205 [.pointer (some ⟨d, 0, none⟩), .int .i64 J.from_, .int .i64 J.many, .int .i64 J.gen, .int .i64 J.used, .int .i64 J.n, .slice A J.waits.length c, .bool J.gone] := HJ.out.1.chg hc1 (H.out.1.apart H.out.2 _ H.out.1.here); have e6 : w1.cell? ⟨j, 6, none⟩ = some (.slice A J.waits.length c) := b1.cell 6; have H1 := hd3 hdz1 hc1 hF1; clear e7 e0 hdz1 hc1 hF1 hj1 b1; go_wp2
  go_loopw [3, 5, 20, 21, 22, 23, 24, 25, 26, 27, 28, 29, 30, 31, 32, 33, 34, 35] (fun ev _ iv _ _ _ _ _ _ _ _ _ _ _ _ _ _ _ wr => ∃ (k ek : Nat) (F2 : List Nat) (Dk : Dev), k ≤ J.waits.length ∧ iv = .int .i64 k ∧ ev = .int .i64 ek ∧ Hid (beginsF J.waits D1 e1 = beginsF (J.waits.drop k) Dk ek) ∧ DevM wr d F2 Dk ∧ Chg Fd w wr ∧ (∀ x ∈ F2, x ∈ Fd ∨ w.heap.size ≤ x) ∧ Hid (Dk.l.length = D1.l.length ∧ Dk.waits.length ≤ D1.waits.length + k)) (fun ev _ iv _ _ _ _ _ _ _ _ _ _ _ _ _ _ _ _ => J.waits.length - (Go.RowKit.intOf iv).toNat)
  case atStart => exact ⟨0, e1, F1, D1, Nat.zero_le _, rfl, rfl, hide rfl, H1.out.1, H1.out.2.1, H1.out.2.2, hide ⟨rfl, Nat.le_refl _⟩⟩
  case round =>
   obtain ⟨k, ek, F2, Dk, hk, rfl, rfl, hbg, hdk, hck, hF2, hDk⟩ := hrel; have HK := hd3 hdk hck hF2
   by_cases hlt : k < J.waits.length
   ·have i1 : (k : Int) < J.waits.length := by omega
    have hkX : k < X.length := by rw [HXL.out]; exact hlt
    obtain ⟨x, hx⟩ : ∃ x, X[k] = x := ⟨_, rfl⟩
    have hxw : J.waits.drop k = (x.i, x.b) :: J.waits.drop (k + 1) := by
     rw [List.drop_eq_getElem_cons hlt]
     congr 1
     have h9 : J.waits[k] = (X.map fun x => (x.i, x.b))[k]'(by simpa using hkX) := by simp only [HJ.out.2.2.1]
     rw [h9, List.getElem_map, hx]
    have ho := own_chg HJ.out.2.1 hck (fun g hg => H.out.1.apart H.out.2 g (by rw [HJ.out.2.2.2.2]; rw [owS] at hg; simp [hg])); obtain ⟨A9, c9, e9, _, _, _, _, hrd⟩ := own_view ho
    cases e9
    obtain ⟨b, o, rfl, hbl, hcells⟩ := (hrd _ (fun g hg => own_lt ho hg)).at_ (by omega); have hgc := bgCells_get X k hkX; rw [hx] at hgc; have g0 := hcells _ _ hgc.1; have g1 := hcells _ _ hgc.2
    have g1' : wr.cell? ⟨b, o + k * 2 + 1, none⟩ = some (.slice x.A x.b.length x.c) := by rw [Nat.add_assoc]; exact g1
    have hBt := HJ.out.2.2.2.1 x (by rw [← hx]; exact List.getElem_mem _); have hBr := hBt.1.chg hck H.out.2.nob; have b2 : Blk wr j 205 [.pointer (some ⟨d, 0, none⟩), .int .i64 J.from_, .int .i64 J.many, .int .i64 J.gen, .int .i64 J.used, .int .i64 J.n, .slice (some ⟨b, o, none⟩) J.waits.length c, .bool J.gone] := HJ.out.1.chg hck (H.out.1.apart H.out.2 _ H.out.1.here); obtain ⟨wN, hwN⟩ : ∃ wN, wr.alloc (.cells #[.int .i64 x.i, .slice x.A x.b.length x.c] 262) = wN := ⟨_, rfl⟩; obtain ⟨nb, hnb⟩ : ∃ nb, wr.heap.size = nb := ⟨_, rfl⟩
    have hbN : Below wr.heap.size wr wN := hwN ▸ belowL (Below.refl _ _) _
    have bN : Blk wN nb 262 [.int .i64 x.i, .slice x.A x.b.length x.c] := by rw [← hwN, ← hnb]; exact Blk.new rfl
    have rN := Below.refl wN.heap.size wN; have y0 := bN.rule 0 _ rfl; have y1 := bN.rule 1 _ rfl; have yj := (b2.below hbN).rule 0 _ rfl; have HWN := hd3 hwN hnb hbN; have hdN := hdk.below (hbN.trans (rN.drew.mono hbN.size)); have HWR := dwrite_calls hdN (x.i : Int) ((hBr.below (hbN.trans (rN.drew.mono hbN.size))).rbn hdN.nob) hBt.2.2 (by have h8 := hDk.out; have h9 := HFW.out; (try simp only [] at h9); omega); have hwl := Dk.write_len (x.i : Int) x.b; obtain ⟨⟨e2, D2⟩, hq⟩ : ∃ y, Dk.write (x.i : Int) x.b = y := ⟨_, rfl⟩; rw [hq] at HWR hwl; have hbg2 : beginsF J.waits D1 e1 = if ek = 0 then beginsF (J.waits.drop (k + 1)) D2 e2 else beginsF (J.waits.drop (k + 1)) Dk ek := hbg.out.trans (by rw [hxw, beginsF, hq]); have HBG := hide hbg2; have HWR := hide HWR; have HWL := hide hwl; have HBN := hide hbN; clear hxw ho hrd hcells hgc hBt hBr b2 bN hdN hq hbg2 hwl hdk hck hF2 hbN hbl hx hbg g1
    go_upto_region 7 with fail
    (try rw [HWN.out.1])
    (try rw [HWN.out.2.1])
    by_cases hek : ek = 0
    ·subst hek
     have HB2 := hide (HBG.out.trans (if_pos rfl)); clear HBG g0 g1'
     go_upto_region 8 with fail
     refine region_lx (fun w' => Below wN.heap.size wN w') [8] [2, 2, 2, 0, 2, 0, 2, 0, 3, 2] (by (exact rN.drew)) (fun hS0 => ?_)
     (iterate 8 (first | refine lxt ?_ | refine lxp ?_))
     (refine lxn ?_; go_simp; ((go_at_call 152; refine HWR.out.mono ?_; rintro e w4 ⟨rfl, F4, hdz4, hc4, hF4⟩)))
     refine lxp ?_
     refine lxN ?_
     have hb0 : Below wr.heap.size wr wN.drew := HBN.out.trans (rN.drew.mono HBN.out.size); have hc24 : Chg Fd w w4 := (HK.out.2.1.below hb0).trans hc4 HK.out.2.2
     have hF24 : ∀ z ∈ F4, z ∈ Fd ∨ w.heap.size ≤ z := fun z hz => (hF4 z hz).elim (HK.out.2.2 z) (fun h => Or.inr (Nat.le_trans (Nat.le_trans HK.out.2.1.size hb0.size) h))
     have H4 := hd3 hdz4 hc24 hF24; clear hdz4 hc4 hF4 hc24 hF24 y0 y1 yj hb0; go_wp2
     go_roundw
     case rel => exact ⟨k + 1, e2, F4, D2, by omega, by go_num, rfl, HB2, H4.out.1, H4.out.2.1, H4.out.2.2, hide (by have h1 := hDk.out; have h2 := HWL.out; (try simp only [] at h2); omega)⟩
     case measure => simp [Go.RowKit.intOf]; omega
    ·have u1 : ((ek : Int) == 0) = false := by simp; omega
     have HB2 := hide (HBG.out.trans (if_neg hek)); clear hek HBG y0 y1 yj; go_wp2
     go_roundw
     case rel => exact ⟨k + 1, ek, F2, Dk, by omega, by go_num, rfl, HB2, HK.out.1.below HBN.out, HK.out.2.1.below HBN.out, HK.out.2.2, hide (by have h1 := hDk.out; omega)⟩
     case measure => simp [Go.RowKit.intOf]; omega
   ·have i1 : ¬ (k : Int) < J.waits.length := by omega
    obtain rfl : k = J.waits.length := by omega
    have hbE : beginsF J.waits D1 e1 = (ek, Dk) := hbg.out.trans (by rw [List.drop_of_length_le (Nat.le_refl _)]; rfl); rw [hbE] at hR; simp only [] at hR; have hjr := H.out.1.dev H.out.2 HK.out.2.1; have HFE := hide (dflush_calls HK.out.1); have b2 : Blk wr j 205 [.pointer (some ⟨d, 0, none⟩), .int .i64 J.from_, .int .i64 J.many, .int .i64 J.gen, .int .i64 J.used, .int .i64 J.n, .slice A J.waits.length c, .bool J.gone] := HJ.out.1.chg HK.out.2.1 (H.out.1.apart H.out.2 _ H.out.1.here); have e6r : wr.cell? ⟨j, 6, none⟩ = some (.slice A J.waits.length c) := b2.cell 6; have e0r : wr.cell? ⟨j, 0, none⟩ = some (.pointer (some ⟨d, 0, none⟩)) := b2.cell 0; have HB2 := hide b2; clear hdk hck hF2 hbg hbE e6
    have fin : ∀ (w5 : World) (F5 : List Nat) (ee : Nat) (De : Dev), DevM w5 d F5 De → Chg Fd w w5 → (∀ x ∈ F5, x ∈ Fd ∨ w.heap.size ≤ x) → JT w ((w5.setCell ⟨j, 6, none⟩ (.slice none 0 0)).setCell ⟨j, 7, none⟩ (.bool (ee != 0))) j d Fj Fd { J with waits := [], gone := ee != 0 } De ∧ Blk w5 j 205 [.pointer (some ⟨d, 0, none⟩), .int .i64 J.from_, .int .i64 J.many, .int .i64 J.gen, .int .i64 J.used, .int .i64 J.n, .slice A J.waits.length c, .bool J.gone] := fun w5 F5 ee De k1 k2 k3 => by
     have b5 : Blk w5 j 205 [.pointer (some ⟨d, 0, none⟩), .int .i64 J.from_, .int .i64 J.many, .int .i64 J.gen, .int .i64 J.used, .int .i64 J.n, .slice A J.waits.length c, .bool J.gone] := HJ.out.1.chg k2 (H.out.1.apart H.out.2 _ H.out.1.here); have b6 := (b5.set 6 (.slice none 0 0)).set 7 (.bool (ee != 0)); have cj : Chg [j] w5 ((w5.setCell ⟨j, 6, none⟩ (.slice none 0 0)).setCell ⟨j, 7, none⟩ (.bool (ee != 0))) := ((Chg.refl [j] w5).setCell (p := ⟨j, 6, none⟩) (Or.inl (by simp)) _).setCell (p := ⟨j, 7, none⟩) (Or.inl (by simp)) _; have hj5 := H.out.1.dev H.out.2 k2
     have hdz6 : DevM ((w5.setCell ⟨j, 6, none⟩ (.slice none 0 0)).setCell ⟨j, 7, none⟩ (.bool (ee != 0))) d F5 De := k1.chg cj (fun x hx hy => by
      rw [List.mem_singleton.1 hy] at hx
      exact hj5.apart k1 j hj5.here hx)
     refine ⟨⟨[j], F5, ⟨none, 0, [], b6, ownsRow_nil _ _ _, rfl, by simp, rfl⟩, hdz6, ?_, fun x hx => ?_⟩, b5⟩
     ·exact (k2.mono (fun z hz => Or.inl (List.mem_append_right _ hz))).trans cj (fun z hz => Or.inl (by rw [List.mem_singleton.1 hz]; exact List.mem_append_left _ H.out.1.here))
     ·rcases List.mem_append.1 hx with hx | hx
      ·rw [List.mem_singleton.1 hx]; exact Or.inl (List.mem_append_left _ H.out.1.here)
      ·exact (k3 x hx).imp (List.mem_append_right _) id
    have HFIN := hide fin; clear fin b2 hjr
    by_cases hek : ek = 0
    ·subst hek
     by_cases hnz : 0 < J.waits.length
     ·have u2 : (0 : Int) < J.waits.length := by omega
      rw [if_pos ⟨rfl, hnz⟩] at hR; obtain ⟨⟨e5, D5⟩, hq5⟩ : ∃ y, Dk.flush = y := ⟨_, rfl⟩; have HFE2 := HFE.out; rw [hq5] at HFE2; rw [hq5] at hR; have HFE2 := hide HFE2; subst hR; clear hq5 hnz; go_wp2_with fail; refine HFE2.out.mono ?_; rintro e w5 ⟨rfl, F5, hdz5, hc5, hF5⟩; have k2 := HK.out.2.1.trans hc5 HK.out.2.2
      have k3 : ∀ x ∈ F5, x ∈ Fd ∨ w.heap.size ≤ x := fun x hx => (hF5 x hx).elim (HK.out.2.2 x) (fun h => Or.inr (Nat.le_trans HK.out.2.1.size h))
      have h6 := HFIN.out w5 F5 e5 D5 hdz5 k2 k3; clear hdz5 hc5 hF5 k2 k3 HFE2 e6r e0r; have q6 := h6.2.cell 6; have q7 := h6.2.cell 7; have f6 := h6.2.frozen 6; have f7 := h6.2.frozen 7; simp only [List.getElem?_cons_succ, List.getElem?_cons_zero] at q6 q7
      by_cases hee : e5 = 0
      ·subst hee
       have H6 := hide h6.1; clear h6; go_wp2; go_ret
       exact ⟨rfl, H6.out⟩
      ·have u3 : ((e5 : Int) != 0) = true := by simp; omega
       have u4 : (e5 != 0) = true := by simpa using hee
       rw [u4] at h6; have H6 := hide h6.1; have HU4 := hide u4; clear h6 hee u4; go_wp2; go_ret
       first
       |exact ⟨rfl, H6.out⟩
       |(rw [HU4.out]; exact ⟨rfl, H6.out⟩)
     ·have u2 : ¬ (0 : Int) < J.waits.length := by omega
      rw [if_neg (fun h => hnz h.2)] at hR; subst hR; have h6 := HFIN.out wr F2 0 Dk HK.out.1 HK.out.2.1 HK.out.2.2; have q6 := h6.2.cell 6; have q7 := h6.2.cell 7; have f6 := h6.2.frozen 6; have f7 := h6.2.frozen 7; simp only [List.getElem?_cons_succ, List.getElem?_cons_zero] at q6 q7; have H6 := hide h6.1; clear h6 hnz e6r e0r; go_wp2; go_ret
      exact ⟨rfl, H6.out⟩
    ·have u1 : ((ek : Int) == 0) = false := by simp; omega
     rw [if_neg (fun h => hek h.1)] at hR; subst hR; have h6 := HFIN.out wr F2 ek Dk HK.out.1 HK.out.2.1 HK.out.2.2; have q6 := h6.2.cell 6; have q7 := h6.2.cell 7; have f6 := h6.2.frozen 6; have f7 := h6.2.frozen 7; simp only [List.getElem?_cons_succ, List.getElem?_cons_zero] at q6 q7
     have u3 : ((ek : Int) != 0) = true := by simp; omega
     have u4 : (ek != 0) = true := by simpa using hek
     rw [u4] at h6; have H6 := hide h6.1; have HU4 := hide u4; clear h6 hek e6r e0r u4; go_wp2; go_ret
     first
     |exact ⟨rfl, H6.out⟩
     |(rw [HU4.out]; exact ⟨rfl, H6.out⟩)
end

theorem jform_ok {gen n : Nat} {b : List Nat} (h : (jform gen n b).1 = 0) (hb : ∀ x ∈ b, x < 256) : ∃ sz, 1 ≤ sz ∧ sz ≤ 16 ∧ (jform gen n b).2.length = sz * 64 ∧ ∀ x ∈ (jform gen n b).2, x < 256 := by
 unfold jform at h ⊢
 split at h
 ·cases h
 ·rename_i h1
  rw [if_neg h1]; simp only [] at h ⊢
  split at h
  ·cases h
  ·rename_i h2
   rw [if_neg h2]
   refine ⟨jsize (jbody gen n b).length, by unfold jsize; omega, by omega, ?_, ?_⟩
   ·simp only [List.length_cons, List.length_append, List.length_replicate]
    unfold jsize at *
    omega
   ·intro x hx
    simp only [List.mem_cons, List.mem_append] at hx
    rcases hx with rfl | rfl | rfl | hx | hx
    ·omega
    ·omega
    ·omega
    ·unfold jbody at hx
     refine seal_lt (fun c hc => ?_) x hx
     unfold encT at hc; simp only [List.mem_append] at hc
     rcases hc with (hc | hc) | (hc | hc)
     ·exact enc_byte _ c hc
     ·exact enc_byte _ c hc
     ·exact enc_byte _ c hc
     ·exact hb c hc
    ·rw [(List.mem_replicate.1 hx).2]; omega
theorem jform_no {gen n : Nat} {b : List Nat} (h : (jform gen n b).1 ≠ 0) : (jform gen n b).2 = [] := by
 unfold jform at h ⊢
 split at h
 ·rename_i h1; rw [if_pos h1]
 ·rename_i h1
  rw [if_neg h1]; simp only [] at h ⊢
  split at h
  ·rename_i h2; rw [if_pos h2]
  ·exact absurd rfl h
theorem World.alloc_size_lt (w : World) (o : Obj) : w.heap.size < (w.alloc o).heap.size := by simp
theorem JrnM.gone_ {w : World} {j d : Nat} {F : List Nat} {J : Jrn} (h : JrnM w j d F J) (g : Bool) : JrnM (w.setCell ⟨j, 7, none⟩ (.bool g)) j d F { J with gone := g } := by
 obtain ⟨A, c, X, h1, h2, h3, h4, rfl⟩ := h.ex; have cj : Chg [j] w (w.setCell ⟨j, 7, none⟩ (.bool g)) := (Chg.refl [j] w).setCell (p := ⟨j, 7, none⟩) (Or.inl (by simp)) _
 have hn : NoB w [j] := fun z hz => Or.inl fun cs hb => by
  rw [List.mem_singleton.1 hz] at hb
  exact absurd (hb.one h1).2 (by decide)
 exact ⟨A, c, X, h1.set 7 _, own_chg h2 cj (fun z hz hy => by
  rw [owS] at hz; rw [List.mem_singleton.1 hy] at hz
  exact absurd (own_typed h2 hz h1) (by decide)), h3, fun x hx => ⟨(h4 x hx).1.chg cj hn, (h4 x hx).2⟩, rfl⟩
theorem Tryz.infoBg : (Tryz.prog.info? 262).map (fun i => (i.zero, i.size, i.bytes)) = some (some (.agg #[.int .i64 0, .slice none 0 0]), 2, 32) := by kernel_rfl
theorem JrnM.push {w6 : World} {j d g cap cw c2 : Nat} {J : Jrn} {Aw A2 : Option Addr} {X : List Bg} {b : List Nat}
  (h1 : Blk w6 j 205 [.pointer (some ⟨d, 0, none⟩), .int .i64 J.from_, .int .i64 J.many, .int .i64 J.gen, .int .i64 J.used, .int .i64 J.n, .slice Aw J.waits.length cw, .bool J.gone])
  (h2 : w6.ownsRow 0 262 2 (.slice (some ⟨g, 0, none⟩) (J.waits.length + 1) cap) (J.waits.length + 1) (bgCells X ++ [.int .i64 ((J.from_ : Int) + J.used), .slice A2 64 c2]))
  (h3 : X.map (fun x => (x.i, x.b)) = J.waits) (h4 : ∀ x ∈ X, Bt w6 x.A x.c x.b ∧ x.b.length = 64 ∧ ∀ y ∈ x.b, y < 256) (h5 : Bt w6 A2 c2 b) (hb : b.length = 64) (hbb : ∀ y ∈ b, y < 256) (us n1 : Nat) :
  JrnM (((w6.setCell ⟨j, 6, none⟩ (.slice (some ⟨g, 0, none⟩) (J.waits.length + 1) cap)).setCell ⟨j, 4, none⟩ (.int .i64 us)).setCell ⟨j, 5, none⟩ (.int .i64 n1)) j d [j, g] { J with waits := J.waits ++ [(J.from_ + J.used, b)], used := us, n := n1 } ∧
  Chg [j] w6 (((w6.setCell ⟨j, 6, none⟩ (.slice (some ⟨g, 0, none⟩) (J.waits.length + 1) cap)).setCell ⟨j, 4, none⟩ (.int .i64 us)).setCell ⟨j, 5, none⟩ (.int .i64 n1)) := by
 have cj : Chg [j] w6 (((w6.setCell ⟨j, 6, none⟩ (.slice (some ⟨g, 0, none⟩) (J.waits.length + 1) cap)).setCell ⟨j, 4, none⟩ (.int .i64 us)).setCell ⟨j, 5, none⟩ (.int .i64 n1)) :=
  (((Chg.refl [j] w6).setCell (p := ⟨j, 6, none⟩) (Or.inl (by simp)) _).setCell (p := ⟨j, 4, none⟩) (Or.inl (by simp)) _).setCell (p := ⟨j, 5, none⟩) (Or.inl (by simp)) _
 have hn : NoB w6 [j] := fun z hz => Or.inl fun cs hb => by
  rw [List.mem_singleton.1 hz] at hb
  exact absurd (hb.one h1).2 (by decide)
 refine ⟨⟨some ⟨g, 0, none⟩, cap, X ++ [⟨J.from_ + J.used, A2, c2, b⟩], ?_, ?_, ?_, ?_, rfl⟩, cj⟩
 ·have h := ((h1.set 6 (.slice (some ⟨g, 0, none⟩) (J.waits.length + 1) cap)).set 4 (.int .i64 us)).set 5 (.int .i64 n1)
  simp only [List.length_append, List.length_singleton]
  exact h
 ·have h := own_chg h2 cj (fun z hz hy => by
   rw [owS] at hz; rw [List.mem_singleton.1 hy] at hz
   exact absurd (own_typed h2 hz h1) (by decide))
  simp only [List.length_append, List.length_singleton]
  have he : bgCells (X ++ [⟨J.from_ + J.used, A2, c2, b⟩]) = bgCells X ++ [.int .i64 ((J.from_ : Int) + J.used), .slice A2 64 c2] := by
   simp [bgCells, Bg.cells, hb]
  rw [he]
  exact h
 ·rw [List.map_append, h3]; rfl
 ·intro x hx
  rcases List.mem_append.1 hx with hx | hx
  ·exact ⟨(h4 x hx).1.chg cj hn, (h4 x hx).2⟩
  ·rw [List.mem_singleton.1 hx]
   exact ⟨h5.chg cj hn, hb, hbb⟩
theorem bg_one (i : Int) (A : Option Addr) (n c : Nat) : (#[Value.int .i64 i, .slice A n c] : Array Value).all (·.oneCell') = true := all_oneCell_toArray (cs := [Value.int .i64 i, .slice A n c]) (by
 intro v hv
 simp only [List.mem_cons, List.not_mem_nil, or_false] at hv
 rcases hv with rfl | rfl <;> rfl)
section
variable {w w' : World} {j d : Nat} {Fj Fd G : List Nat} {J : Jrn} {D : Dev}
theorem jadd_calls (hj : JrnM w j d Fj J) (hd : DevM w d Fd D) {A : Option Addr} {c : Nat} {b : List Nat} (hb : Bt w A c b) (hbb : ∀ x ∈ b, x < 256) (hl : b.length ≤ 100000) (hgn : J.gen < 2 ^ 63 ∧ J.n < 2 ^ 62) (hu : J.used ≤ J.many ∧ J.from_ + J.many ≤ D.l.length) (hw : D.waits.length ≤ 50000) (hn : J.waits.length ≤ 50000) :
  Calls Tryz.prog 174 #[.pointer (some ⟨j, 0, none⟩), .slice A b.length c] w fun e w' => e = .returned (.int .i64 (J.add D b).1) ∧ JT w w' j d Fj Fd (J.add D b).2.1 (J.add D b).2.2 := by
 obtain ⟨R, hR⟩ : ∃ R, J.add D b = R := ⟨_, rfl⟩; rw [hR]; unfold Jrn.add at hR; obtain ⟨Aw, cw, X, h1, h2, h3, h4, hFj⟩ := hj.ex; have r0 := Below.refl w.heap.size w; have e7 : w.cell? ⟨j, 7, none⟩ = some (.bool J.gone) := h1.cell 7; have e3 := h1.rule 3 _ rfl; have e5 := h1.rule 5 _ rfl; have H := hd2 hj hd; have HJ := hd5 h1 h2 h3 h4 hFj; have HN := hd5 hgn hu hw hn H.out.2.n
 by_cases hg : J.gone = true
 ·rw [if_pos hg] at hR
  subst hR; rw [hg] at e7; clear hg h1 h2 h3 h4 hFj hj hd e3 e5
  go_enter Tryz.func174, Tryz.ntmps174
  go_wp2; go_ret
  exact ⟨rfl, JT.of H.out.1 H.out.2 (Chg.refl _ _) (fun x hx => Or.inl hx)⟩
 ·have hg' : J.gone = false := by simpa using hg
  rw [if_neg hg] at hR; rw [hg'] at e7; have HFO := jform_calls w.drew J.gen J.n (hb.rb.below r0.drew) hbb hl hgn.1 (by have := hgn.2; omega); obtain ⟨⟨e1, FB⟩, hq⟩ : ∃ x, jform J.gen J.n b = x := ⟨_, rfl⟩
  have hok : e1 = 0 → ∃ sz, 1 ≤ sz ∧ sz ≤ 16 ∧ FB.length = sz * 64 ∧ ∀ x ∈ FB, x < 256 := fun e => by
   have h9 := jform_ok (gen := J.gen) (n := J.n) (b := b) (by rw [hq]; exact e) hbb; rw [hq] at h9
   exact h9
  have hno : e1 ≠ 0 → FB = [] := fun e => by
   have h9 := jform_no (gen := J.gen) (n := J.n) (b := b) (by rw [hq]; exact e); rw [hq] at h9
   exact h9
  rw [hq] at HFO; simp only [hq] at hR; have HFO := hide HFO; clear hg hg' hq h1 h2 h3 h4 hFj hj hd hb hbb hl hgn hu hw hn
  go_enter Tryz.func174, Tryz.ntmps174
  go_upto_region 3 with fail
  refine region_lx (fun w' => Below w.heap.size w w') [] [2, 2, 2, 0, 2, 2, 2, 0, 2, 1, 2, 2, 2, 2, 2] (by (first | exact r0.drew | exact hb1)) (fun hS0 => ?_)
  (iterate 9 (first | refine lxt ?_ | refine lxp ?_))
  (refine lxe ?_; go_simp; ((go_at_call 186; refine HFO.out.mono ?_; rintro e w1 ⟨A1, c1, rfl, ho1, hb1', hbl1⟩; have hb1 : Below w.heap.size w w1 := r0.drew.trans hb1')); refine lxB (by (first | exact r0.drew | exact hb1)) (fun hS1 => ?_))
  (iterate 5 (refine lxp ?_))
  refine lxN ?_
  have HB1 := hd2 hb1 hbl1; clear ho1 hb1' hbl1 hb1 hS1 hS0 e3 e5 e7
  by_cases he : e1 = 0
  ·subst he
   rw [if_neg (by simp)] at hR; obtain ⟨sz, hs1, hs2, hFl, hFb⟩ := hok rfl; obtain ⟨fb, rfl, hcf, hfb, hF1⟩ := HB1.out.2 rfl; simp only [] at hcf hF1; obtain ⟨m, hm⟩ : ∃ m, sz * 64 = m := ⟨_, rfl⟩; rw [hm] at hFl
   have hdv : FB.length / 64 = sz := by omega
   rw [hdv] at hR; rw [hFl] at hcf; subst hcf
   have q1 : (FB.length : Int) / 64 = (sz : Int) := by omega
   have hFle : FB.length ≤ 1024 := by omega
   have hj1 := H.out.1.below HB1.out.1; have hdz1 := H.out.2.below HB1.out.1; have HRO := hide (jroom_calls hj1 (by have := HN.out; omega)); have HF := hd7 hF1 hfb hFl hFb hm hs1 hs2; have H1 := hd2 hj1 hdz1; clear hok hno hFl hFb hdv hF1 hfb hj1 hdz1; go_wp2_with fail; refine HRO.out.mono ?_; rintro e w2 ⟨rfl, q, rfl⟩
   by_cases hrm : J.many < J.used + sz
   ·rw [if_pos hrm] at hR
    subst hR
    have u1 : ((J.many : Int) - J.used) < sz := by omega
    have hb2 := below_drewN HB1.out.1 q; have HB2 := hide hb2; clear hb2 hrm; go_wp2; go_ret
    exact ⟨rfl, JT.of (H.out.1.below HB2.out) (H.out.2.below HB2.out) (Chg.of_below HB2.out) (fun x hx => Or.inl hx)⟩
   ·rw [if_neg hrm] at hR
    have u1 : ¬ ((J.many : Int) - J.used) < sz := by omega
    have HRM := hide hrm; obtain ⟨w2, hw2⟩ : ∃ w2, w1.drewN q = w2 := ⟨_, rfl⟩
    have hb12 : Below w1.heap.size w1 w2 := hw2 ▸ below_drewN (Below.refl _ _) q
    rw [hw2]; have HB2 := hd2 hb12 (belowA hb12 HB1.out.1); clear hw2 hb12 hrm
    go_upto_region 9 with fail
    have bj2 : Blk w2 j 205 [.pointer (some ⟨d, 0, none⟩), .int .i64 J.from_, .int .i64 J.many, .int .i64 J.gen, .int .i64 J.used, .int .i64 J.n, .slice Aw J.waits.length cw, .bool J.gone] := HJ.out.1.below HB2.out.2; have e1 := bj2.rule 1 _ rfl; have e4 := bj2.rule 4 _ rfl; have r2 := Below.refl w2.heap.size w2; have bf2 := HF.out.1.below HB2.out.1
    have h64 : (FB.take 64).length = 64 := by rw [List.length_take]; omega
    have HCL : Hid (∀ w', Below w2.heap.size w2 w' → Calls Tryz.prog 48 #[.slice (some ⟨fb, 0, none⟩) 64 c1] w' fun e w'' => ∃ A' c', e = .returned (.slice A' 64 c') ∧ OwnB w' w'' A' c' (FB.take 64) ∧ Below w'.heap.size w' w'') := hide (fun w' hb' => by
     have hr := ((bf2.below hb').rb (c := FB.length) (Nat.le_refl _) (no := []) (by simp)).rd.take (k := 64) (by omega); rw [bys_take] at hr; have h := cloneB_calls (some ⟨fb, 0, none⟩) c1 (FB.take 64) w' (by omega) (by rw [h64]; exact hr); rw [h64] at h
     exact h)
    have p1 : IntKind.i64.wrap ((J.from_ : Int) + J.used) = (J.from_ : Int) + J.used := IntWalk.i64_in _ (by have := HN.out; omega)
    have hc64 : (64 : Int) ≤ c1 := by have := HF.out.2.2.1; omega
    have hf64 : 64 ≤ FB.length := by omega
    clear h64 bf2 u1
    go_cut [8] from 8 to 52 (fun bv wx => ∃ bb A2 c2, bv = .pointer (some ⟨bb, 0, none⟩) ∧ Blk wx bb 262 [.int .i64 ((J.from_ : Int) + J.used), .slice A2 64 c2] ∧ OwnB w2 wx A2 c2 (FB.take 64) ∧ Below w2.heap.size w2 wx ∧ w2.heap.size ≤ bb)
    case first =>
     refine region_lxf (fun w' => Below w2.heap.size w2 w') [14] 4 [(2,0),(2,1),(2,2),(0,3),(2,4),(2,5),(2,6),(0,7),(2,8),(2,9),(2,10)] (bzA 15 2047) (by (first | exact r2.drew | exact belowL r2 _ | exact belowL r2.drew _ | exact hb1 | exact belowL hb1 _)) (fun hS0 => ?_)
     (iterate 11 (first | refine lxt ?_ | refine lxp ?_))
     refine lxN (lxf2 11 13 (bzA 15 4095) (bzA 15 10239) ?_ ?_)
     focus
      refine lxa ?_
      go_simp
      ((go_at_call 48; refine (HCL.out _ (by first | exact r2.drew | exact belowL r2.drew _ | exact belowL r2 _)).mono ?_; rintro e w3 ⟨A2, c2, rfl, ho2, hb3⟩; have hb1 : Below w2.heap.size w2 w3 := belowA hb3 (by first | exact r2.drew | exact belowL r2.drew _ | exact belowL r2 _)))
      refine lxB (by (first | exact r2.drew | exact belowL r2 _ | exact belowL r2.drew _ | exact hb1 | exact belowL hb1 _)) (fun hS1 => ?_)
      refine lxm 0 [(2,12),(1,13),(3,14)] (bzA 15 32767) ?_
      refine lxp ?_
      (refine lxe ?_; go_simp; refine lxB (by (first | exact r2.drew | exact belowL r2 _ | exact belowL r2.drew _ | exact hb1 | exact belowL hb1 _)) (fun hS1 => ?_))
      (refine lxn ?_; (first | (refine wp_store_mid 262 _ _ rfl w3.heap.size 0 #[.int .i64 ((J.from_ : Int) + J.used), .slice A2 64 c2] rfl rfl (by exact (Blk.new (w := w3) (b := w3.heap.size) (cs := [.int .i64 0, .slice none 0 0]) (t := 262) rfl).there (n := 2) (by decide)) (by kernel_rfl) (bg_one _ _ _ _) ?_) | (refine wp_store_mid 262 _ _ rfl w2.heap.size 0 #[.int .i64 ((J.from_ : Int) + J.used), .slice A2 64 c2] rfl rfl (by exact ((Blk.new (w := w2.drew) (b := w2.heap.size) (cs := [.int .i64 0, .slice none 0 0]) (t := 262) rfl).below hb3).there (n := 2) (by decide)) (by kernel_rfl) (bg_one _ _ _ _) ?_)); (try simp only [Act.put]))
      refine lxN (lxd ?_)
     rotate_left
     focus
      refine lxa ?_
      go_simp
      refine lxB (by (first | exact r2.drew | exact belowL r2 _ | exact belowL r2.drew _ | exact hb1 | exact belowL hb1 _)) (fun hS1 => ?_)
      refine lxm 0 [(1,11),(2,12),(3,14)] (bzA 15 32767) ?_
      (refine lxe ?_; go_simp; ((go_at_call 48; refine (HCL.out _ (by first | exact r2.drew | exact belowL r2.drew _ | exact belowL r2 _)).mono ?_; rintro e w3 ⟨A2, c2, rfl, ho2, hb3⟩; have hb1 : Below w2.heap.size w2 w3 := belowA hb3 (by first | exact r2.drew | exact belowL r2.drew _ | exact belowL r2 _))); refine lxB (by (first | exact r2.drew | exact belowL r2 _ | exact belowL r2.drew _ | exact hb1 | exact belowL hb1 _)) (fun hS1 => ?_))
      refine lxp ?_
      (refine lxn ?_; (first | (refine wp_store_mid 262 _ _ rfl w3.heap.size 0 #[.int .i64 ((J.from_ : Int) + J.used), .slice A2 64 c2] rfl rfl (by exact (Blk.new (w := w3) (b := w3.heap.size) (cs := [.int .i64 0, .slice none 0 0]) (t := 262) rfl).there (n := 2) (by decide)) (by kernel_rfl) (bg_one _ _ _ _) ?_) | (refine wp_store_mid 262 _ _ rfl w2.heap.size 0 #[.int .i64 ((J.from_ : Int) + J.used), .slice A2 64 c2] rfl rfl (by exact ((Blk.new (w := w2.drew) (b := w2.heap.size) (cs := [.int .i64 0, .slice none 0 0]) (t := 262) rfl).below hb3).there (n := 2) (by decide)) (by kernel_rfl) (bg_one _ _ _ _) ?_)); (try simp only [Act.put]))
      refine lxN (lxd ?_)
     rotate_left
     ·have bz := Blk.setCells [.int .i64 ((J.from_ : Int) + J.used), .slice A2 64 c2] 0 (Blk.new (w := w3) (b := w3.heap.size) (cs := [.int .i64 0, .slice none 0 0]) (t := 262) rfl)
      have bx := (Chg.setCells (L := []) (b := w3.heap.size) [.int .i64 ((J.from_ : Int) + J.used), .slice A2 64 c2] 0 ((Chg.refl [] w3).alloc (.cells #[.int .i64 0, .slice none 0 0] 262)) (Or.inr (Nat.le_refl _))).none; have hz := ho2.below bx; have hz2 : OwnB w2 _ A2 c2 (FB.take 64) := hz.back (Nat.le_refl _); have HZ := And.intro bz (And.intro hz2 (And.intro (belowA bx hb1) hb1.size)); clear bz bx hz hz2 ho2 hb3 hS1 hS0
      revert HZ
      generalize World.setCells (w3.alloc (.cells #[.int .i64 0, .slice none 0 0] 262)) w3.heap.size 0 [.int .i64 ((J.from_ : Int) + J.used), .slice A2 64 c2] = wx
      intro HZ
      have HZ := hide HZ; go_wp2; go_meet
      exact ⟨_, A2, c2, rfl, HZ.out⟩
     ·have bz := Blk.setCells [.int .i64 ((J.from_ : Int) + J.used), .slice A2 64 c2] 0 ((Blk.new (w := w2.drew) (b := w2.heap.size) (cs := [.int .i64 0, .slice none 0 0]) (t := 262) rfl).below hb3)
      have bx : Below w2.heap.size w2 _ := (Chg.setCells (L := []) (b := w2.heap.size) [.int .i64 ((J.from_ : Int) + J.used), .slice A2 64 c2] 0 (Chg.of_below hb1) (Or.inr (Nat.le_refl _))).none; have hz := ho2.chg (Chg.setCells (L := [w2.heap.size]) (b := w2.heap.size) [.int .i64 ((J.from_ : Int) + J.used), .slice A2 64 c2] 0 (Chg.refl _ w3) (Or.inl (by simp))) (fun x hx => by rw [List.mem_singleton.1 hx]; exact World.alloc_size_lt w2 _); have hz2 : OwnB w2 _ A2 c2 (FB.take 64) := hz.back (Nat.le_of_lt (World.alloc_size_lt w2 _)); have HZ := And.intro bz (And.intro hz2 (And.intro bx (Nat.le_refl w2.heap.size))); clear bz bx hz hz2 ho2 hb3 hS1 hS0
      revert HZ
      generalize World.setCells w3 w2.heap.size 0 [.int .i64 ((J.from_ : Int) + J.used), .slice A2 64 c2] = wx
      intro HZ
      have HZ := hide HZ; go_wp2; go_meet
      exact ⟨_, A2, c2, rfl, HZ.out⟩
    case rest =>
     obtain ⟨bb, A2, c2, rfl, hbg, ho2, hb3, hbb3⟩ := hcut; obtain ⟨w3, rfl⟩ : ∃ x, x = wc := ⟨_, rfl⟩; have bf3 : Blk w3 fb 5 (bys FB) := (HF.out.1.below HB2.out.1).below hb3; have zf := bf3.frozen 0; have z0 : w3.cell? ⟨fb, 0, none⟩ = some (.int .u8 (FB[0]'(by omega) : Nat)) := (bf3.cell 0).trans (by rw [← bys_get (by omega)])
     have hfl0 : 0 < FB.length := by omega
     have HB3 := hd5 hbg ho2 hb3 hbb3 bf3; clear hbg ho2 hb3 hbb3 bf3 e1 e4 r2 HCL bj2 p1; go_wp2; obtain ⟨w4, hw4⟩ : ∃ w4, w3.setCell ⟨fb, 0, none⟩ (.int .u8 0) = w4 := ⟨_, rfl⟩; rw [hw4]; obtain ⟨G, hG⟩ : ∃ G, FB.set 0 0 = G := ⟨_, rfl⟩; rw [hG] at hR
     have hGl : G.length = FB.length := by rw [← hG, List.length_set]
     have hfd := H.out.2.lt; have hfj := H.out.1.lt; have hfbw : w.heap.size ≤ fb := HF.out.2.1; have hb3w : Below w.heap.size w w3 := belowA HB3.out.2.2.1 HB2.out.2; have hbbw : w.heap.size ≤ bb := Nat.le_trans HB2.out.2.size HB3.out.2.2.2.1; have hfb2 : fb < w2.heap.size := ((HF.out.1).below HB2.out.1).lt
     have c4 : Chg ([] : List Nat) w w4 := hw4 ▸ (Chg.of_below (L := []) hb3w).setCell (p := ⟨fb, 0, none⟩) (Or.inr hfbw) _
     have c34 : Chg [fb] w3 w4 := hw4 ▸ (Chg.refl [fb] w3).setCell (p := ⟨fb, 0, none⟩) (Or.inl (by simp)) _
     have bf4 : Blk w4 fb 5 (bys G) := by
      have h := HB3.out.2.2.2.2.set 0 (.int .u8 0); rw [hw4] at h; rw [← hG, show bys (FB.set 0 0) = (bys FB).set 0 (.int .u8 0) by simp [bys, List.map_set]]
      exact h
     have hGb : ∀ x ∈ G, x < 256 := fun x hx => by
      rw [← hG] at hx
      rcases List.mem_or_eq_of_mem_set hx with h | rfl
      ·exact HF.out.2.2.2.1 x h
      ·omega
     have hne : bb ≠ fb := fun e => absurd (HB3.out.1.one (e ▸ HB3.out.2.2.2.2)).2 (by decide)
     have bg4 := HB3.out.1.chg c34 (by simpa using hne); have ho4 := HB3.out.2.1.chg c34 (fun x hx => by rw [List.mem_singleton.1 hx]; exact hfb2); have hj4 : JrnM w4 j d Fj J := H.out.1.chg (G := []) c4 (by simp) (fun g hg => by cases hg); have hdz4 : DevM w4 d Fd D := H.out.2.chg (G := []) c4 (by simp); have cw4 : Chg (Fj ++ Fd) w w4 := c4.mono (by simp); have hs4 : w2.heap.size ≤ w4.heap.size := Nat.le_trans HB3.out.2.2.1.size c34.size; have H4 := hd13 hj4 hdz4 cw4 bf4 bg4 ho4 hGb hGl hs4 hfbw hbbw c4 trivial; have HFD := hd3 hfd hfj hfb2; clear hw4 hG hGl hfd hfj hfbw hb3w hbbw hfb2 c4 c34 bf4 hGb hne bg4 ho4 hj4 hdz4 cw4 hs4 zf z0 hfl0 hf64 hc64
     go_loopw [4, 9, 10, 56, 57, 58, 59, 60, 61, 62, 63, 64, 65, 66, 67, 68, 69, 70, 71, 72, 73, 74, 75, 76, 77, 78, 79, 80, 81] (fun _ _ _ iv _ _ _ _ _ _ _ _ _ _ _ _ _ _ _ _ _ _ _ _ _ _ _ _ _ wr => ∃ (k : Nat) (F2 : List Nat) (Dk : Dev), k ≤ sz ∧ iv = .int .i64 k ∧ Hid (laysF sz D (J.from_ + J.used) G = laysF (sz - k) Dk (J.from_ + J.used + k) (G.drop (k * 64))) ∧ DevM wr d F2 Dk ∧ Chg Fd w4 wr ∧ (∀ x ∈ F2, x ∈ Fd ∨ w4.heap.size ≤ x) ∧ Hid (Dk.waits.length ≤ D.waits.length + k)) (fun _ _ _ iv _ _ _ _ _ _ _ _ _ _ _ _ _ _ _ _ _ _ _ _ _ _ _ _ _ _ => sz - (Go.RowKit.intOf iv).toNat)
     case atStart => exact ⟨0, Fd, D, Nat.zero_le _, rfl, hide (by simp), H4.out.2.1, Chg.refl _ _, fun x hx => Or.inl hx, hide (Nat.le_refl _)⟩
     case round =>
      obtain ⟨k, F2, Dk, hk, rfl, hly, hdk, hck, hF2, hDk⟩ := hrel; have HK := hd3 hdk hck hF2
      by_cases hlt : k < sz
      ·have i1 : (k : Int) < sz := by omega
       obtain ⟨m, hm⟩ : ∃ m, k * 64 = m := ⟨_, rfl⟩; obtain ⟨k1, hk1⟩ : ∃ m, k + 1 = m := ⟨_, rfl⟩; obtain ⟨m2, hm2⟩ : ∃ m, k1 * 64 = m := ⟨_, rfl⟩; obtain ⟨ai, hai⟩ : ∃ m, J.from_ + J.used + k = m := ⟨_, rfl⟩; have hbnd := HN.out; have hszb := HF.out.2.2
       have q1 : IntKind.i64.wrap ((k : Int) * 64) = (m : Int) := by rw [IntWalk.i64_in _ (by omega)]; omega
       have q2 : IntKind.i64.wrap ((k : Int) + 1) = (k1 : Int) := by rw [IntWalk.i64_in _ (by omega)]; omega
       have q3 : IntKind.i64.wrap ((k1 : Int) * 64) = (m2 : Int) := by rw [IntWalk.i64_in _ (by omega)]; omega
       have q4 : IntKind.i64.wrap ((J.from_ : Int) + J.used + k) = (ai : Int) := by rw [IntWalk.i64_in _ (by omega)]; omega
       have hGk : m2 ≤ G.length := by have h9 := H4.out.2.2.2.2.2.2.2.1; omega
       have bfr : Blk wr fb 5 (bys G) := H4.out.2.2.2.1.chg hck (fun hx => by have := HFD.out.1 _ hx; have := H4.out.2.2.2.2.2.2.2.2.2.1; omega); have rr := Below.refl wr.heap.size wr; have y0 := (H4.out.2.2.2.2.1.chg hck (fun hx => by have := HFD.out.1 _ hx; have := H4.out.2.2.2.2.2.2.2.2.2.2; omega)).rule 0 _ rfl; have bjr : Blk wr j 205 [.pointer (some ⟨d, 0, none⟩), .int .i64 J.from_, .int .i64 J.many, .int .i64 J.gen, .int .i64 J.used, .int .i64 J.n, .slice Aw J.waits.length cw, .bool J.gone] := (HJ.out.1.chg H4.out.2.2.2.2.2.2.2.2.2.2.2.1 (by simp)).chg hck (H.out.1.apart H.out.2 _ H.out.1.here); have yj := bjr.rule 0 _ rfl
       have hfc : G.length ≤ c1 := by have h9 := H4.out.2.2.2.2.2.2.2.1; omega
       have hfF2 : fb ∉ F2 := fun hx => by
        have h8 := (H4.out.2.2.2.1).lt; have h9 := H4.out.2.2.2.2.2.2.2.2.2.1
        rcases hF2 _ hx with h | h
        ·have := HFD.out.1 _ h; omega
        ·omega
       have hrb : Rb wr.drew F2 (some ⟨fb, 0, none⟩) c1 G := bfr.drewT.rb hfc hfF2
       have hsl := fun w => sliceB_mid (A := some ⟨fb, 0, none⟩) (n := FB.length) (c := c1) (show m ≤ m2 by omega) (by omega) w
       have hrc := hrb.cut (k := m) (by omega); obtain ⟨A', hA'⟩ : ∃ A', (if c1 = m then some ⟨fb, 0, none⟩ else (some (⟨fb, 0, none⟩ : Addr)).map (·.add (m * 1))) = A' := ⟨_, rfl⟩; rw [hA'] at hrc; simp only [hA', show m2 - m = 64 by omega] at hsl; obtain ⟨c', hc'⟩ : ∃ c', c1 - m = c' := ⟨_, rfl⟩; rw [hc'] at hrc; simp only [hc'] at hsl; obtain ⟨s, hs⟩ : ∃ s, (G.drop m).take 64 = s := ⟨_, rfl⟩
       have hs64 : s.length = 64 := by rw [← hs, List.length_take, List.length_drop]; omega
       have hrt : Rb wr.drew F2 A' c' s := ⟨by have h8 := hrc.le; rw [List.length_drop] at h8; omega, by
        have h := hrc.rd.take (k := 64) (by rw [List.length_drop]; omega); rw [bys_take, hs] at h
        rw [hs64]; exact h, hrc.ap⟩
       have hsb : ∀ x ∈ s, x < 256 := fun x hx => H4.out.2.2.2.2.2.2.1 x (by rw [← hs] at hx; exact List.mem_of_mem_drop (List.mem_of_mem_take hx))
       have HWR := dwrite_calls (hdk.below (rr.drew)) (ai : Int) hrt hsb (by have := hDk.out; omega); rw [hs64] at HWR; have hwl := Dk.write_len (ai : Int) s; have hly2 := hly.out; rw [show sz - k = (sz - k1) + 1 by omega, laysF, hm, hai, hs, List.drop_drop, show m + 64 = m2 by omega, show ai + 1 = J.from_ + J.used + k1 by omega] at hly2; obtain ⟨⟨e2, D2⟩, hq⟩ : ∃ y, Dk.write (ai : Int) s = y := ⟨_, rfl⟩; rw [hq] at HWR hwl; simp only [hq] at hly2; have HLY := hide hly2; have HWR := hide HWR; have HWL := hide hwl; have HK1 := hd2 hk1 hm2; clear hly hdk hck hF2 bfr bjr hfF2 hrb hrc hA' hc' hs hs64 hrt hsb hwl hly2 hq hk1 hm2 hm hai hGk hfc hbnd hszb
       go_upto_region 14 with fail
       refine region_lx (fun w' => Below wr.heap.size wr w') [15] [2, 2, 2, 0, 2, 0, 2, 2, 2, 2, 2, 2, 2, 2, 2, 3, 2] (by (exact rr.drew)) (fun hS0 => ?_)
       (iterate 15 (first | refine lxt ?_ | refine lxp ?_))
       (refine lxn ?_; go_simp; ((go_at_call 152; refine HWR.out.mono ?_; rintro e w5 ⟨rfl, F4, hdz5, hc5, hF5⟩)))
       refine lxp ?_
       refine lxN ?_
       have hc45 : Chg Fd w4 w5 := (HK.out.2.1.drew).trans hc5 HK.out.2.2
       have hF45 : ∀ z ∈ F4, z ∈ Fd ∨ w4.heap.size ≤ z := fun z hz => (hF5 z hz).elim (HK.out.2.2 z) (fun h => Or.inr (Nat.le_trans HK.out.2.1.size h))
       have H5 := hd3 hdz5 hc45 hF45; clear hdz5 hc5 hF5 hc45 hF45 y0 yj
       by_cases hee : e2 = 0
       ·subst hee
        have HL2 := hide (HLY.out.trans (if_neg (by simp))); clear HLY; go_wp2
        go_roundw
        case rel => exact ⟨k1, F4, D2, by have := HK1.out.1; omega, by have := HK1.out.1; go_num, hide (by rw [HK1.out.2]; exact HL2.out), H5.out.1, H5.out.2.1, H5.out.2.2, hide (by have h1 := hDk.out; have h2 := HWL.out.2; have := HK1.out.1; (try simp only [] at h2); omega)⟩
        case measure => have := HK1.out.1; simp [Go.RowKit.intOf]; omega
       ·have u1 : ((e2 : Int) != 0) = true := by simp; omega
        have hl2 := HLY.out.trans (if_pos hee); rw [hl2] at hR; simp only [] at hR; rw [if_pos hee] at hR; subst hR; have hj5 := (H4.out.1.dev H4.out.2.1 H5.out.2.1); have b5 : Blk w5 j 205 [.pointer (some ⟨d, 0, none⟩), .int .i64 J.from_, .int .i64 J.many, .int .i64 J.gen, .int .i64 J.used, .int .i64 J.n, .slice Aw J.waits.length cw, .bool J.gone] := (HJ.out.1.chg H4.out.2.2.2.2.2.2.2.2.2.2.2.1 (by simp)).chg H5.out.2.1 (H.out.1.apart H.out.2 _ H.out.1.here); have q7 := b5.cell 7; have f7 := b5.frozen 7; simp only [List.getElem?_cons_succ, List.getElem?_cons_zero] at q7 f7; have cj : Chg [j] w5 (w5.setCell ⟨j, 7, none⟩ (.bool true)) := (Chg.refl [j] w5).setCell (p := ⟨j, 7, none⟩) (Or.inl (by simp)) _
        have hdz6 : DevM (w5.setCell ⟨j, 7, none⟩ (.bool true)) d F4 D2 := H5.out.1.chg cj (fun x hx hy => by
         rw [List.mem_singleton.1 hy] at hx
         exact hj5.apart H5.out.1 j hj5.here hx)
        have c6 : Chg (Fj ++ Fd) w (w5.setCell ⟨j, 7, none⟩ (.bool true)) := (H4.out.2.2.1.trans H5.out.2.1 (fun z hz => Or.inl (List.mem_append_right _ hz))).trans cj (fun z hz => Or.inl (by rw [List.mem_singleton.1 hz]; exact List.mem_append_left _ H.out.1.here)); have H6 : Hid (JT w (w5.setCell ⟨j, 7, none⟩ (.bool true)) j d Fj Fd { J with gone := true } D2) := hide ⟨Fj, F4, hj5.gone_ true, hdz6, c6, fun x hx => (List.mem_append.1 hx).elim (fun h => Or.inl (List.mem_append_left _ h)) (fun h => (H5.out.2.2 x h).elim (fun h => Or.inl (List.mem_append_right _ h)) (fun h => Or.inr (Nat.le_trans H4.out.2.2.1.size h)))⟩; clear hj5 b5 cj hdz6 c6 hee hl2 HLY; go_wp2; go_ret
        exact ⟨rfl, H6.out⟩
      ·have i1 : ¬ (k : Int) < sz := by omega
       obtain rfl : k = sz := by omega
       have hly2 := hly.out; rw [Nat.sub_self, laysF] at hly2; rw [hly2] at hR; simp only [ne_eq, not_true_eq_false, if_false] at hR; obtain ⟨us, hus⟩ : ∃ us, J.used + k = us := ⟨_, rfl⟩; obtain ⟨n1, hn1⟩ : ∃ n1, J.n + 1 = n1 := ⟨_, rfl⟩; rw [hus, hn1] at hR; subst hR; have hjr : JrnM wr j d Fj J := H4.out.1.dev H4.out.2.1 hck; have bj4 := HJ.out.1.chg H4.out.2.2.2.2.2.2.2.2.2.2.2.1 (by simp); have bjr := bj4.chg hck (H.out.1.apart H.out.2 _ H.out.1.here); have bgr := H4.out.2.2.2.2.1.chg hck (fun hx => by have := HFD.out.1 _ hx; have := H4.out.2.2.2.2.2.2.2.2.2.2; omega); have hor0 := own_chg (own_chg HJ.out.2.1 H4.out.2.2.2.2.2.2.2.2.2.2.2.1 (by simp)) hck (fun g hg => H.out.1.apart H.out.2 g (by rw [HJ.out.2.2.2.2]; rw [owS] at hg; simp [hg])); have rr := Below.refl wr.heap.size wr; have e6 := bjr.rule 6 _ rfl; have hbl := bgr.lt
       have ld3 : ∀ w', Below wr.heap.size wr w' → (Instr.loadAt 262 (.pointer (some ⟨bb, 0, none⟩))).run Tryz.prog w' = .ok (.agg #[.int .i64 ((J.from_ : Int) + J.used), .slice A2 64 c2]) w' := fun w' hb' =>
        run_loadAt_mid w' bb 0 _ _ _ (fun j v hv => by rw [Nat.zero_add]; exact (hb'.cell (p := ⟨bb, j, none⟩) hbl).trans ((bgr.cell j).trans hv)) Tryz.underlying262 rfl (by kernel_rfl)
       obtain ⟨iw, hiw, hzw, hsw, hbw⟩ := info_parts Tryz.infoBg; have hbnd := HN.out; have hszb := HF.out.2.2
       have p4 : IntKind.i64.wrap ((J.used : Int) + k) = (us : Int) := by rw [IntWalk.i64_in _ (by omega)]; omega
       have p5 : IntKind.i64.wrap ((J.n : Int) + 1) = (n1 : Int) := by rw [IntWalk.i64_in _ (by omega)]; omega
       have hjA : j ∉ (Aw.map Addr.block).toList := fun hx => absurd (own_typed hor0 (by simpa using hx) bjr) (by decide)
       have hwn := HN.out.2.2.2.1; have HE := hd6 hjr bjr bgr hor0 hus hn1; clear hly hly2 hdk hck hF2 hjr bj4 bgr hbl hus hn1 hbnd hszb
       go_upto_region 19 with fail
       refine region_lx (fun w' => Below wr.heap.size wr w') [7] [2, 2, 2, 2, 0, 0, 1, 3, 2, 2, 3] (by (first | exact rr.drew | exact belowL rr _ | exact belowL rr.drew _)) (fun hS0 => ?_)
       (iterate 5 (first | refine lxt ?_ | refine lxp ?_)); (apply lxT (by rfl); (focus (intro w hw; (try dsimp only at hw); exact run_exec_load _ _ rfl rfl (ld3 w hw))); simp only [Act.put, List.setIfInBounds_toArray, List.set_cons_zero, List.set_cons_succ])
       (refine lxe ?_; (refine wp_buildSlice 203 262 1 _ rfl #[.int .i64 ((J.from_ : Int) + J.used), .slice A2 64 c2] iw _ Tryz.underlying203 hiw hzw (by rw [hsw]; decide) (by rw [hsw]; decide) (by rw [hsw]; kernel_rfl) ?_); (try simp only [Act.put, List.setIfInBounds_toArray, List.set_cons_zero, List.set_cons_succ]); refine lxB (by (first | exact rr.drew | exact belowL rr _ | exact belowL rr.drew _)) (fun hS1 => ?_))
       (refine lxn ?_; (refine app_wp _ _ 203 rfl 262 iw _ 2 32 Tryz.underlying203 hiw hzw hsw hbw (by kernel_rfl) (by decide) (.slice Aw J.waits.length cw) J.waits.length (bgCells X) rfl (own_chg HE.out.2.2.2.1 (((Chg.refl [] _).drew).alloc _) (by simp)) wr.drew.heap.size 1 1 [.int .i64 ((J.from_ : Int) + J.used), .slice A2 64 c2] rfl (Blk.new rfl) rfl (fun u hu => by (simp only [List.mem_cons, List.not_mem_nil, or_false] at hu; rcases hu with rfl | rfl <;> rfl)) (by decide) (by unfold maxLen; omega) (by omega) ?_; intro g cap' w6 hown6 hch hor hlt6; rw [owS] at hch hor; have P6 := (Blk.alloc (Blk.drewT HE.out.2.1) _).chg hch hjA; have d6 := P6.cell 6; have f6 := P6.frozen 6); (try simp only [Act.put, List.setIfInBounds_toArray, List.set_cons_zero, List.set_cons_succ]))
       (iterate 2 (refine lxp ?_))
       (refine lxn ?_; go_simp)
       refine lxN ?_
       have cA : Chg (Aw.map Addr.block).toList wr w6 := (((Chg.refl (Aw.map Addr.block).toList wr).drew).alloc _).trans hch (fun z hz => Or.inl hz)
       have hAj : ∀ z ∈ (Aw.map Addr.block).toList, z ∈ Fj := fun z hz => by rw [HJ.out.2.2.2.2]; exact List.mem_cons_of_mem _ hz
       have cJ6 : Chg Fj wr w6 := cA.mono (fun z hz => Or.inl (hAj z hz)); have cw6 : Chg (Fj ++ Fd) w w6 := (H4.out.2.2.1.trans HK.out.2.1 (fun z hz => Or.inl (List.mem_append_right _ hz))).trans cJ6 (fun z hz => Or.inl (List.mem_append_left _ hz))
       have hNB : NoB w (Fj ++ Fd) := fun z hz => (List.mem_append.1 hz).elim (H.out.1.nob z) (H.out.2.nob z)
       have hb6 : Bt w6 A2 c2 (FB.take 64) := ((H4.out.2.2.2.2.2.1.chg HK.out.2.1 (fun x hx => Nat.lt_of_lt_of_le (HFD.out.1 x hx) HB2.out.2.size)).chg cA (fun x hx => Nat.lt_of_lt_of_le (HFD.out.2.1 x (hAj x hx)) HB2.out.2.size)).bt
       have h64 : (FB.take 64).length = 64 := by have := HF.out.2.2; rw [List.length_take]; omega
       have hpu := JrnM.push P6 hown6 HJ.out.2.2.1 (fun x hx => ⟨(HJ.out.2.2.2.1 x hx).1.chg cw6 hNB, (HJ.out.2.2.2.1 x hx).2⟩) hb6 h64 (fun y hy => HF.out.2.2.2.1 y (List.mem_of_mem_take hy)) us n1
       have hgF : g ∈ Fj ∨ w.heap.size ≤ g := by
        rcases hor with h | h
        ·exact Or.inl (hAj g (by rw [h]; simp))
        ·exact Or.inr (by have := H4.out.2.2.1.size; have := HK.out.2.1.size; rw [h]; simp; omega)
       have hdz7 := HK.out.1.jrn HE.out.1 (cJ6.trans hpu.2 (fun z hz => Or.inl (by rw [List.mem_singleton.1 hz]; exact H.out.1.here)))
       have H7 := hide (show JT w _ j d Fj Fd _ Dk from ⟨[j, g], F2, hpu.1, hdz7, cw6.trans hpu.2 (fun z hz => Or.inl (by rw [List.mem_singleton.1 hz]; exact List.mem_append_left _ H.out.1.here)), fun x hx => by
        rcases List.mem_append.1 hx with h | h
        ·simp only [List.mem_cons, List.not_mem_nil, or_false] at h
         rcases h with rfl | rfl
         ·exact Or.inl (List.mem_append_left _ H.out.1.here)
         ·exact hgF.imp (List.mem_append_left _) id
        ·exact (HK.out.2.2 x h).elim (fun h => Or.inl (List.mem_append_right _ h)) (fun h => Or.inr (Nat.le_trans H4.out.2.2.1.size h))⟩)
       have P7 := P6.set 6 (.slice (some ⟨g, 0, none⟩) (J.waits.length + 1) cap'); have P8 := P7.set 4 (.int .i64 us); have d4 := P7.cell 4; have f4 := P7.frozen 4; have d5 := P8.cell 5; have f5 := P8.frozen 5; simp only [List.getElem?_cons_succ, List.getElem?_cons_zero, List.set_cons_succ, List.set_cons_zero] at d4 f4 d5 f5; clear cA hAj cJ6 cw6 hNB hb6 h64 hpu hgF hdz7 P6 P7 P8 hown6 hch hor hlt6 d6 f6 ld3 e6 hor0 bjr hS0 hS1 rr hjA hwn hiw hzw hsw hbw; go_wp2; go_ret
       exact ⟨rfl, H7.out⟩
  ·obtain rfl := hno he
   rw [if_pos (by simpa using he)] at hR; subst hR
   have u1 : ((e1 : Int) != 0) = true := by simp; omega
   clear hok hno he; simp only [List.length_nil]; go_wp2; go_ret
   exact ⟨rfl, JT.of (H.out.1.below HB1.out.1) (H.out.2.below HB1.out.1) (Chg.of_below HB1.out.1) (fun x hx => Or.inl hx)⟩
end
end Go.Proofs.YtcahcjfgmdpdoaaGreat
