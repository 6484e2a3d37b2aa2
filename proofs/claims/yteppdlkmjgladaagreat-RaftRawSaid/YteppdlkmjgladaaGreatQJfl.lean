/- One text of: Jfl. -/
import Derived.Test.YteppdlkmjgladaaGreatQJB
namespace Go.Proofs.YteppdlkmjgladaaGreat
open Go.RowKit Go.Proofs
set_option linter.unusedVariables false
set_option linter.unusedSimpArgs false
theorem zA10 {α : Type} (l : List α) (i : Nat) (a : α) : l.toArray.setIfInBounds i a = (l.set i a).toArray := by simp
theorem zB10 {α : Type} (x a : α) (l : List α) : (x :: l).set 0 a = a :: l := rfl
theorem zC10 {α : Type} (x a : α) (l : List α) (n : Nat) : (x :: l).set (n + 1) a = x :: l.set n a := rfl

theorem bgCells_get : ∀ (X : List Bg) (k : Nat) (hk : k < X.length), (bgCells X)[k * 2]? = some (.int .i64 X[k].i) ∧ (bgCells X)[k * 2 + 1]? = some (.slice X[k].A X[k].b.length X[k].c)
 |x :: t, 0, _ => ⟨rfl, rfl⟩
 |x :: t, k + 1, hk => by
  have := bgCells_get t k (by simpa using hk)
  simp only [bgCells, List.flatMap_cons, Bg.cells] at this ⊢
  rw [show (k + 1) * 2 = k * 2 + 2 by omega]
  exact this
def JT (w w' : World) (j d : Nat) (Fj Fd : List Nat) (J : Jrn) (D : Dev) : Prop :=
 ∃ Fj' Fd', JrnM w' j d Fj' J ∧ DevM w' d Fd' D ∧ Chg (Fj ++ Fd) w w' ∧ ∀ x ∈ Fj' ++ Fd', x ∈ Fj ++ Fd ∨ w.heap.size ≤ x
theorem Dev.flush_w (D : Dev) : D.flush.2.l = D.l ∧ D.flush.2.waits.length ≤ D.waits.length := by
 have h := D.burn_l
 unfold Dev.flush
 simp only []
 split
 ·rw [h.1, h.2]; exact ⟨rfl, Nat.le_refl _⟩
 ·simp [h.1]
section
variable {w w' : World} {j d : Nat} {Fj Fd G : List Nat} {J : Jrn} {D : Dev}
theorem JT.of (hj : JrnM w' j d Fj J) (hd : DevM w' d G D) (hc : Chg (Fj ++ Fd) w w') (hG : ∀ x ∈ G, x ∈ Fd ∨ w.heap.size ≤ x) : JT w w' j d Fj Fd J D :=
 ⟨Fj, G, hj, hd, hc, fun x hx => (List.mem_append.1 hx).elim (fun h => Or.inl (List.mem_append_left _ h)) (fun h => (hG x h).imp (List.mem_append_right _) id)⟩
theorem JrnM.dev (hj : JrnM w j d Fj J) (hd : DevM w d Fd D) (hc : Chg Fd w w') : JrnM w' j d Fj J := hj.chg hc (hj.apart hd) hd.nob
theorem DevM.jrn (hd : DevM w d Fd D) (hj : JrnM w j d Fj J) (hc : Chg Fj w w') : DevM w' d Fd D := hd.chg hc (fun x hx hy => hj.apart hd x hy hx)
set_option maxHeartbeats 2000000 in
set_option maxRecDepth 100000 in
theorem jflush_calls (hj : JrnM w j d Fj J) (hd : DevM w d Fd D) (hn : J.waits.length ≤ 50000) (hw : D.waits.length ≤ 50000) :
  Calls Tryz.prog 146 #[.pointer (some ⟨j, 0, none⟩)] w fun e w' => e = .returned (.int .i64 (J.flush D).1) ∧ JT w w' j d Fj Fd (J.flush D).2.1 (J.flush D).2.2 := by
 obtain ⟨R, hR⟩ : ∃ R, J.flush D = R := ⟨_, rfl⟩
 rw [hR]
 unfold Jrn.flush at hR
 have HFL := dflush_calls hd
 obtain ⟨A, c, X, h1, h2, h3, h4, hFj⟩ := hj.ex
 have e7 : w.cell? ⟨j, 7, none⟩ = some (.bool J.gone) := h1.cell 7
 have e0 : w.cell? ⟨j, 0, none⟩ = some (.pointer (some ⟨d, 0, none⟩)) := h1.cell 0
 have H := hide (And.intro hj hd)
 have HJ := hide (And.intro h1 (And.intro h2 (And.intro h3 (And.intro h4 hFj))))
 by_cases hg : J.gone = true
 ·rw [if_pos hg] at hR
  subst hR
  rw [hg] at e7
  clear hg h1 h2 h3 h4 hFj hj hd HFL
  go_enter Tryz.func146, Tryz.ntmps146
  go_wp2
  go_ret
  exact ⟨rfl, JT.of H.out.1 H.out.2 (Chg.refl _ _) (fun x hx => Or.inl hx)⟩
 ·have hg' : J.gone = false := by simpa using hg
  rw [if_neg hg] at hR
  rw [hg'] at e7
  obtain ⟨⟨e1, D1⟩, hq⟩ : ∃ x, D.flush = x := ⟨_, rfl⟩
  have hfw := D.flush_w
  rw [hq] at HFL hfw
  simp only [hq] at hR
  have HFW := hide hfw
  clear hfw
  have HFL := hide HFL
  have hXl : X.length = J.waits.length := by rw [← h3, List.length_map]
  have HXL := hide hXl
  clear hg hg' hq h1 h2 h3 h4 hFj hj hd hXl
  go_enter Tryz.func146, Tryz.ntmps146
  go_wp2_with fail
  refine HFL.out.mono ?_
  rintro e w1 ⟨rfl, F1, hd1, hc1, hF1⟩
  have hj1 := H.out.1.dev H.out.2 hc1
  have b1 : Blk w1 j 190 [.pointer (some ⟨d, 0, none⟩), .int .i64 J.from_, .int .i64 J.many, .int .i64 J.gen, .int .i64 J.used, .int .i64 J.n, .slice A J.waits.length c, .bool J.gone] := HJ.out.1.chg hc1 (H.out.1.apart H.out.2 _ H.out.1.here)
  have e6 : w1.cell? ⟨j, 6, none⟩ = some (.slice A J.waits.length c) := b1.cell 6
  have H1 := hide (And.intro hd1 (And.intro hc1 hF1))
  clear e7 e0 hd1 hc1 hF1 hj1 b1
  go_wp2
  go_loopw [3, 5, 20, 21, 22, 23, 24, 25, 26, 27, 28, 29, 30, 31, 32, 33, 34, 35] (fun ev _ iv _ _ _ _ _ _ _ _ _ _ _ _ _ _ _ wr => ∃ (k ek : Nat) (F2 : List Nat) (Dk : Dev), k ≤ J.waits.length ∧ iv = .int .i64 k ∧ ev = .int .i64 ek ∧ Hid (beginsF J.waits D1 e1 = beginsF (J.waits.drop k) Dk ek) ∧ DevM wr d F2 Dk ∧ Chg Fd w wr ∧ (∀ x ∈ F2, x ∈ Fd ∨ w.heap.size ≤ x) ∧ Hid (Dk.l.length = D1.l.length ∧ Dk.waits.length ≤ D1.waits.length + k)) (fun ev _ iv _ _ _ _ _ _ _ _ _ _ _ _ _ _ _ _ => J.waits.length - (Go.RowKit.intOf iv).toNat)
  case atStart => exact ⟨0, e1, F1, D1, Nat.zero_le _, rfl, rfl, hide rfl, H1.out.1, H1.out.2.1, H1.out.2.2, hide ⟨rfl, Nat.le_refl _⟩⟩
  case round =>
   obtain ⟨k, ek, F2, Dk, hk, rfl, rfl, hbg, hdk, hck, hF2, hDk⟩ := hrel
   have HK := hide (And.intro hdk (And.intro hck hF2))
   by_cases hlt : k < J.waits.length
   ·have i1 : (k : Int) < J.waits.length := by omega
    have hkX : k < X.length := by rw [HXL.out]; exact hlt
    obtain ⟨x, hx⟩ : ∃ x, X[k] = x := ⟨_, rfl⟩
    have hxw : J.waits.drop k = (x.i, x.b) :: J.waits.drop (k + 1) := by
     rw [List.drop_eq_getElem_cons hlt]
     congr 1
     have h9 : J.waits[k] = (X.map fun x => (x.i, x.b))[k]'(by simpa using hkX) := by simp only [HJ.out.2.2.1]
     rw [h9, List.getElem_map, hx]
    have ho := own_chg HJ.out.2.1 hck (fun g hg => H.out.1.apart H.out.2 g (by rw [HJ.out.2.2.2.2]; rw [owS] at hg; simp [hg]))
    obtain ⟨A9, c9, e9, _, _, _, _, hrd⟩ := own_view ho
    cases e9
    obtain ⟨b, o, rfl, hbl, hcells⟩ := (hrd _ (fun g hg => own_lt ho hg)).at_ (by omega)
    have hgc := bgCells_get X k hkX
    rw [hx] at hgc
    have g0 := hcells _ _ hgc.1
    have g1 := hcells _ _ hgc.2
    have g1' : wr.cell? ⟨b, o + k * 2 + 1, none⟩ = some (.slice x.A x.b.length x.c) := by rw [Nat.add_assoc]; exact g1
    have hBt := HJ.out.2.2.2.1 x (by rw [← hx]; exact List.getElem_mem _)
    have hBr := hBt.1.chg hck H.out.2.nob
    have b2 : Blk wr j 190 [.pointer (some ⟨d, 0, none⟩), .int .i64 J.from_, .int .i64 J.many, .int .i64 J.gen, .int .i64 J.used, .int .i64 J.n, .slice (some ⟨b, o, none⟩) J.waits.length c, .bool J.gone] := HJ.out.1.chg hck (H.out.1.apart H.out.2 _ H.out.1.here)
    obtain ⟨wN, hwN⟩ : ∃ wN, wr.alloc (.cells #[.int .i64 x.i, .slice x.A x.b.length x.c] 232) = wN := ⟨_, rfl⟩
    obtain ⟨nb, hnb⟩ : ∃ nb, wr.heap.size = nb := ⟨_, rfl⟩
    have hbN : Below wr.heap.size wr wN := hwN ▸ belowL (Below.refl _ _) _
    have bN : Blk wN nb 232 [.int .i64 x.i, .slice x.A x.b.length x.c] := by rw [← hwN, ← hnb]; exact Blk.new rfl
    have rN := Below.refl wN.heap.size wN
    have y0 := bN.rule 0 _ rfl
    have y1 := bN.rule 1 _ rfl
    have yj := (b2.below hbN).rule 0 _ rfl
    have HWN := hide (And.intro hwN (And.intro hnb hbN))
    have hdN := hdk.below (hbN.trans (rN.drew.mono hbN.size))
    have HWR := dwrite_calls hdN (x.i : Int) ((hBr.below (hbN.trans (rN.drew.mono hbN.size))).rbn hdN.nob) hBt.2.2 (by have h8 := hDk.out; have h9 := HFW.out; (try simp only [] at h9); omega)
    have hwl := Dk.write_len (x.i : Int) x.b
    obtain ⟨⟨e2, D2⟩, hq⟩ : ∃ y, Dk.write (x.i : Int) x.b = y := ⟨_, rfl⟩
    rw [hq] at HWR hwl
    have hbg2 : beginsF J.waits D1 e1 = if ek = 0 then beginsF (J.waits.drop (k + 1)) D2 e2 else beginsF (J.waits.drop (k + 1)) Dk ek := hbg.out.trans (by rw [hxw, beginsF, hq])
    have HBG := hide hbg2
    have HWR := hide HWR
    have HWL := hide hwl
    have HBN := hide hbN
    clear hxw ho hrd hcells hgc hBt hBr b2 bN hdN hq hbg2 hwl hdk hck hF2 hbN hbl hx hbg g1
    go_upto_region 7 with fail
    (try rw [HWN.out.1])
    (try rw [HWN.out.2.1])
    by_cases hek : ek = 0
    ·subst hek
     have HB2 := hide (HBG.out.trans (if_pos rfl))
     clear HBG g0 g1'
     go_upto_region 8 with fail
     refine lxR (fun w' => Below wN.heap.size wN w') [8] 0 [(2, 0), (2, 1), (2, 2), (0, 3), (2, 4), (0, 5), (2, 6), (0, 7), (3, 8), (2, 9)] #[true, true, true, true, true, true, true, true, true, true] (by kernel_rfl) (by kernel_rfl) (by decide) (by kernel_rfl) (by kernel_rfl) (fun _ _ _ _ _ h => h) (by (exact rN.drew)) (fun hS0 => ?_)
     simp only [List.map_cons, List.map_nil, List.getElem?_toArray, List.getElem?_cons_succ, List.getElem?_cons_zero]
     (iterate 3 ((apply lxP (by rfl); (focus (intro w; go_simp; (try with_reducible rfl); done)); simp only [Act.put, zA10, zB10, zC10]))); (apply lxT (by rfl); (focus (intro w hw; (try dsimp only at hw); go_simp; (try with_reducible rfl); done)); simp only [Act.put, zA10, zB10, zC10]); (apply lxP (by rfl); (focus (intro w; go_simp; (try with_reducible rfl); done)); simp only [Act.put, zA10, zB10, zC10]); (apply lxT (by rfl); (focus (intro w hw; (try dsimp only at hw); go_simp; (try with_reducible rfl); done)); simp only [Act.put, zA10, zB10, zC10]); (apply lxP (by rfl); (focus (intro w; go_simp; (try with_reducible rfl); done)); simp only [Act.put, zA10, zB10, zC10]); (apply lxT (by rfl); (focus (intro w hw; (try dsimp only at hw); go_simp; (try with_reducible rfl); done)); simp only [Act.put, zA10, zB10, zC10]); (refine lxF (by rfl) ?_; go_simp; ((go_at_call 140; refine HWR.out.mono ?_; rintro e w4 ⟨rfl, F4, hd4, hc4, hF4⟩))); (apply lxP (by rfl); (focus (intro w; go_simp; (try with_reducible rfl); done)); simp only [Act.put, zA10, zB10, zC10])
     refine lxN (fun _ => wqD (by kernel_rfl) ?_ _)
     have hb0 : Below wr.heap.size wr wN.drew := HBN.out.trans (rN.drew.mono HBN.out.size)
     have hc24 : Chg Fd w w4 := (HK.out.2.1.below hb0).trans hc4 HK.out.2.2
     have hF24 : ∀ z ∈ F4, z ∈ Fd ∨ w.heap.size ≤ z := fun z hz => (hF4 z hz).elim (HK.out.2.2 z) (fun h => Or.inr (Nat.le_trans (Nat.le_trans HK.out.2.1.size hb0.size) h))
     have H4 := hide (And.intro hd4 (And.intro hc24 hF24))
     clear hd4 hc4 hF4 hc24 hF24 y0 y1 yj hb0
     go_wp2
     go_roundw
     case rel => exact ⟨k + 1, e2, F4, D2, by omega, by go_num, rfl, HB2, H4.out.1, H4.out.2.1, H4.out.2.2, hide (by have h1 := hDk.out; have h2 := HWL.out; (try simp only [] at h2); omega)⟩
     case measure => simp [Go.RowKit.intOf]; omega
    ·have u1 : ((ek : Int) == 0) = false := by simp; omega
     have HB2 := hide (HBG.out.trans (if_neg hek))
     clear hek HBG y0 y1 yj
     go_wp2
     go_roundw
     case rel => exact ⟨k + 1, ek, F2, Dk, by omega, by go_num, rfl, HB2, HK.out.1.below HBN.out, HK.out.2.1.below HBN.out, HK.out.2.2, hide (by have h1 := hDk.out; omega)⟩
     case measure => simp [Go.RowKit.intOf]; omega
   ·have i1 : ¬ (k : Int) < J.waits.length := by omega
    obtain rfl : k = J.waits.length := by omega
    have hbE : beginsF J.waits D1 e1 = (ek, Dk) := hbg.out.trans (by rw [List.drop_of_length_le (Nat.le_refl _)]; rfl)
    rw [hbE] at hR
    simp only [] at hR
    have hjr := H.out.1.dev H.out.2 HK.out.2.1
    have HFE := hide (dflush_calls HK.out.1)
    have b2 : Blk wr j 190 [.pointer (some ⟨d, 0, none⟩), .int .i64 J.from_, .int .i64 J.many, .int .i64 J.gen, .int .i64 J.used, .int .i64 J.n, .slice A J.waits.length c, .bool J.gone] := HJ.out.1.chg HK.out.2.1 (H.out.1.apart H.out.2 _ H.out.1.here)
    have e6r : wr.cell? ⟨j, 6, none⟩ = some (.slice A J.waits.length c) := b2.cell 6
    have e0r : wr.cell? ⟨j, 0, none⟩ = some (.pointer (some ⟨d, 0, none⟩)) := b2.cell 0
    have HB2 := hide b2
    clear hdk hck hF2 hbg hbE e6
    have fin : ∀ (w5 : World) (F5 : List Nat) (ee : Nat) (De : Dev), DevM w5 d F5 De → Chg Fd w w5 → (∀ x ∈ F5, x ∈ Fd ∨ w.heap.size ≤ x) → JT w ((w5.setCell ⟨j, 6, none⟩ (.slice none 0 0)).setCell ⟨j, 7, none⟩ (.bool (ee != 0))) j d Fj Fd { J with waits := [], gone := ee != 0 } De ∧ Blk w5 j 190 [.pointer (some ⟨d, 0, none⟩), .int .i64 J.from_, .int .i64 J.many, .int .i64 J.gen, .int .i64 J.used, .int .i64 J.n, .slice A J.waits.length c, .bool J.gone] := fun w5 F5 ee De k1 k2 k3 => by
     have b5 : Blk w5 j 190 [.pointer (some ⟨d, 0, none⟩), .int .i64 J.from_, .int .i64 J.many, .int .i64 J.gen, .int .i64 J.used, .int .i64 J.n, .slice A J.waits.length c, .bool J.gone] := HJ.out.1.chg k2 (H.out.1.apart H.out.2 _ H.out.1.here)
     have b6 := (b5.set 6 (.slice none 0 0)).set 7 (.bool (ee != 0))
     have cj : Chg [j] w5 ((w5.setCell ⟨j, 6, none⟩ (.slice none 0 0)).setCell ⟨j, 7, none⟩ (.bool (ee != 0))) := ((Chg.refl [j] w5).setCell (p := ⟨j, 6, none⟩) (Or.inl (by simp)) _).setCell (p := ⟨j, 7, none⟩) (Or.inl (by simp)) _
     have hj5 := H.out.1.dev H.out.2 k2
     have hd6 : DevM ((w5.setCell ⟨j, 6, none⟩ (.slice none 0 0)).setCell ⟨j, 7, none⟩ (.bool (ee != 0))) d F5 De := k1.chg cj (fun x hx hy => by
      rw [List.mem_singleton.1 hy] at hx
      exact hj5.apart k1 j hj5.here hx)
     refine ⟨⟨[j], F5, ⟨none, 0, [], b6, ownsRow_nil _ _ _, rfl, by simp, rfl⟩, hd6, ?_, fun x hx => ?_⟩, b5⟩
     ·exact (k2.mono (fun z hz => Or.inl (List.mem_append_right _ hz))).trans cj (fun z hz => Or.inl (by rw [List.mem_singleton.1 hz]; exact List.mem_append_left _ H.out.1.here))
     ·rcases List.mem_append.1 hx with hx | hx
      ·rw [List.mem_singleton.1 hx]; exact Or.inl (List.mem_append_left _ H.out.1.here)
      ·exact (k3 x hx).imp (List.mem_append_right _) id
    have HFIN := hide fin
    clear fin b2 hjr
    by_cases hek : ek = 0
    ·subst hek
     by_cases hnz : 0 < J.waits.length
     ·have u2 : (0 : Int) < J.waits.length := by omega
      rw [if_pos ⟨rfl, hnz⟩] at hR
      obtain ⟨⟨e5, D5⟩, hq5⟩ : ∃ y, Dk.flush = y := ⟨_, rfl⟩
      have HFE2 := HFE.out
      rw [hq5] at HFE2
      rw [hq5] at hR
      have HFE2 := hide HFE2
      subst hR
      clear hq5 hnz
      go_wp2_with fail
      refine HFE2.out.mono ?_
      rintro e w5 ⟨rfl, F5, hd5, hc5, hF5⟩
      have k2 := HK.out.2.1.trans hc5 HK.out.2.2
      have k3 : ∀ x ∈ F5, x ∈ Fd ∨ w.heap.size ≤ x := fun x hx => (hF5 x hx).elim (HK.out.2.2 x) (fun h => Or.inr (Nat.le_trans HK.out.2.1.size h))
      have h6 := HFIN.out w5 F5 e5 D5 hd5 k2 k3
      clear hd5 hc5 hF5 k2 k3 HFE2 e6r e0r
      have q6 := h6.2.cell 6
      have q7 := h6.2.cell 7
      have f6 := h6.2.frozen 6
      have f7 := h6.2.frozen 7
      simp only [List.getElem?_cons_succ, List.getElem?_cons_zero] at q6 q7
      by_cases hee : e5 = 0
      ·subst hee
       have H6 := hide h6.1
       clear h6
       go_wp2
       go_ret
       exact ⟨rfl, H6.out⟩
      ·have u3 : ((e5 : Int) != 0) = true := by simp; omega
       have u4 : (e5 != 0) = true := by simpa using hee
       rw [u4] at h6
       have H6 := hide h6.1
       have HU4 := hide u4
       clear h6 hee u4
       go_wp2
       go_ret
       first
       |exact ⟨rfl, H6.out⟩
       |(rw [HU4.out]; exact ⟨rfl, H6.out⟩)
     ·have u2 : ¬ (0 : Int) < J.waits.length := by omega
      rw [if_neg (fun h => hnz h.2)] at hR
      subst hR
      have h6 := HFIN.out wr F2 0 Dk HK.out.1 HK.out.2.1 HK.out.2.2
      have q6 := h6.2.cell 6
      have q7 := h6.2.cell 7
      have f6 := h6.2.frozen 6
      have f7 := h6.2.frozen 7
      simp only [List.getElem?_cons_succ, List.getElem?_cons_zero] at q6 q7
      have H6 := hide h6.1
      clear h6 hnz e6r e0r
      go_wp2
      go_ret
      exact ⟨rfl, H6.out⟩
    ·have u1 : ((ek : Int) == 0) = false := by simp; omega
     rw [if_neg (fun h => hek h.1)] at hR
     subst hR
     have h6 := HFIN.out wr F2 ek Dk HK.out.1 HK.out.2.1 HK.out.2.2
     have q6 := h6.2.cell 6
     have q7 := h6.2.cell 7
     have f6 := h6.2.frozen 6
     have f7 := h6.2.frozen 7
     simp only [List.getElem?_cons_succ, List.getElem?_cons_zero] at q6 q7
     have u3 : ((ek : Int) != 0) = true := by simp; omega
     have u4 : (ek != 0) = true := by simpa using hek
     rw [u4] at h6
     have H6 := hide h6.1
     have HU4 := hide u4
     clear h6 hek e6r e0r u4
     go_wp2
     go_ret
     first
     |exact ⟨rfl, H6.out⟩
     |(rw [HU4.out]; exact ⟨rfl, H6.out⟩)
end
end Go.Proofs.YteppdlkmjgladaaGreat
