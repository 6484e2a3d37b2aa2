/- One text of: Vme Vmf. -/
import Derived.Test.YtcahcjfgmdpdoaaGreatQVC
set_option maxHeartbeats 4000000
set_option maxRecDepth 100000
namespace Go.Proofs.YtcahcjfgmdpdoaaGreat
open Go.RowKit Go.Proofs Go.Maps
set_option linter.unusedVariables false
set_option linter.unusedSimpArgs false

theorem vcreate_calls (w : World) (no : List Nat) (b m1 m2 m3 : Nat) (S : Vst) (V : List VoM) (C : List CkM) (q : Cmd) (h : VM w no b m1 m2 m3 S V C) (hq : q.ok)
  (h1 : S.sv.length ≤ 1000) (h2 : S.cs.length ≤ 100000) (h3 : 1 ≤ S.nx) (h4 : S.nx ≤ 100000) (hvs : S.vs.length ≤ 100000) :
  Calls Tryz.prog 58 #[.pointer (some ⟨b, 0, none⟩), q.val] w fun e w' => Stp w w' no b m1 m2 m3 (S.create q) e := by
 have HN := hd5 h1 h2 h3 h4 hvs; clear h1 h2 h3 h4 hvs; obtain ⟨y, l1, _, hy, hs1⟩ := h.lookV hq.a; have HSA := hide hs1; have hqa := hide hq.a; obtain ⟨k0, a0, b0, c0, ⟨qr, qw, ql, qb⟩⟩ := q; simp only [] at l1 hy hqa; have HY := hide hy; obtain ⟨⟨id, bl, ⟨pr, pw, pl, pb⟩, ver, ch⟩, A, c⟩ := y; unfold VoM.val VoM.cells at l1; simp only [] at l1; obtain ⟨w0, hw0⟩ : ∃ w0, w.alloc (.cells #[.int .i64 k0, .int .i64 a0, .int .i64 b0, .int .i64 c0, .int .i64 qr, .int .i64 qw, .int .i64 ql, .int .i64 qb] 35) = w0 := ⟨_, rfl⟩
 have hb0 : Below w.heap.size w w0 := hw0 ▸ (Below.refl w.heap.size w).alloc (Nat.le_refl _) _
 have d1 : Blk w0 w.heap.size 35 [.int .i64 k0, .int .i64 a0, .int .i64 b0, .int .i64 c0, .int .i64 qr, .int .i64 qw, .int .i64 ql, .int .i64 qb] := hw0 ▸ Blk.new rfl
 have hs0 : Hid (w0.heap.size = w.heap.size + 1) := hide (by rw [← hw0]; simp); have HW0 := hide hw0
 have cm : ∀ w', Below w0.heap.size w0 w' → w'.cell? ⟨b, 1, none⟩ = some (.map (some m2)) := fun w' hb => h.blk.rule 1 _ rfl w' (hb0.trans (hb.mono hb0.size))
 have l2 := fun w' (hb : Below w0.heap.size w0 w') => l1 w' (hb0.trans (hb.mono hb0.size))
 have x1 : ∀ w', Below w0.heap.size w0 w' → w'.cell? ⟨w.heap.size, 1, none⟩ = some (.int .i64 a0) := d1.rule 1 _ rfl; have r0 := Below.refl w0.heap.size w0; have qY := (r0.alloc (Nat.le_refl _) (.cells #[.int .i64 id, .int .i64 bl, .int .i64 pr, .int .i64 pw, .int .i64 pl, .int .i64 pb, .int .i64 ver, .slice A ch.length c] 46)).drew; have E : Hid (Blk (w0.alloc (.cells #[.int .i64 id, .int .i64 bl, .int .i64 pr, .int .i64 pw, .int .i64 pl, .int .i64 pb, .int .i64 ver, .slice A ch.length c] 46)).drew w.heap.size 35 _ ∧ Blk (w0.alloc (.cells #[.int .i64 id, .int .i64 bl, .int .i64 pr, .int .i64 pw, .int .i64 pl, .int .i64 pb, .int .i64 ver, .slice A ch.length c] 46)).drew w0.heap.size 46 _) := hide ⟨d1.below qY, Blk.new (w := w0) (b := w0.heap.size) (cs := [.int .i64 id, .int .i64 bl, .int .i64 pr, .int .i64 pw, .int .i64 pl, .int .i64 pb, .int .i64 ver, .slice A ch.length c]) (t := 46) rfl⟩; have HB1 := hide (hb0.trans (qY.mono hb0.size)); have H := hide h; clear hy hs1 l1 d1 hq qY h hb0; unfold Cmd.val Cmd.cells; simp only []; obtain ⟨t, ht⟩ : ∃ t, (fd Vo.id S.vs a0).isSome = t := ⟨_, rfl⟩; rw [ht] at l2; have HT := hide ht; clear ht
 by_cases hall : (within a0 0 63 && within b0 1 512 && within c0 1 3 && right qr qw ql qb) = true
 ·simp only [Bool.and_eq_true] at hall
  obtain ⟨⟨⟨k1, k2⟩, k3⟩, k4⟩ := hall
  have HK : Hid (0 ≤ a0 ∧ a0 ≤ 63 ∧ 1 ≤ b0 ∧ b0 ≤ 512 ∧ 1 ≤ c0 ∧ c0 ≤ 3 ∧ (⟨qr, qw, ql, qb⟩ : Pol).ok = true) := hide (by
   simp only [within, decide_eq_true_eq] at k1 k2 k3
   exact ⟨k1.1, k1.2, k2.1, k2.2, k3.1, k3.2, k4⟩)
  cases t with
  |true =>
   have HE : Hid (S.create ⟨k0, a0, b0, c0, ⟨qr, qw, ql, qb⟩⟩ = (S, 8)) := hide (by
    unfold Vst.create; simp only []
    rw [if_pos HK.out, if_pos HT.out])
   go_enter Tryz.func58, Tryz.ntmps58
   go_wp2_with fail
   refine region_lx (fun w' => Below w0.heap.size w0 w') [] [2, 2, 2, 0, 2, 0, 0, 2, 2, 2, 1, 1, 2] (by (first | exact r0.drew | exact (r0.alloc (Nat.le_refl _) _).drew)) (fun hS0 => ?_)
   (iterate 10 (first | refine lxt ?_ | refine lxp ?_)); (iterate 2 ((refine lxe ?_; go_simp; refine lxB (by (first | exact r0.drew | exact (r0.alloc (Nat.le_refl _) _).drew)) (fun hS1 => ?_))))
   refine lxp ?_
   refine lxN ?_
   obtain ⟨w1, hw1⟩ : ∃ w1, (w0.alloc (.cells #[.int .i64 id, .int .i64 bl, .int .i64 pr, .int .i64 pw, .int .i64 pl, .int .i64 pb, .int .i64 ver, .slice A ch.length c] 46)).drew = w1 := ⟨_, rfl⟩; rw [hw1] at E HB1; rw [hw1]; have HW1 := hide hw1; clear hw1 hw0 hS0 hS1 cm l2 x1; have p1 := E.out.1.cell 1; have p2 := E.out.1.cell 2; have p3 := E.out.1.cell 3; have p4 := E.out.1.cell 4; have p5 := E.out.1.cell 5; have p6 := E.out.1.cell 6; have p7 := E.out.1.cell 7; simp only [List.getElem?_cons_succ, List.getElem?_cons_zero] at p1 p2 p3 p4 p5 p6 p7
   go_wp2_with (first | (go_at_call 106; with_reducible refine (vwithin_calls _ _ _ _).mono ?_; rintro e w' ⟨rfl, rfl⟩) | (go_at_call 105; with_reducible refine (right_calls _ _ _ _ _).mono ?_; rintro e w2 ⟨rfl, hb2⟩))
   go_ret; rw [HE.out]
   exact H.out.stay (HB1.out.trans (hb2.mono HB1.out.size)) rfl
  |false =>
   go_enter Tryz.func58, Tryz.ntmps58
   go_wp2_with fail
   refine region_lx (fun w' => Below w0.heap.size w0 w') [] [2, 2, 2, 0, 2, 0, 0, 2, 2, 2, 1, 1, 2] (by (first | exact r0.drew | exact (r0.alloc (Nat.le_refl _) _).drew)) (fun hS0 => ?_)
   (iterate 10 (first | refine lxt ?_ | refine lxp ?_)); (iterate 2 ((refine lxe ?_; go_simp; refine lxB (by (first | exact r0.drew | exact (r0.alloc (Nat.le_refl _) _).drew)) (fun hS1 => ?_))))
   refine lxp ?_
   refine lxN ?_
   obtain ⟨w1, hw1⟩ : ∃ w1, (w0.alloc (.cells #[.int .i64 id, .int .i64 bl, .int .i64 pr, .int .i64 pw, .int .i64 pl, .int .i64 pb, .int .i64 ver, .slice A ch.length c] 46)).drew = w1 := ⟨_, rfl⟩; rw [hw1] at E HB1; rw [hw1]; have HW1 := hide hw1; clear hw1 hw0 hS0 hS1 cm l2 x1; have p1 := E.out.1.cell 1; have p2 := E.out.1.cell 2; have p3 := E.out.1.cell 3; have p4 := E.out.1.cell 4; have p5 := E.out.1.cell 5; have p6 := E.out.1.cell 6; have p7 := E.out.1.cell 7; simp only [List.getElem?_cons_succ, List.getElem?_cons_zero] at p1 p2 p3 p4 p5 p6 p7
   go_wp2_with (first | (go_at_call 106; with_reducible refine (vwithin_calls _ _ _ _).mono ?_; rintro e w' ⟨rfl, rfl⟩) | fail)
   refine (right_calls _ _ _ _ _).mono ?_
   rintro e w2 ⟨rfl, hb2⟩; rw [k4]; have F1 := E.out.1.below hb2; have hB2 := HB1.out.trans (hb2.mono HB1.out.size); have vm2 := H.out.below hB2; have r2 := Below.refl w2.heap.size w2; have x1 : ∀ w', Below w2.heap.size w2 w' → w'.cell? ⟨w.heap.size, 1, none⟩ = some (.int .i64 a0) := F1.rule 1 _ rfl; have x2 : ∀ w', Below w2.heap.size w2 w' → w'.cell? ⟨w.heap.size, 2, none⟩ = some (.int .i64 b0) := F1.rule 2 _ rfl; have x3 : ∀ w', Below w2.heap.size w2 w' → w'.cell? ⟨w.heap.size, 3, none⟩ = some (.int .i64 c0) := F1.rule 3 _ rfl; have cm := vm2.blk.rule 0 _ rfl
   have hlen := fun w' (hb : Below w2.heap.size w2 w') => (vm2.t1.below hb).len (mt := 72) Tryz.underlying72 3
   have HB2 := hide (hB2.trans (r2.drew.mono hB2.size)); have HF := hide (F1.below r2.drew); have HV := hide (vm2.below r2.drew); clear F1 hB2 hb2 vm2 E p1 p2 p3 p4 p5 p6 p7; go_wp2_with fail
   refine region_lx (fun w' => Below w2.heap.size w2 w') [] [2, 2, 2, 0, 0, 2, 0, 2, 2] (by (exact r2.drew)) (fun hS0 => ?_)
   (iterate 9 (first | refine lxt ?_ | refine lxp ?_))
   refine lxN ?_
   have hnis : fd Vo.id S.vs a0 = none := by
    have := HT.out
    rwa [Option.isSome_eq_false_iff, Option.isNone_iff_eq_none] at this
   have HNI := hide hnis; clear hnis; have y1 : w2.drew.cell? ⟨w.heap.size, 1, none⟩ = some (.int .i64 a0) := HF.out.cell 1; have y2 : w2.drew.cell? ⟨w.heap.size, 2, none⟩ = some (.int .i64 b0) := HF.out.cell 2; have y3 : w2.drew.cell? ⟨w.heap.size, 3, none⟩ = some (.int .i64 c0) := HF.out.cell 3; have y4 : w2.drew.cell? ⟨w.heap.size, 4, none⟩ = some (.int .i64 qr) := HF.out.cell 4; have y5 : w2.drew.cell? ⟨w.heap.size, 5, none⟩ = some (.int .i64 qw) := HF.out.cell 5; have y6 : w2.drew.cell? ⟨w.heap.size, 6, none⟩ = some (.int .i64 ql) := HF.out.cell 6; have y7 : w2.drew.cell? ⟨w.heap.size, 7, none⟩ = some (.int .i64 qb) := HF.out.cell 7
   by_cases hlt : (S.sv.length : Int) < c0
   ·have HE : Hid (S.create ⟨k0, a0, b0, c0, ⟨qr, qw, ql, qb⟩⟩ = (S, 7)) := hide (by
     unfold Vst.create; simp only []
     rw [if_pos HK.out, if_neg (by simp [HNI.out]), if_pos hlt])
    go_wp2; go_ret; rw [HE.out]
    exact H.out.stay HB2.out rfl
   ·have HE : Hid (S.create ⟨k0, a0, b0, c0, ⟨qr, qw, ql, qb⟩⟩ = (S.grow ⟨a0, b0, ⟨qr, qw, ql, qb⟩, 1, []⟩ c0, 0)) := hide (by
     unfold Vst.create; simp only []
     rw [if_pos HK.out, if_neg (by simp [HNI.out]), if_neg hlt])
    have hcn : ((c0.toNat : Nat) : Int) = c0 := by have := HK.out; omega
    have HG := hide (vgrow_calls w2.drew no b m1 m2 m3 S V C ⟨a0, b0, ⟨qr, qw, ql, qb⟩, 1, []⟩ none 0 c0.toNat HV.out (Sl.nil _ _ _) HN.out.1 HN.out.2.1 HN.out.2.2.1 HN.out.2.2.2.1 HK.out.2.2.1 HK.out.2.2.2.1 (by simp) (by have := HK.out; omega) hqa.out HN.out.2.2.2.2); rw [hcn] at HG; have HG2 : Hid (Calls Tryz.prog 107 #[.pointer (some ⟨b, 0, none⟩), .agg #[.int .i64 a0, .int .i64 b0, .int .i64 qr, .int .i64 qw, .int .i64 ql, .int .i64 qb, .int .i64 1, .slice none 0 0], .int .i64 c0] w2.drew fun e w' => e = .returned (.tuple #[]) ∧ Chg [b, m2, m3] w2.drew w' ∧ ∃ V' C', VM w' no b m1 m2 m3 (S.grow ⟨a0, b0, ⟨qr, qw, ql, qb⟩, 1, []⟩ c0) V' C') := HG; clear hcn HG; go_wp2_with fail; refine HG2.out.mono ?_; rintro e w5 ⟨rfl, hc5, V5, C5, hv5⟩; have HR := hd2 hc5 hv5; clear hc5 hv5; go_wp2; go_ret; rw [HE.out]
    exact ⟨rfl, (Chg.of_below (L := [b, m1, m2, m3]) HB2.out).trans HR.out.1 (fun x hx => Or.inl (by simp at hx ⊢; rcases hx with h | h | h <;> simp [h])), V5, C5, HR.out.2⟩
 ·have HE : Hid (S.create ⟨k0, a0, b0, c0, ⟨qr, qw, ql, qb⟩⟩ = (S, 1)) := hide (by
   unfold Vst.create; simp only []
   refine if_neg (fun hh => hall ?_)
   obtain ⟨u1, u2, u3, u4, u5, u6, u7⟩ := hh; have u7' : right qr qw ql qb = true := u7; simp only [within, u7', Bool.and_eq_true, decide_eq_true_eq, and_true]
   exact ⟨⟨⟨u1, u2⟩, u3, u4⟩, u5, u6⟩)
  cases k1 : within a0 0 63 with
  |false =>
   clear hall
   go_enter Tryz.func58, Tryz.ntmps58
   go_wp2_with fail
   refine region_lx (fun w' => Below w0.heap.size w0 w') [] [2, 2, 2, 0, 2, 0, 0, 2, 2, 2, 1, 1, 2] (by (first | exact r0.drew | exact (r0.alloc (Nat.le_refl _) _).drew)) (fun hS0 => ?_)
   (iterate 10 (first | refine lxt ?_ | refine lxp ?_)); (iterate 2 ((refine lxe ?_; go_simp; refine lxB (by (first | exact r0.drew | exact (r0.alloc (Nat.le_refl _) _).drew)) (fun hS1 => ?_))))
   refine lxp ?_
   refine lxN ?_
   obtain ⟨w1, hw1⟩ : ∃ w1, (w0.alloc (.cells #[.int .i64 id, .int .i64 bl, .int .i64 pr, .int .i64 pw, .int .i64 pl, .int .i64 pb, .int .i64 ver, .slice A ch.length c] 46)).drew = w1 := ⟨_, rfl⟩; rw [hw1] at E HB1; rw [hw1]; have HW1 := hide hw1; clear hw1 hw0 hS0 hS1 cm l2 x1; have p1 := E.out.1.cell 1; have p2 := E.out.1.cell 2; have p3 := E.out.1.cell 3; have p4 := E.out.1.cell 4; have p5 := E.out.1.cell 5; have p6 := E.out.1.cell 6; have p7 := E.out.1.cell 7; simp only [List.getElem?_cons_succ, List.getElem?_cons_zero] at p1 p2 p3 p4 p5 p6 p7
   go_wp2_with (first | (go_at_call 106; with_reducible refine (vwithin_calls _ _ _ _).mono ?_; rintro e w' ⟨rfl, rfl⟩) | (go_at_call 105; with_reducible refine (right_calls _ _ _ _ _).mono ?_; rintro e w2 ⟨rfl, hb2⟩))
   go_ret; rw [HE.out]
   exact H.out.stay HB1.out rfl
  |true =>
   cases k2 : within b0 1 512 with
   |false =>
    clear hall
    go_enter Tryz.func58, Tryz.ntmps58
    go_wp2_with fail
    refine region_lx (fun w' => Below w0.heap.size w0 w') [] [2, 2, 2, 0, 2, 0, 0, 2, 2, 2, 1, 1, 2] (by (first | exact r0.drew | exact (r0.alloc (Nat.le_refl _) _).drew)) (fun hS0 => ?_)
    (iterate 10 (first | refine lxt ?_ | refine lxp ?_)); (iterate 2 ((refine lxe ?_; go_simp; refine lxB (by (first | exact r0.drew | exact (r0.alloc (Nat.le_refl _) _).drew)) (fun hS1 => ?_))))
    refine lxp ?_
    refine lxN ?_
    obtain ⟨w1, hw1⟩ : ∃ w1, (w0.alloc (.cells #[.int .i64 id, .int .i64 bl, .int .i64 pr, .int .i64 pw, .int .i64 pl, .int .i64 pb, .int .i64 ver, .slice A ch.length c] 46)).drew = w1 := ⟨_, rfl⟩; rw [hw1] at E HB1; rw [hw1]; have HW1 := hide hw1; clear hw1 hw0 hS0 hS1 cm l2 x1; have p1 := E.out.1.cell 1; have p2 := E.out.1.cell 2; have p3 := E.out.1.cell 3; have p4 := E.out.1.cell 4; have p5 := E.out.1.cell 5; have p6 := E.out.1.cell 6; have p7 := E.out.1.cell 7; simp only [List.getElem?_cons_succ, List.getElem?_cons_zero] at p1 p2 p3 p4 p5 p6 p7
    go_wp2_with (first | (go_at_call 106; with_reducible refine (vwithin_calls _ _ _ _).mono ?_; rintro e w' ⟨rfl, rfl⟩) | (go_at_call 105; with_reducible refine (right_calls _ _ _ _ _).mono ?_; rintro e w2 ⟨rfl, hb2⟩))
    go_ret; rw [HE.out]
    exact H.out.stay HB1.out rfl
   |true =>
    cases k3 : within c0 1 3 with
    |false =>
     clear hall
     go_enter Tryz.func58, Tryz.ntmps58
     go_wp2_with fail
     refine region_lx (fun w' => Below w0.heap.size w0 w') [] [2, 2, 2, 0, 2, 0, 0, 2, 2, 2, 1, 1, 2] (by (first | exact r0.drew | exact (r0.alloc (Nat.le_refl _) _).drew)) (fun hS0 => ?_)
     (iterate 10 (first | refine lxt ?_ | refine lxp ?_)); (iterate 2 ((refine lxe ?_; go_simp; refine lxB (by (first | exact r0.drew | exact (r0.alloc (Nat.le_refl _) _).drew)) (fun hS1 => ?_))))
     refine lxp ?_
     refine lxN ?_
     obtain ⟨w1, hw1⟩ : ∃ w1, (w0.alloc (.cells #[.int .i64 id, .int .i64 bl, .int .i64 pr, .int .i64 pw, .int .i64 pl, .int .i64 pb, .int .i64 ver, .slice A ch.length c] 46)).drew = w1 := ⟨_, rfl⟩; rw [hw1] at E HB1; rw [hw1]; have HW1 := hide hw1; clear hw1 hw0 hS0 hS1 cm l2 x1; have p1 := E.out.1.cell 1; have p2 := E.out.1.cell 2; have p3 := E.out.1.cell 3; have p4 := E.out.1.cell 4; have p5 := E.out.1.cell 5; have p6 := E.out.1.cell 6; have p7 := E.out.1.cell 7; simp only [List.getElem?_cons_succ, List.getElem?_cons_zero] at p1 p2 p3 p4 p5 p6 p7
     go_wp2_with (first | (go_at_call 106; with_reducible refine (vwithin_calls _ _ _ _).mono ?_; rintro e w' ⟨rfl, rfl⟩) | (go_at_call 105; with_reducible refine (right_calls _ _ _ _ _).mono ?_; rintro e w2 ⟨rfl, hb2⟩))
     go_ret; rw [HE.out]
     exact H.out.stay HB1.out rfl
    |true =>
     have k4 : right qr qw ql qb = false := by simpa [k1, k2, k3] using hall
     clear hall
     go_enter Tryz.func58, Tryz.ntmps58
     go_wp2_with fail
     refine region_lx (fun w' => Below w0.heap.size w0 w') [] [2, 2, 2, 0, 2, 0, 0, 2, 2, 2, 1, 1, 2] (by (first | exact r0.drew | exact (r0.alloc (Nat.le_refl _) _).drew)) (fun hS0 => ?_)
     (iterate 10 (first | refine lxt ?_ | refine lxp ?_)); (iterate 2 ((refine lxe ?_; go_simp; refine lxB (by (first | exact r0.drew | exact (r0.alloc (Nat.le_refl _) _).drew)) (fun hS1 => ?_))))
     refine lxp ?_
     refine lxN ?_
     obtain ⟨w1, hw1⟩ : ∃ w1, (w0.alloc (.cells #[.int .i64 id, .int .i64 bl, .int .i64 pr, .int .i64 pw, .int .i64 pl, .int .i64 pb, .int .i64 ver, .slice A ch.length c] 46)).drew = w1 := ⟨_, rfl⟩; rw [hw1] at E HB1; rw [hw1]; have HW1 := hide hw1; clear hw1 hw0 hS0 hS1 cm l2 x1; have p1 := E.out.1.cell 1; have p2 := E.out.1.cell 2; have p3 := E.out.1.cell 3; have p4 := E.out.1.cell 4; have p5 := E.out.1.cell 5; have p6 := E.out.1.cell 6; have p7 := E.out.1.cell 7; simp only [List.getElem?_cons_succ, List.getElem?_cons_zero] at p1 p2 p3 p4 p5 p6 p7
     go_wp2_with (first | (go_at_call 106; with_reducible refine (vwithin_calls _ _ _ _).mono ?_; rintro e w' ⟨rfl, rfl⟩) | (go_at_call 105; with_reducible refine (right_calls _ _ _ _ _).mono ?_; rintro e w2 ⟨rfl, hb2⟩))
     go_ret; rw [HE.out]
     exact H.out.stay (HB1.out.trans (hb2.mono HB1.out.size)) rfl
theorem run_members (a b c d e : Value) (w : World) : (Instr.field 90 (.agg #[a, b, c, d, e]) 3).run Tryz.prog w = .ok d w := by
 simp [Instr.field, part, asAgg, go_sem, Tryz.underlying90, Tryz.isAgg28]
theorem outs_le (cs : List Ck) (ks : List Int) : (outs cs ks).length ≤ cs.length := by
 induction ks generalizing cs with
 |nil => exact Nat.le_refl _
 |cons k t ih => exact Nat.le_trans (ih _) (List.length_filter_le _ _)
section
variable {w : World} {no : List Nat} {A A2 : Option Addr} {c k : Nat} {l : List Int}
theorem Sl.take (h : Sl w no A c l) (hk : k ≤ l.length) : Sl w no A c (l.take k) := by
 have e : (l.take k).length = k := by rw [List.length_take]; omega
 refine ⟨by have := h.le; omega, by have := h.ln; omega, ?_, h.ap⟩
 have := h.rd.take hk; rw [e]
 simpa using this
theorem Sl.drop (h : Sl w no A c l) (hk : k ≤ l.length) (hA : (if c = k then A else A.map (·.add (k * 1))) = A2) : Sl w no A2 (c - k) (l.drop k) := by
 have e : (l.drop k).length = l.length - k := by rw [List.length_drop]
 refine ⟨by have := h.le; omega, by have := h.ln; omega, ?_, fun a ha => ?_⟩
 ·have := h.rd.cut hk h.le
  rw [hA] at this; rw [e]
  simpa using this
 ·rw [← hA] at ha
  split at ha
  ·exact h.ap a ha
  ·cases A with
   |none => cases ha
   |some x =>
    have hx := h.ap x rfl; obtain ⟨xb, xo, xs⟩ := x; simp only [] at hx; obtain ⟨rfl, h1, h2⟩ := hx; rw [Option.map_some, add_addr] at ha
    cases ha
    exact ⟨rfl, h1, h2⟩
end
theorem take_min (n : Nat) (l : List Int) : l.take (min n l.length) = l.take n := by
 rcases Nat.le_total n l.length with h | h
 ·rw [Nat.min_eq_left h]
 ·rw [Nat.min_eq_right h, List.take_length, List.take_of_length_le h]
theorem drop_min (n : Nat) (l : List Int) : l.drop (min n l.length) = l.drop n := by
 rcases Nat.le_total n l.length with h | h
 ·rw [Nat.min_eq_left h]
 ·rw [Nat.min_eq_right h, List.drop_length, List.drop_of_length_le h]
theorem vresize_calls (w : World) (no : List Nat) (b m1 m2 m3 : Nat) (S : Vst) (V : List VoM) (C : List CkM) (q : Cmd) (h : VM w no b m1 m2 m3 S V C) (hq : q.ok)
  (h1 : S.sv.length ≤ 1000) (h2 : S.cs.length ≤ 100000) (h3 : 1 ≤ S.nx) (h4 : S.nx ≤ 100000) (hvs : S.vs.length ≤ 100000) (hch : ∀ v ∈ S.vs, v.ch ≠ [] ∧ ∀ k ∈ v.ch, i64ok k) (hme : ∀ c ∈ S.cs, c.me.length ≤ 100) :
  Calls Tryz.prog 60 #[.pointer (some ⟨b, 0, none⟩), q.val] w fun e w' => Stp w w' no b m1 m2 m3 (S.resize q) e := by
 have HN := hd5 h1 h2 h3 h4 hvs; have HCH := hide hch; have HME := hide hme; clear h1 h2 h3 h4 hvs hch hme; obtain ⟨y, l1, _, hy, hs1⟩ := h.lookV hq.a; have HSA := hide hs1; have hqa := hide hq.a; obtain ⟨k0, a0, b0, c0, ⟨qr, qw, ql, qb⟩⟩ := q; simp only [] at l1 hy hqa; have HY := hide hy; obtain ⟨⟨id, bl, ⟨pr, pw, pl, pb⟩, ver, ch⟩, A, c⟩ := y; unfold VoM.val VoM.cells at l1; simp only [] at l1; obtain ⟨w0, hw0⟩ : ∃ w0, w.alloc (.cells #[.int .i64 k0, .int .i64 a0, .int .i64 b0, .int .i64 c0, .int .i64 qr, .int .i64 qw, .int .i64 ql, .int .i64 qb] 35) = w0 := ⟨_, rfl⟩
 have hb0 : Below w.heap.size w w0 := hw0 ▸ (Below.refl w.heap.size w).alloc (Nat.le_refl _) _
 have d1 : Blk w0 w.heap.size 35 [.int .i64 k0, .int .i64 a0, .int .i64 b0, .int .i64 c0, .int .i64 qr, .int .i64 qw, .int .i64 ql, .int .i64 qb] := hw0 ▸ Blk.new rfl
 have hs0 : Hid (w0.heap.size = w.heap.size + 1) := hide (by rw [← hw0]; simp); have HW0 := hide hw0
 have cm : ∀ w', Below w0.heap.size w0 w' → w'.cell? ⟨b, 1, none⟩ = some (.map (some m2)) := fun w' hb => h.blk.rule 1 _ rfl w' (hb0.trans (hb.mono hb0.size))
 have l2 := fun w' (hb : Below w0.heap.size w0 w') => l1 w' (hb0.trans (hb.mono hb0.size))
 have x1 : ∀ w', Below w0.heap.size w0 w' → w'.cell? ⟨w.heap.size, 1, none⟩ = some (.int .i64 a0) := d1.rule 1 _ rfl; have r0 := Below.refl w0.heap.size w0; have qY := (r0.alloc (Nat.le_refl _) (.cells #[.int .i64 id, .int .i64 bl, .int .i64 pr, .int .i64 pw, .int .i64 pl, .int .i64 pb, .int .i64 ver, .slice A ch.length c] 46)).drew; have E : Hid (Blk (w0.alloc (.cells #[.int .i64 id, .int .i64 bl, .int .i64 pr, .int .i64 pw, .int .i64 pl, .int .i64 pb, .int .i64 ver, .slice A ch.length c] 46)).drew w.heap.size 35 _ ∧ Blk (w0.alloc (.cells #[.int .i64 id, .int .i64 bl, .int .i64 pr, .int .i64 pw, .int .i64 pl, .int .i64 pb, .int .i64 ver, .slice A ch.length c] 46)).drew w0.heap.size 46 _) := hide ⟨d1.below qY, Blk.new (w := w0) (b := w0.heap.size) (cs := [.int .i64 id, .int .i64 bl, .int .i64 pr, .int .i64 pw, .int .i64 pl, .int .i64 pb, .int .i64 ver, .slice A ch.length c]) (t := 46) rfl⟩; have HB1 := hide (hb0.trans (qY.mono hb0.size)); have H := hide h; clear hy hs1 l1 d1 hq qY h hb0; unfold Cmd.val Cmd.cells; simp only []; obtain ⟨t, ht⟩ : ∃ t, (fd Vo.id S.vs a0).isSome = t := ⟨_, rfl⟩; rw [ht] at l2; have HT := hide ht; clear ht
 cases k1 : within b0 1 512 with
 |false =>
  have HE : Hid (S.resize ⟨k0, a0, b0, c0, ⟨qr, qw, ql, qb⟩⟩ = (S, 1)) := hide (by
   unfold Vst.resize; simp only [within, decide_eq_false_iff_not] at k1
   exact if_neg k1)
  go_enter Tryz.func60, Tryz.ntmps60
  go_wp2_with fail
  refine region_lx (fun w' => Below w0.heap.size w0 w') [] [2, 2, 2, 0, 2, 0, 0, 2, 2, 2, 1, 1, 2] (by (first | exact r0.drew | exact (r0.alloc (Nat.le_refl _) _).drew)) (fun hS0 => ?_)
  (iterate 10 (first | refine lxt ?_ | refine lxp ?_)); (iterate 2 ((refine lxe ?_; go_simp; refine lxB (by (first | exact r0.drew | exact (r0.alloc (Nat.le_refl _) _).drew)) (fun hS1 => ?_))))
  refine lxp ?_
  refine lxN ?_
  obtain ⟨w1, hw1⟩ : ∃ w1, (w0.alloc (.cells #[.int .i64 id, .int .i64 bl, .int .i64 pr, .int .i64 pw, .int .i64 pl, .int .i64 pb, .int .i64 ver, .slice A ch.length c] 46)).drew = w1 := ⟨_, rfl⟩; rw [hw1] at E HB1; rw [hw1]; have HW1 := hide hw1; clear hw1 hw0 hS0 hS1 cm l2 x1; have p2 := E.out.1.cell 2; simp only [List.getElem?_cons_succ, List.getElem?_cons_zero] at p2
  go_wp2_with (go_at_call 106; with_reducible refine (vwithin_calls _ _ _ _).mono ?_; rintro e w' ⟨rfl, rfl⟩)
  go_ret; rw [HE.out]
  exact H.out.stay HB1.out rfl
 |true =>
  have hb1 : 1 ≤ b0 ∧ b0 ≤ 512 := by simpa [within] using k1
  cases t with
  |false =>
   have HE : Hid (S.resize ⟨k0, a0, b0, c0, ⟨qr, qw, ql, qb⟩⟩ = (S, 7)) := hide (by
    unfold Vst.resize; have := HT.out; rw [Option.isSome_eq_false_iff, Option.isNone_iff_eq_none] at this; simp only []
    rw [if_pos hb1, this])
   clear hb1
   go_enter Tryz.func60, Tryz.ntmps60
   go_wp2_with fail
   refine region_lx (fun w' => Below w0.heap.size w0 w') [] [2, 2, 2, 0, 2, 0, 0, 2, 2, 2, 1, 1, 2] (by (first | exact r0.drew | exact (r0.alloc (Nat.le_refl _) _).drew)) (fun hS0 => ?_)
   (iterate 10 (first | refine lxt ?_ | refine lxp ?_)); (iterate 2 ((refine lxe ?_; go_simp; refine lxB (by (first | exact r0.drew | exact (r0.alloc (Nat.le_refl _) _).drew)) (fun hS1 => ?_))))
   refine lxp ?_
   refine lxN ?_
   obtain ⟨w1, hw1⟩ : ∃ w1, (w0.alloc (.cells #[.int .i64 id, .int .i64 bl, .int .i64 pr, .int .i64 pw, .int .i64 pl, .int .i64 pb, .int .i64 ver, .slice A ch.length c] 46)).drew = w1 := ⟨_, rfl⟩; rw [hw1] at E HB1; rw [hw1]; have HW1 := hide hw1; clear hw1 hw0 hS0 hS1 cm l2 x1; have p2 := E.out.1.cell 2; simp only [List.getElem?_cons_succ, List.getElem?_cons_zero] at p2
   go_wp2_with (go_at_call 106; with_reducible refine (vwithin_calls _ _ _ _).mono ?_; rintro e w' ⟨rfl, rfl⟩)
   go_ret; rw [HE.out]
   exact H.out.stay HB1.out rfl
  |true =>
   have hyy : fd Vo.id S.vs a0 = some ⟨id, bl, ⟨pr, pw, pl, pb⟩, ver, ch⟩ := by
    rcases HY.out with ⟨_, e⟩ | ⟨_, e, _⟩
    ·exact e
    ·have := HT.out
     rw [e] at this
     cases this
   have HCK := hide (HCH.out _ (fd_some hyy).1); have HID := hide (show id = a0 from (fd_some hyy).2); obtain ⟨ka, hka⟩ : ∃ ka, ((b0 + 7) / 8).toNat = ka := ⟨_, rfl⟩
   have HE : Hid (S.resize ⟨k0, a0, b0, c0, ⟨qr, qw, ql, qb⟩⟩ = ({ S with cs := outs S.cs (ch.drop ka) }.grow ⟨id, b0, ⟨pr, pw, pl, pb⟩, ver, ch.take ka⟩ (copiesOf S.cs ch), 0)) := hide (by
    unfold Vst.resize; simp only []; rw [if_pos hb1, hyy]; simp only []
    rw [hka])
   have HKA := hide hka; clear hyy hka
   go_enter Tryz.func60, Tryz.ntmps60
   go_wp2_with fail
   refine region_lx (fun w' => Below w0.heap.size w0 w') [] [2, 2, 2, 0, 2, 0, 0, 2, 2, 2, 1, 1, 2] (by (first | exact r0.drew | exact (r0.alloc (Nat.le_refl _) _).drew)) (fun hS0 => ?_)
   (iterate 10 (first | refine lxt ?_ | refine lxp ?_)); (iterate 2 ((refine lxe ?_; go_simp; refine lxB (by (first | exact r0.drew | exact (r0.alloc (Nat.le_refl _) _).drew)) (fun hS1 => ?_))))
   refine lxp ?_
   refine lxN ?_
   obtain ⟨w1, hw1⟩ : ∃ w1, (w0.alloc (.cells #[.int .i64 id, .int .i64 bl, .int .i64 pr, .int .i64 pw, .int .i64 pl, .int .i64 pb, .int .i64 ver, .slice A ch.length c] 46)).drew = w1 := ⟨_, rfl⟩; rw [hw1] at E HB1; rw [hw1]; have HW1 := hide hw1; clear hw1 hw0 hS0 hS1 cm l2 x1; have p2 := E.out.1.cell 2; simp only [List.getElem?_cons_succ, List.getElem?_cons_zero] at p2
   go_wp2_with (first | (go_at_call 106; with_reducible refine (vwithin_calls _ _ _ _).mono ?_; rintro e w' ⟨rfl, rfl⟩) | fail)
   have hln : 0 < ch.length := by
    exact List.length_pos_iff.2 HCK.out.1
   have HSL := hide (HSA.out.below HB1.out); obtain ⟨bA, oA, eA, hbA, hcell⟩ := HSL.out.rd.2 hln; have vm1 := H.out.below HB1.out; have hk0 : i64ok ch[0] := HCK.out.2 _ (List.getElem_mem _); obtain ⟨y2, _, lk, hy2, _, _⟩ := vm1.lookC hk0
   have HCP : Hid (copiesOf S.cs ch = (y2.k.me.length : Nat) ∧ y2.k.me.length ≤ 100) := hide (by
    cases hc : ch with
    |nil => rw [hc] at hln; simp at hln
    |cons x t =>
     simp only [hc, List.getElem_cons_zero] at hy2; unfold copiesOf; simp only []
     rcases hy2 with ⟨_, e⟩ | ⟨_, e, e2⟩
     ·rw [e]
      exact ⟨rfl, HME.out _ (fd_some e).1⟩
     ·rw [e, e2]
      exact ⟨rfl, Nat.zero_le _⟩)
   obtain ⟨⟨id2, vol2, ep2, me2, jo2⟩, A2, c2, B2, d2⟩ := y2; obtain ⟨x, hx⟩ : ∃ x, ch[0] = x := ⟨_, rfl⟩; simp only [CkM.val, CkM.cells] at lk HCP; rw [hx] at lk; have r1 := Below.refl w1.heap.size w1
   have g0 : ∀ w', Below w1.heap.size w1 w' → w'.cell? ⟨bA, oA, none⟩ = some (.int .i64 x) := fun w' hb => (hb.cell (p := ⟨bA, oA, none⟩) hbA).trans (by have := hcell 0 (.int .i64 ch[0]) (by simp [hln]); rw [hx] at this; exact this)
   have cm := vm1.blk.rule 2 _ rfl; have v7 : ∀ w', Below w1.heap.size w1 w' → w'.cell? ⟨w0.heap.size, 7, none⟩ = some (.slice A ch.length c) := E.out.2.rule 7 _ rfl; have HB2 := hide (HB1.out.trans (r1.drew.mono HB1.out.size)); have HV := hide (vm1.below r1.drew); have HSD := hide (HSL.out.below r1.drew); have HQ := hide (E.out.1.below r1.drew); have HVB := hide (E.out.2.below r1.drew); subst eA; have HX := hide hx
   have i0 : (0 : Int) < ch.length := by omega
   have hfld := run_members; clear vm1 hy2 hk0 hcell hx hbA E HSL
   refine region_lx (fun w' => Below w1.heap.size w1 w') [] [2, 2, 2, 0, 2, 0, 2, 0, 0, 2, 2, 2] (by (exact r1.drew)) (fun hS0 => ?_)
   (iterate 12 (first | refine lxt ?_ | refine lxp ?_))
   refine lxN ?_
   clear hS0 hfld lk g0 cm v7 r1 p2 i0; have v1' : w1.drew.cell? ⟨w0.heap.size, 1, none⟩ = some (.int .i64 bl) := HVB.out.cell 1; have z1' : w1.drew.frozen? ⟨w0.heap.size, 1, none⟩ = false := HVB.out.frozen 1; have p2 : w1.drew.cell? ⟨w.heap.size, 2, none⟩ = some (.int .i64 b0) := HQ.out.cell 2
   have hne : w.heap.size ≠ w0.heap.size := by rw [hs0.out]; omega
   have hc2 : Chg [w0.heap.size] w1.drew (w1.drew.setCell ⟨w0.heap.size, 1, none⟩ (.int .i64 b0)) := (Chg.refl _ _).setCell (Or.inl (by simp)) _
   have hwB : w.heap.size ≤ w0.heap.size := by rw [hs0.out]; omega
   have HB3 := hide (Chg.onto HB2.out HB2.out.size hc2 (fun x hx => by rw [List.mem_singleton.1 hx]; exact hwB)); have HVB3 := hide (HVB.out.set 1 (.int .i64 b0)); have HQ3 := hide (HQ.out.chg hc2 (by simpa using hne)); have HC2 := hide hc2; clear hc2; obtain ⟨w2, hw2⟩ : ∃ w2, w1.drew.setCell ⟨w0.heap.size, 1, none⟩ (.int .i64 b0) = w2 := ⟨_, rfl⟩; rw [hw2] at HB3 HVB3 HQ3 HC2; simp only [List.set_cons_zero, List.set_cons_succ] at HVB3; have hw02 : w0.heap.size < w2.heap.size := HVB3.out.lt; have HV3 := hide (H.out.grow (L := []) (Chg.of_below HB3.out) (fun x hx => by cases hx) (G := [w0.heap.size]) (fun g hg => by rw [List.mem_singleton.1 hg]; exact ⟨Or.inr hwB, hw02⟩)); have HS3 := hide (HSA.out.below HB3.out)
   have HST := hide ((HSA.out.plus (no' := [w0.heap.size] ++ no) (fun x hx => by
    rcases List.mem_append.1 hx with hx | hx
    ·rw [List.mem_singleton.1 hx]; exact Or.inr hwB
    ·exact Or.inl hx)).below HB3.out)
   have HW2 := hide hw2; have p2' : w2.cell? ⟨w.heap.size, 2, none⟩ = some (.int .i64 b0) := HQ3.out.cell 2; have v7' : w2.cell? ⟨w0.heap.size, 7, none⟩ = some (.slice (some ⟨bA, oA, none⟩) ch.length c) := HVB3.out.cell 7; obtain ⟨km, hkm⟩ : ∃ km, min ka ch.length = km := ⟨_, rfl⟩
   have hkl : km ≤ ch.length := by omega
   have hq8 : (b0 + 8 - 1) / 8 = (ka : Int) := by have := HKA.out; omega
   have hmin : (if (ch.length : Int) < ka then (ch.length : Int) else ka) = (km : Int) := by split <;> omega
   have hmin2 : min (ka : Int) (ch.length : Int) = (km : Int) := by omega
   have hle := HSA.out.le; obtain ⟨A3, hA3⟩ : ∃ A3, (if c = km then some (⟨bA, oA, none⟩ : Addr) else (some (⟨bA, oA, none⟩ : Addr)).map (·.add (km * 1))) = A3 := ⟨_, rfl⟩; have hsl := run_cut (P := Tryz.prog) (t := 28) Tryz.underlying28 (fun _ => by kernel_rfl) hkl hA3; have HDR := hide (HS3.out.drop hkl hA3); have HTK := hide (HST.out.take hkl); have HDE : Hid (ch.drop km = ch.drop ka ∧ ch.take km = ch.take ka) := hide ⟨by rw [← hkm]; exact drop_min _ _, by rw [← hkm]; exact take_min _ _⟩; have HKM := hide hkm
   have i1 : (0 : Int) ≤ b0 + 8 - 1 := by omega
   have HNE := hide hne; have HWB := hide hwB; obtain ⟨dr, hdr⟩ : ∃ dr, ch.drop km = dr := ⟨_, rfl⟩
   have hdl : dr.length = ch.length - km := by rw [← hdr, List.length_drop]
   rw [← hdl] at hsl; rw [hdr] at HDR HDE
   have hdi : ∀ k ∈ dr, i64ok k := fun k hk => HCK.out.2 k (by rw [← hdr] at hk; exact List.mem_of_mem_drop hk)
   have HDI := hide hdi; have hdn := HDR.out.ln; have HHD := hd2 hdr hdl; clear hkm hA3 hne hwB hdi hdr hdl; go_wp2_with fail; have hm3 : m3 < w.heap.size := H.out.lt _ H.out.i3
   go_loopw [10, 57, 58, 59, 60, 61, 62, 63, 64, 65, 66] (fun _ i _ _ _ _ _ _ _ _ _ wr => ∃ k : Nat, k ≤ dr.length ∧ i = .int .i64 k ∧ Dels w2 ([w0.heap.size] ++ no) b m1 m2 m3 S V dr wr k) (fun _ i _ _ _ _ _ _ _ _ _ _ => dr.length - (intOf i).toNat)
   case atStart => exact ⟨0, Nat.zero_le _, rfl, Chg.refl _ _, C, by simpa [outs] using HV3.out⟩
   case round =>
    obtain ⟨k, hk, rfl, hchg, C', hvm⟩ := hrel; have HVM := hide hvm; have HCG := hide hchg; clear hvm hchg hsl hmin hmin2 hq8 hkl
    by_cases hlt : k < dr.length
    ·obtain ⟨bB, oB, eB, hbB, hcell⟩ := HDR.out.rd.2 (by omega)
     have hnA := (HDR.out.ap _ eB).2.1
     have hne3 : bB ≠ m3 := fun e => hnA (by simpa [e] using H.out.i3)
     have g0 : wr.cell? ⟨bB, oB + k, none⟩ = some (.int .i64 dr[k]) := (HCG.out.cell (p := ⟨bB, oB + k, none⟩) hbB (by simpa using hne3)).trans (hcell k _ (by simp [hlt]))
     have i2 : (k : Int) < dr.length := by omega
     have c2' : wr.cell? ⟨b, 2, none⟩ = some (.map (some m3)) := HVM.out.blk.cell 2; have hek : i64ok dr[k] := HDI.out _ (List.getElem_mem _); have hout := outs_take S.cs dr k hlt; obtain ⟨z, hz⟩ : ∃ z, dr[k] = z := ⟨_, rfl⟩; rw [hz] at g0 hek hout; have HOUT := hide hout; have HEK := hide hek; have HEB := hide eB; subst eB; clear hcell hnA hbB hz hek hout hne3
     go_wp2_with (at_delete; refine Tab.wpl_del rfl _ _ rfl Tryz.underlying74 rfl rfl HVM.out.t3 HEK.out ?_)
     intro w4 ht4 hch4
     have HD : Hid (Dels w2 ([w0.heap.size] ++ no) b m1 m2 m3 S V dr w4 (k + 1)) := hide ⟨HCG.out.trans hch4 (by simp), _, by
      have := HVM.out.outC ht4 hch4; simp only [] at this; rw [← HOUT.out] at this
      exact this⟩
     clear ht4 hch4 g0 c2'; go_wp2
     go_roundw
     case rel => exact ⟨k + 1, by omega, by go_num, HD.out⟩
     case measure => simp [intOf]; omega
    ·have e : k = dr.length := by omega
     have HEK := hide e; have hVV := HVM.out; rw [HEK.out, List.take_length] at hVV; have HVV := hide hVV
     have hm3' : w0.heap.size ≠ m3 := by have := HWB.out; omega
     have hb4 := HVB3.out.chg HCG.out (by simpa using hm3'); have z7 : wr.frozen? ⟨w0.heap.size, 7, none⟩ = false := hb4.frozen 7; have y7 : wr.cell? ⟨w0.heap.size, 7, none⟩ = some (.slice (some ⟨bA, oA, none⟩) ch.length c) := hb4.cell 7; have hb5 := hb4.set 7 (.slice (some ⟨bA, oA, none⟩) km c); have hc5 : Chg [w0.heap.size] wr (wr.setCell ⟨w0.heap.size, 7, none⟩ (.slice (some ⟨bA, oA, none⟩) km c)) := (Chg.refl _ _).setCell (Or.inl (by simp)) _; have hC5 : Chg [m3] w (wr.setCell ⟨w0.heap.size, 7, none⟩ (.slice (some ⟨bA, oA, none⟩) km c)) := ((Chg.of_below (L := [m3]) HB3.out).same HCG.out).setCell (Or.inr HWB.out) _
     have hv5 := HVV.out.other hc5 (fun x hx => by
      have hlt := H.out.lt; have := hlt b H.out.ib; have := hlt m1 H.out.i1; have := hlt m2 H.out.i2; have := hlt m3 H.out.i3; have := HWB.out
      obtain rfl : x = w0.heap.size := by simpa using hx
      exact ⟨Or.inl (by simp), by omega, by omega, by omega, by omega⟩)
     have hmq := HQ3.out.chg HCG.out (by simpa using (show w.heap.size ≠ m3 by omega)); have htk := (HTK.out.chg HCG.out (fun x hx => Or.inl (by rw [List.mem_singleton.1 hx]; exact List.mem_append_right _ H.out.i3))).chg hc5 (fun x hx => Or.inl (by rw [List.mem_singleton.1 hx]; simp)); obtain ⟨w5, hw5⟩ : ∃ w5, wr.setCell ⟨w0.heap.size, 7, none⟩ (.slice (some ⟨bA, oA, none⟩) km c) = w5 := ⟨_, rfl⟩; rw [hw5] at hb5 hC5 hv5 htk; simp only [List.set_cons_zero, List.set_cons_succ] at hb5; have u0 := hb4.cell 0; have u1 := hb4.cell 1; have u2 := hb4.cell 2; have u3 := hb4.cell 3; have u4 := hb4.cell 4; have u5 := hb4.cell 5; have u6 := hb4.cell 6; simp only [List.getElem?_cons_succ, List.getElem?_cons_zero] at u0 u1 u2 u3 u4 u5 u6
     have hkc : km ≤ c := by have := HKM.out; omega
     have hkl2 : km ≤ ch.length := by have := HKM.out; omega
     have hTL : (ch.take km).length = km := by rw [List.length_take]; omega
     have hG := vgrow_calls w5 ([w0.heap.size] ++ no) b m1 m2 m3 _ V C' ⟨id, b0, ⟨pr, pw, pl, pb⟩, ver, ch.take km⟩ (some ⟨bA, oA, none⟩) c me2.length hv5 htk HN.out.1 (Nat.le_trans (outs_le _ _) HN.out.2.1) HN.out.2.2.1 HN.out.2.2.2.1 hb1.1 hb1.2
      (by simp only [hTL]; have := HKA.out; have := HKM.out; omega) HCP.out.2 (by rw [HID.out]; exact hqa.out) HN.out.2.2.2.2
     simp only [VoM.val, VoM.cells, hTL] at hG; have HG := hide hG; have HC5 := hide hC5; have HW5 := hide hw5; clear hG hb5 hc5 hC5 hv5 htk hmq hb4 hVV hm3' hw5 hTL; go_wp2_with fail; rw [show wr.setCell ⟨w0.heap.size, 7, none⟩ (.slice (some ⟨bA, oA, none⟩) km c) = w5 from HW5.out]; refine HG.out.mono ?_; rintro e w6 ⟨rfl, hc6, V6, C6, hv6⟩; have HR := hd2 hc6 hv6; clear hc6 hv6 u0 u1 u2 u3 u4 u5 u6 y7 z7; go_wp2; go_ret; have hfin := HR.out.2.more (no' := no) (fun x hx => List.mem_append_right _ hx) H.out.ib H.out.i1 H.out.i2 H.out.i3; rw [HE.out]
     refine ⟨rfl, (HC5.out.mono (L' := [b, m1, m2, m3]) (by simp)).trans HR.out.1 (fun x hx => Or.inl (by simp at hx ⊢; rcases hx with h | h | h <;> simp [h])), V6, C6, ?_⟩
     rw [HCP.out.1, ← HDE.out.1, ← HDE.out.2]
     exact hfin

theorem MadeI.chg {w w' w'' : World} {A : Option Addr} {c : Nat} {l : List Int} {L : List Nat} (h : MadeI w w' A c l) (hc : Chg L w' w'') (hL : ∀ x ∈ L, x < w.heap.size) : MadeI w w'' A c l :=
 ⟨h.le, ⟨h.rd.1, fun hn => by
  obtain ⟨b, o, e, hb, hcell⟩ := h.rd.2 hn
  have hnb : b ∉ L := fun hx => by
   have h1 := hL b hx; have h2 := (h.ap _ e).2.1; simp only [] at h2
   omega
  exact ⟨b, o, e, Nat.lt_of_lt_of_le hb hc.size, fun j u hu => (hc.cell (p := ⟨b, o + j, Option.none⟩) hb hnb).trans (hcell j u hu)⟩⟩,
  fun a ha => ⟨(h.ap a ha).1, (h.ap a ha).2.1, Nat.lt_of_lt_of_le (h.ap a ha).2.2 hc.size⟩⟩
theorem at_err {S : Vst} {a b n : Int} (h : S.at_ a b = .error n) : n = 7 ∨ n = 10 := by
 unfold Vst.at_ at h
 split at h
 ·injection h with h; exact Or.inl h.symm
 ·split at h
  ·cases h
  ·injection h with h; exact Or.inr h.symm
theorem at_fd {S : Vst} {a b : Int} {k : Ck} (h : S.at_ a b = .ok k) : fd Ck.id S.cs a = some k := by
 unfold Vst.at_ at h
 split at h
 ·cases h
 ·split at h
  ·injection h with h; subst h; assumption
  ·cases h
theorem vdrop_calls (w : World) (no : List Nat) (b m1 m2 m3 : Nat) (S : Vst) (V : List VoM) (C : List CkM) (q : Cmd) (h : VM w no b m1 m2 m3 S V C) (hq : q.ok) (hl : S.cs.length < 1000000) (hc : ∀ c ∈ S.cs, 0 ≤ c.ep ∧ c.ep ≤ 1000000) :
    Calls Tryz.prog 62 #[.pointer (some ⟨b, 0, none⟩), q.val] w fun e w' => Stp w w' no b m1 m2 m3 (S.drop q) e := by
  have HN := hd2 hl hc; clear hl hc; obtain ⟨k0, a0, b0, c0, ⟨qr, qw, ql, qb⟩⟩ := q; obtain ⟨w0, hw0⟩ : ∃ w0, w.alloc (.cells #[.int .i64 k0, .int .i64 a0, .int .i64 b0, .int .i64 c0, .int .i64 qr, .int .i64 qw, .int .i64 ql, .int .i64 qb] 35) = w0 := ⟨_, rfl⟩
  have hb0 : Below w.heap.size w w0 := hw0 ▸ (Below.refl w.heap.size w).alloc (Nat.le_refl _) _
  have d1 : Blk w0 w.heap.size 35 [.int .i64 k0, .int .i64 a0, .int .i64 b0, .int .i64 c0, .int .i64 qr, .int .i64 qw, .int .i64 ql, .int .i64 qb] := hw0 ▸ Blk.new rfl
  have hs0 : Hid (w0.heap.size = w.heap.size + 1) := hide (by rw [← hw0]; simp)
  have hat := fun w' (hb : Below w0.heap.size w0 w') => vat_calls w' no b m1 m2 m3 S V C ⟨k0, a0, b0, c0, ⟨qr, qw, ql, qb⟩⟩ (h.below (hb0.trans (hb.mono hb0.size))) hq
  simp only [Cmd.val, Cmd.cells] at hat; have HC0 := hide hq.c; have HB0 := hide hb0; have HD := hide d1; have H := hide h; have hqc := hide hq.c; have hqa := hide hq.a; clear hq h hb0 d1; unfold Cmd.val Cmd.cells; simp only []
  cases hr : S.at_ a0 b0 with
  | error n =>
    have HE : Hid (S.drop ⟨k0, a0, b0, c0, ⟨qr, qw, ql, qb⟩⟩ = (S, n)) := hide (by
      unfold Vst.drop
      simp only [hr])
    have hn : (n != 0) = true := by rcases at_err hr with rfl | rfl <;> rfl
    have HAT := hide (hat w0 (Below.refl _ _)); simp only [hr, errOf] at HAT; have y0 := HD.out.cell 0; have y1 := HD.out.cell 1; have y2 := HD.out.cell 2; have y3 := HD.out.cell 3; have y4 := HD.out.cell 4; have y5 := HD.out.cell 5; have y6 := HD.out.cell 6; have y7 := HD.out.cell 7; simp only [List.getElem?_cons_succ, List.getElem?_cons_zero] at y0 y1 y2 y3 y4 y5 y6 y7; clear hr hat
    go_enter Tryz.func62, Tryz.ntmps62
    go_wp2_with fail; refine HAT.out.mono ?_; rintro e w1 ⟨y, rfl, hok, hsA, hsB, hb1⟩; obtain ⟨⟨id, vol, ep, me, jo⟩, A, c, B, d⟩ := y; simp only [CkM.val, CkM.cells]; simp only [] at hsA hsB hok; have HBW := hide (HB0.out.trans (hb1.mono HB0.out.size)); have E := hide (HD.out.below hb1); have HSA := hide (hsA.below hb1); have HSB := hide (hsB.below hb1); have HOK := hide hok; have hlt1 : w.heap.size < w1.heap.size := E.out.lt; have e3 : w1.cell? ⟨w.heap.size, 3, none⟩ = some (.int .i64 c0) := E.out.cell 3; clear hsA hsB hb1 y0 y1 y2 y3 y4 y5 y6 y7 hok; go_wp2; go_ret; rw [HE.out]
    exact H.out.stay (HBW.out.alloc HBW.out.size _) rfl
  | ok k =>
    have HAT := hide (hat w0 (Below.refl _ _)); simp only [hr, errOf] at HAT; have y0 := HD.out.cell 0; have y1 := HD.out.cell 1; have y2 := HD.out.cell 2; have y3 := HD.out.cell 3; have y4 := HD.out.cell 4; have y5 := HD.out.cell 5; have y6 := HD.out.cell 6; have y7 := HD.out.cell 7; simp only [List.getElem?_cons_succ, List.getElem?_cons_zero] at y0 y1 y2 y3 y4 y5 y6 y7; have HR := hide hr; clear hr hat
    go_enter Tryz.func62, Tryz.ntmps62
    go_wp2_with fail; refine HAT.out.mono ?_; rintro e w1 ⟨y, rfl, hok, hsA, hsB, hb1⟩; obtain ⟨⟨id, vol, ep, me, jo⟩, A, c, B, d⟩ := y; simp only [CkM.val, CkM.cells]; simp only [] at hsA hsB hok; have HBW := hide (HB0.out.trans (hb1.mono HB0.out.size)); have E := hide (HD.out.below hb1); have HSA := hide (hsA.below hb1); have HSB := hide (hsB.below hb1); have HOK := hide hok; have hlt1 : w.heap.size < w1.heap.size := E.out.lt; have e3 : w1.cell? ⟨w.heap.size, 3, none⟩ = some (.int .i64 c0) := E.out.cell 3; clear hsA hsB hb1 y0 y1 y2 y3 y4 y5 y6 y7 hok; have hky := (HOK.out k rfl).1; subst hky; have d2 : Blk (w1.alloc (.cells #[.int .i64 id, .int .i64 vol, .int .i64 ep, .slice A me.length c, .slice B jo.length d] 90)) w1.heap.size 90 [.int .i64 id, .int .i64 vol, .int .i64 ep, .slice A me.length c, .slice B jo.length d] := Blk.new rfl; have q2 := (Below.refl w1.heap.size w1).alloc (Nat.le_refl _) (.cells #[.int .i64 id, .int .i64 vol, .int .i64 ep, .slice A me.length c, .slice B jo.length d] 90); have d1' := E.out.below q2; have hb2 := HBW.out.trans (q2.mono HBW.out.size); have sA2 := HSA.out.below q2; have sB2 := HSB.out.below q2; obtain ⟨w2, hw2⟩ : ∃ w2, w1.alloc (.cells #[.int .i64 id, .int .i64 vol, .int .i64 ep, .slice A me.length c, .slice B jo.length d] 90) = w2 := ⟨_, rfl⟩; rw [hw2] at d2 d1' hb2 sA2 sB2; have HSA2 := hide sA2; have HSB2 := hide sB2; have HB2 := hide hb2; have HD1 := hide d1'; have HD2 := hide d2; have HW2 := hide hw2; have HWB := hide (show w.heap.size ≤ w1.heap.size from HBW.out.size); clear d2 d1' hb2 sA2 sB2 hw2 q2; go_wp2_with fail; rw [show w1.alloc (.cells #[.int .i64 id, .int .i64 vol, .int .i64 ep, .slice A me.length c, .slice B jo.length d] 90) = w2 from HW2.out]
    refine (vhas_calls ⟨⟨id, vol, ep, me, jo⟩, A, c, B, d⟩ c0 no w2 HSA2.out HSB2.out).mono ?_
    rintro e w3 ⟨rfl, hb3⟩; have HB3 := hide (HB2.out.trans (hb3.mono HB2.out.size)); have HD13 := hide (HD1.out.below hb3); have HD23 := hide (HD2.out.below hb3); have HSA3 := hide (HSA2.out.below hb3); have HSB3 := hide (HSB2.out.below hb3); clear hb3 hlt1 e3
    cases hhas : (⟨id, vol, ep, me, jo⟩ : Ck).has c0 with
    | false =>
      have HE : Hid (S.drop ⟨k0, a0, b0, c0, ⟨qr, qw, ql, qb⟩⟩ = (S, 1)) := hide (by
        unfold Vst.drop; simp only [HR.out, hhas]
        rfl)
      have HHAS := hide hhas; clear hhas; go_wp2; go_ret; rw [HE.out]
      exact H.out.stay HB3.out rfl
    | true =>
      have HHAS := hide hhas; clear hhas; have r3 := Below.refl w3.heap.size w3
      by_cases hone : me = [c0]
      · have HE : Hid (S.drop ⟨k0, a0, b0, c0, ⟨qr, qw, ql, qb⟩⟩ = (S, 9)) := hide (by
          unfold Vst.drop; simp only [HR.out, HHAS.out]
          simp [hone])
        obtain ⟨bA, oA, eA, hbA, hcell⟩ := HSA3.out.rd.2 (by simp [hone])
        have g0 : ∀ w', Below w3.heap.size w3 w' → w'.cell? ⟨bA, oA, none⟩ = some (.int .i64 c0) := fun w' hb => (hb.cell (p := ⟨bA, oA, none⟩) hbA).trans (hcell 0 _ (by simp [hone]))
        have x3 : ∀ w', Below w3.heap.size w3 w' → w'.cell? ⟨w.heap.size, 3, none⟩ = some (.int .i64 c0) := HD13.out.rule 3 _ rfl; have u0 : ∀ w', Below w3.heap.size w3 w' → w'.cell? ⟨w1.heap.size, 0, none⟩ = some (.int .i64 id) := HD23.out.rule 0 _ rfl; have u1 : ∀ w', Below w3.heap.size w3 w' → w'.cell? ⟨w1.heap.size, 1, none⟩ = some (.int .i64 vol) := HD23.out.rule 1 _ rfl; have u2 : ∀ w', Below w3.heap.size w3 w' → w'.cell? ⟨w1.heap.size, 2, none⟩ = some (.int .i64 ep) := HD23.out.rule 2 _ rfl; have u3 := HD23.out.rule 3 _ rfl; have u4 := HD23.out.rule 4 _ rfl; subst eA
        have hl1 : ((me.length : Int) == 1) = true := by simp [hone]
        have hln : 0 < me.length := by simp [hone]
        have i0 : (0 : Int) < me.length := by omega
        have HB3D := hide (HB3.out.trans (r3.drew.mono HB3.out.size)); clear hcell hbA hone; go_wp2_with fail
        refine region_lx (fun w' => Below w3.heap.size w3 w') [] [2, 0, 2, 2, 2, 2, 0, 2, 0, 2, 0, 2, 2, 2] (by (exact r3.drew)) (fun hS0 => ?_)
        (iterate 14 (first | refine lxt ?_ | refine lxp ?_ | refine lxs ?_ | refine lxk ?_))
        refine lxN ?_
        go_wp2; go_ret; rw [HE.out]
        exact H.out.stay HB3D.out rfl
      · have HE : Hid (S.drop ⟨k0, a0, b0, c0, ⟨qr, qw, ql, qb⟩⟩ = (S.turn ⟨id, vol, ep, wout me c0, wout jo c0⟩, 0)) := hide (by
          unfold Vst.drop; simp only [HR.out, HHAS.out]
          simp [hone])
        by_cases hl1 : me.length = 1
        · obtain ⟨z, hme⟩ : ∃ z, me = [z] := List.length_eq_one_iff.1 hl1
          have hz : (z == c0) = false := by
            have : z ≠ c0 := fun e => hone (by rw [hme, e])
            simpa using this
          obtain ⟨bA, oA, eA, hbA, hcell⟩ := HSA3.out.rd.2 (by omega)
          have g0 : ∀ w', Below w3.heap.size w3 w' → w'.cell? ⟨bA, oA, none⟩ = some (.int .i64 z) := fun w' hb => (hb.cell (p := ⟨bA, oA, none⟩) hbA).trans (hcell 0 _ (by simp [hme]))
          have x3 : ∀ w', Below w3.heap.size w3 w' → w'.cell? ⟨w.heap.size, 3, none⟩ = some (.int .i64 c0) := HD13.out.rule 3 _ rfl; have u0 : ∀ w', Below w3.heap.size w3 w' → w'.cell? ⟨w1.heap.size, 0, none⟩ = some (.int .i64 id) := HD23.out.rule 0 _ rfl; have u1 : ∀ w', Below w3.heap.size w3 w' → w'.cell? ⟨w1.heap.size, 1, none⟩ = some (.int .i64 vol) := HD23.out.rule 1 _ rfl; have u2 : ∀ w', Below w3.heap.size w3 w' → w'.cell? ⟨w1.heap.size, 2, none⟩ = some (.int .i64 ep) := HD23.out.rule 2 _ rfl; have u3 := HD23.out.rule 3 _ rfl; have u4 := HD23.out.rule 4 _ rfl; subst eA
          have hl1' : ((me.length : Int) == 1) = true := by simp [hme]
          have hln : 0 < me.length := by omega
          have i0 : (0 : Int) < me.length := by omega
          clear hcell hbA hone hl1 hme; go_wp2_with fail
          refine region_lx (fun w' => Below w3.heap.size w3 w') [] [2, 0, 2, 2, 2, 2, 0, 2, 0, 2, 0, 2, 2, 2] (by (exact r3.drew)) (fun hS0 => ?_)
          (iterate 14 (first | refine lxt ?_ | refine lxp ?_ | refine lxs ?_ | refine lxk ?_))
          refine lxN ?_
          clear g0 hl1' i0 hz hln; clear hS0
          have z3 : ∀ w', Below w3.heap.size w3 w' → w'.frozen? ⟨w1.heap.size, 3, none⟩ = false := fun w' hb => (HD23.out.below hb).frozen 3
          have z4 : ∀ w', Below w3.heap.size w3 w' → w'.frozen? ⟨w1.heap.size, 4, none⟩ = false := fun w' hb => (HD23.out.below hb).frozen 4
          have HWM : Hid (∀ w', Below w3.heap.size w3 w' → Calls Tryz.prog 110 #[.slice (some ⟨bA, oA, none⟩) me.length c, .int .i64 c0] w' fun e w'' => ∃ A' c', e = .returned (.slice A' (wout me c0).length c') ∧ MadeI w3 w'' A' c' (wout me c0) ∧ Below w3.heap.size w3 w'') := hide (fun w' hb =>
            (without_calls _ c me no c0 w' (HSA3.out.below hb)).mono fun e w'' ⟨A', c', he, hm, hb2⟩ => ⟨A', c', he, hm.back hb.size, hb.trans (hb2.mono hb.size)⟩)
          have HWJ : Hid (∀ w', Below w3.heap.size w3 w' → Calls Tryz.prog 110 #[.slice B jo.length d, .int .i64 c0] w' fun e w'' => ∃ A' c', e = .returned (.slice A' (wout jo c0).length c') ∧ MadeI w3 w'' A' c' (wout jo c0) ∧ Below w3.heap.size w3 w'' ∧ Below w'.heap.size w' w'') := hide (fun w' hb =>
            (without_calls _ d jo no c0 w' (HSB3.out.below hb)).mono fun e w'' ⟨A', c', he, hm, hb2⟩ => ⟨A', c', he, hm.back hb.size, hb.trans (hb2.mono hb.size), hb2⟩)
          have r3d := r3.drew; go_wp2_with fail
          refine region_lxf (fun w' => Below w3.heap.size w3 w') [11] 0 [(2,0),(0,1),(2,2),(0,3),(2,5),(0,6),(2,7),(0,8),(1,4),(2,10),(1,9),(3,11),(2,12),(3,13)] (bzA 14 16383) (by (first | exact r3.drew.drew | assumption)) (fun hS0 => ?_)
          (iterate 8 (first | refine lxt ?_ | refine lxp ?_))
          (refine lxe ?_; go_simp; (first
                            | (go_at_call 110; with_reducible refine (HWM.out _ r3.drew.drew).mono ?_; rintro e w4 ⟨A4, c4, rfl, hm4, hb4⟩; have HM4 := hide hm4; clear hm4)
                            | (go_at_call 110; with_reducible refine (HWJ.out _ hb4).mono ?_; rintro e w5 ⟨A5, c5, rfl, hm5, hb5, hb5'⟩; have HM5 := hd2 hm5 hb5'; clear hm5 hb5')); refine lxB (by (first | exact r3.drew.drew | assumption)) (fun hS1 => ?_))
          refine lxp ?_
          (refine lxe ?_; go_simp; (first
                            | (go_at_call 110; with_reducible refine (HWM.out _ r3.drew.drew).mono ?_; rintro e w4 ⟨A4, c4, rfl, hm4, hb4⟩; have HM4 := hide hm4; clear hm4)
                            | (go_at_call 110; with_reducible refine (HWJ.out _ hb4).mono ?_; rintro e w5 ⟨A5, c5, rfl, hm5, hb5, hb5'⟩; have HM5 := hd2 hm5 hb5'; clear hm5 hb5')); refine lxB (by (first | exact r3.drew.drew | assumption)) (fun hS1 => ?_))
          (refine lxn ?_; go_simp)
          refine lxp ?_
          (refine lxn ?_; go_simp)
          refine lxN (lxd ?_)
          have hid := (fd_some (at_fd HR.out)).2; have hin := HN.out.2 _ (fd_some (at_fd HR.out)).1; simp only [] at hid hin; have hw13 : w1.heap.size < w3.heap.size := HD23.out.lt; have D6 := ((HD23.out.below hb5).set 3 (.slice A4 (wout me c0).length c4)).set 4 (.slice A5 (wout jo c0).length c5); have hc6 : Chg [w1.heap.size] w5 ((w5.setCell ⟨w1.heap.size, 3, none⟩ (.slice A4 (wout me c0).length c4)).setCell ⟨w1.heap.size, 4, none⟩ (.slice A5 (wout jo c0).length c5)) := ((Chg.refl _ _).setCell (Or.inl (by simp)) _).setCell (Or.inl (by simp)) _; have hb35 := HB3.out.trans (hb5.mono HB3.out.size); have hb6 := Chg.onto hb35 hb35.size hc6 (fun x hx => by rw [List.mem_singleton.1 hx]; exact HWB.out); have M4 := (HM4.out.below HM5.out.2).chg hc6 (fun x hx => by rw [List.mem_singleton.1 hx]; exact hw13); have M5 := HM5.out.1.chg hc6 (fun x hx => by rw [List.mem_singleton.1 hx]; exact hw13); obtain ⟨w6, hw6⟩ : ∃ w6, (w5.setCell ⟨w1.heap.size, 3, none⟩ (.slice A4 (wout me c0).length c4)).setCell ⟨w1.heap.size, 4, none⟩ (.slice A5 (wout jo c0).length c5) = w6 := ⟨_, rfl⟩; rw [hw6] at D6 hb6 M4 M5; rw [hw6]; simp only [List.set_cons_zero, List.set_cons_succ] at D6
          have hnl : ∀ x ∈ no, x < w3.heap.size := fun x hx => Nat.lt_of_lt_of_le (H.out.lt x hx) HB3.out.size
          have hT := vturn_calls w6 no b m1 m2 m3 S V C ⟨⟨id, vol, ep, (wout me c0), (wout jo c0)⟩, A4, c4, A5, c5⟩ (H.out.below hb6) (M4.sl (by have := List.length_filter_le (fun k => k != c0) me; have := HSA3.out.ln; unfold wout; omega) hnl) (M5.sl (by have := List.length_filter_le (fun k => k != c0) jo; have := HSB3.out.ln; unfold wout; omega) hnl) (by simp only []; rw [hid]; exact hqa.out) hin.1 hin.2 HN.out.1; simp only [CkM.val, CkM.cells, List.length_append, List.length_singleton] at hT; have HT := hide hT; have HB6 := hide hb6; have u0 := D6.cell 0; have u1 := D6.cell 1; have u2 := D6.cell 2; have u3 := D6.cell 3; have u4 := D6.cell 4; simp only [List.getElem?_cons_succ, List.getElem?_cons_zero] at u0 u1 u2 u3 u4; have HW6 := hide hw6; clear hT hb6 D6 hc6 hb35 M4 M5 hw6 hnl hid hin hw13; go_wp2_with fail; refine HT.out.mono ?_; rintro e w7 ⟨rfl, hcg, hvm⟩; have HF := hd2 hcg hvm; clear hcg hvm; go_wp2; go_ret; rw [HE.out]
          exact ⟨rfl, (Chg.of_below (L := [b, m1, m2, m3]) HB6.out).trans HF.out.1 (fun x hx => Or.inl hx), HF.out.2⟩
        · have hl1' : ((me.length : Int) == 1) = false := by
            have : (me.length : Int) ≠ 1 := by omega
            simpa using this
          have x3 : ∀ w', Below w3.heap.size w3 w' → w'.cell? ⟨w.heap.size, 3, none⟩ = some (.int .i64 c0) := HD13.out.rule 3 _ rfl; have u0 : ∀ w', Below w3.heap.size w3 w' → w'.cell? ⟨w1.heap.size, 0, none⟩ = some (.int .i64 id) := HD23.out.rule 0 _ rfl; have u1 : ∀ w', Below w3.heap.size w3 w' → w'.cell? ⟨w1.heap.size, 1, none⟩ = some (.int .i64 vol) := HD23.out.rule 1 _ rfl; have u2 : ∀ w', Below w3.heap.size w3 w' → w'.cell? ⟨w1.heap.size, 2, none⟩ = some (.int .i64 ep) := HD23.out.rule 2 _ rfl; have u3 := HD23.out.rule 3 _ rfl; have u4 := HD23.out.rule 4 _ rfl; clear hone hl1; go_wp2_with fail
          refine region_lx (fun w' => Below w3.heap.size w3 w') [] [2, 0, 2, 2, 2, 2, 0, 2, 0, 2, 0, 2, 2, 2] (by (exact r3.drew)) (fun hS0 => ?_)
          (iterate 14 (first | refine lxt ?_ | refine lxp ?_ | refine lxs ?_ | refine lxk ?_))
          refine lxN ?_
          clear hl1'; clear hS0
          have z3 : ∀ w', Below w3.heap.size w3 w' → w'.frozen? ⟨w1.heap.size, 3, none⟩ = false := fun w' hb => (HD23.out.below hb).frozen 3
          have z4 : ∀ w', Below w3.heap.size w3 w' → w'.frozen? ⟨w1.heap.size, 4, none⟩ = false := fun w' hb => (HD23.out.below hb).frozen 4
          have HWM : Hid (∀ w', Below w3.heap.size w3 w' → Calls Tryz.prog 110 #[.slice A me.length c, .int .i64 c0] w' fun e w'' => ∃ A' c', e = .returned (.slice A' (wout me c0).length c') ∧ MadeI w3 w'' A' c' (wout me c0) ∧ Below w3.heap.size w3 w'') := hide (fun w' hb =>
            (without_calls _ c me no c0 w' (HSA3.out.below hb)).mono fun e w'' ⟨A', c', he, hm, hb2⟩ => ⟨A', c', he, hm.back hb.size, hb.trans (hb2.mono hb.size)⟩)
          have HWJ : Hid (∀ w', Below w3.heap.size w3 w' → Calls Tryz.prog 110 #[.slice B jo.length d, .int .i64 c0] w' fun e w'' => ∃ A' c', e = .returned (.slice A' (wout jo c0).length c') ∧ MadeI w3 w'' A' c' (wout jo c0) ∧ Below w3.heap.size w3 w'' ∧ Below w'.heap.size w' w'') := hide (fun w' hb =>
            (without_calls _ d jo no c0 w' (HSB3.out.below hb)).mono fun e w'' ⟨A', c', he, hm, hb2⟩ => ⟨A', c', he, hm.back hb.size, hb.trans (hb2.mono hb.size), hb2⟩)
          have r3d := r3.drew; go_wp2_with fail
          refine region_lxf (fun w' => Below w3.heap.size w3 w') [11] 0 [(2,0),(0,1),(2,2),(0,3),(2,5),(0,6),(2,7),(0,8),(1,4),(2,10),(1,9),(3,11),(2,12),(3,13)] (bzA 14 16383) (by (first | exact r3.drew.drew | assumption)) (fun hS0 => ?_)
          (iterate 8 (first | refine lxt ?_ | refine lxp ?_))
          (refine lxe ?_; go_simp; (first
                            | (go_at_call 110; with_reducible refine (HWM.out _ r3.drew.drew).mono ?_; rintro e w4 ⟨A4, c4, rfl, hm4, hb4⟩; have HM4 := hide hm4; clear hm4)
                            | (go_at_call 110; with_reducible refine (HWJ.out _ hb4).mono ?_; rintro e w5 ⟨A5, c5, rfl, hm5, hb5, hb5'⟩; have HM5 := hd2 hm5 hb5'; clear hm5 hb5')); refine lxB (by (first | exact r3.drew.drew | assumption)) (fun hS1 => ?_))
          refine lxp ?_
          (refine lxe ?_; go_simp; (first
                            | (go_at_call 110; with_reducible refine (HWM.out _ r3.drew.drew).mono ?_; rintro e w4 ⟨A4, c4, rfl, hm4, hb4⟩; have HM4 := hide hm4; clear hm4)
                            | (go_at_call 110; with_reducible refine (HWJ.out _ hb4).mono ?_; rintro e w5 ⟨A5, c5, rfl, hm5, hb5, hb5'⟩; have HM5 := hd2 hm5 hb5'; clear hm5 hb5')); refine lxB (by (first | exact r3.drew.drew | assumption)) (fun hS1 => ?_))
          (refine lxn ?_; go_simp)
          refine lxp ?_
          (refine lxn ?_; go_simp)
          refine lxN (lxd ?_)
          have hid := (fd_some (at_fd HR.out)).2; have hin := HN.out.2 _ (fd_some (at_fd HR.out)).1; simp only [] at hid hin; have hw13 : w1.heap.size < w3.heap.size := HD23.out.lt; have D6 := ((HD23.out.below hb5).set 3 (.slice A4 (wout me c0).length c4)).set 4 (.slice A5 (wout jo c0).length c5); have hc6 : Chg [w1.heap.size] w5 ((w5.setCell ⟨w1.heap.size, 3, none⟩ (.slice A4 (wout me c0).length c4)).setCell ⟨w1.heap.size, 4, none⟩ (.slice A5 (wout jo c0).length c5)) := ((Chg.refl _ _).setCell (Or.inl (by simp)) _).setCell (Or.inl (by simp)) _; have hb35 := HB3.out.trans (hb5.mono HB3.out.size); have hb6 := Chg.onto hb35 hb35.size hc6 (fun x hx => by rw [List.mem_singleton.1 hx]; exact HWB.out); have M4 := (HM4.out.below HM5.out.2).chg hc6 (fun x hx => by rw [List.mem_singleton.1 hx]; exact hw13); have M5 := HM5.out.1.chg hc6 (fun x hx => by rw [List.mem_singleton.1 hx]; exact hw13); obtain ⟨w6, hw6⟩ : ∃ w6, (w5.setCell ⟨w1.heap.size, 3, none⟩ (.slice A4 (wout me c0).length c4)).setCell ⟨w1.heap.size, 4, none⟩ (.slice A5 (wout jo c0).length c5) = w6 := ⟨_, rfl⟩; rw [hw6] at D6 hb6 M4 M5; rw [hw6]; simp only [List.set_cons_zero, List.set_cons_succ] at D6
          have hnl : ∀ x ∈ no, x < w3.heap.size := fun x hx => Nat.lt_of_lt_of_le (H.out.lt x hx) HB3.out.size
          have hT := vturn_calls w6 no b m1 m2 m3 S V C ⟨⟨id, vol, ep, (wout me c0), (wout jo c0)⟩, A4, c4, A5, c5⟩ (H.out.below hb6) (M4.sl (by have := List.length_filter_le (fun k => k != c0) me; have := HSA3.out.ln; unfold wout; omega) hnl) (M5.sl (by have := List.length_filter_le (fun k => k != c0) jo; have := HSB3.out.ln; unfold wout; omega) hnl) (by simp only []; rw [hid]; exact hqa.out) hin.1 hin.2 HN.out.1; simp only [CkM.val, CkM.cells, List.length_append, List.length_singleton] at hT; have HT := hide hT; have HB6 := hide hb6; have u0 := D6.cell 0; have u1 := D6.cell 1; have u2 := D6.cell 2; have u3 := D6.cell 3; have u4 := D6.cell 4; simp only [List.getElem?_cons_succ, List.getElem?_cons_zero] at u0 u1 u2 u3 u4; have HW6 := hide hw6; clear hT hb6 D6 hc6 hb35 M4 M5 hw6 hnl hid hin hw13; go_wp2_with fail; refine HT.out.mono ?_; rintro e w7 ⟨rfl, hcg, hvm⟩; have HF := hd2 hcg hvm; clear hcg hvm; go_wp2; go_ret; rw [HE.out]
          exact ⟨rfl, (Chg.of_below (L := [b, m1, m2, m3]) HB6.out).trans HF.out.1 (fun x hx => Or.inl hx), HF.out.2⟩
theorem OwnI.push {w3 w w5 : World} {A : Option Addr} {c g cap : Nat} {l : List Int} {x : Int} (h : OwnI w3 w A c l) (hown : w5.ownsRow 0 3 1 (.slice (some ⟨g, 0, none⟩) (l.length + 1) cap) (l.length + 1) (l.map (Value.int .i64) ++ [.int .i64 x]))
  (hor : A.map Addr.block = some g ∨ w3.heap.size ≤ g) : MadeI w3 w5 (some ⟨g, 0, none⟩) cap (l ++ [x]) := by
 have hO : OwnI w3 w5 (some ⟨g, 0, none⟩) cap (l ++ [x]) := by
  refine ⟨?_, fun g' hg' => ?_⟩
  ·rw [List.length_append, List.length_singleton, List.map_append]
   exact hown
  ·obtain rfl : g = g' := by simpa using hg'
   rcases hor with h1 | h1
   ·exact h.2 g h1
   ·exact h1
 exact hO.made
theorem vpromote_calls (w : World) (no : List Nat) (b m1 m2 m3 : Nat) (S : Vst) (V : List VoM) (C : List CkM) (q : Cmd) (h : VM w no b m1 m2 m3 S V C) (hq : q.ok) (hl : S.cs.length < 1000000) (hc : ∀ c ∈ S.cs, 0 ≤ c.ep ∧ c.ep ≤ 1000000) (hm : ∀ c ∈ S.cs, c.me.length ≤ 100) :
    Calls Tryz.prog 64 #[.pointer (some ⟨b, 0, none⟩), q.val] w fun e w' => Stp w w' no b m1 m2 m3 (S.promote q) e := by
  obtain ⟨i0, hi, hz0, hz1, hz2⟩ := info_parts Tryz.infoI3; have HN := hd2 hl hc; have HM := hide hm; clear hl hc hm; obtain ⟨k0, a0, b0, c0, ⟨qr, qw, ql, qb⟩⟩ := q; obtain ⟨w0, hw0⟩ : ∃ w0, w.alloc (.cells #[.int .i64 k0, .int .i64 a0, .int .i64 b0, .int .i64 c0, .int .i64 qr, .int .i64 qw, .int .i64 ql, .int .i64 qb] 35) = w0 := ⟨_, rfl⟩
  have hb0 : Below w.heap.size w w0 := hw0 ▸ (Below.refl w.heap.size w).alloc (Nat.le_refl _) _
  have d1 : Blk w0 w.heap.size 35 [.int .i64 k0, .int .i64 a0, .int .i64 b0, .int .i64 c0, .int .i64 qr, .int .i64 qw, .int .i64 ql, .int .i64 qb] := hw0 ▸ Blk.new rfl
  have hs0 : Hid (w0.heap.size = w.heap.size + 1) := hide (by rw [← hw0]; simp)
  have hat := fun w' (hb : Below w0.heap.size w0 w') => vat_calls w' no b m1 m2 m3 S V C ⟨k0, a0, b0, c0, ⟨qr, qw, ql, qb⟩⟩ (h.below (hb0.trans (hb.mono hb0.size))) hq
  simp only [Cmd.val, Cmd.cells] at hat; have HC0 := hide hq.c; have HB0 := hide hb0; have HD := hide d1; have H := hide h; have hqc := hide hq.c; have hqa := hide hq.a; clear hq h hb0 d1; unfold Cmd.val Cmd.cells; simp only []
  cases hr : S.at_ a0 b0 with
  | error n =>
    have HE : Hid (S.promote ⟨k0, a0, b0, c0, ⟨qr, qw, ql, qb⟩⟩ = (S, n)) := hide (by
      unfold Vst.promote
      simp only [hr])
    have hn : (n != 0) = true := by rcases at_err hr with rfl | rfl <;> rfl
    have HAT := hide (hat w0 (Below.refl _ _)); simp only [hr, errOf] at HAT; have y0 := HD.out.cell 0; have y1 := HD.out.cell 1; have y2 := HD.out.cell 2; have y3 := HD.out.cell 3; have y4 := HD.out.cell 4; have y5 := HD.out.cell 5; have y6 := HD.out.cell 6; have y7 := HD.out.cell 7; simp only [List.getElem?_cons_succ, List.getElem?_cons_zero] at y0 y1 y2 y3 y4 y5 y6 y7; clear hr hat
    go_enter Tryz.func64, Tryz.ntmps64
    go_wp2_with fail; refine HAT.out.mono ?_; rintro e w1 ⟨y, rfl, hok, hsA, hsB, hb1⟩; obtain ⟨⟨id, vol, ep, me, jo⟩, A, c, B, d⟩ := y; simp only [CkM.val, CkM.cells]; simp only [] at hsA hsB hok; have HBW := hide (HB0.out.trans (hb1.mono HB0.out.size)); have E := hide (HD.out.below hb1); have HSA := hide (hsA.below hb1); have HSB := hide (hsB.below hb1); have HOK := hide hok; have hlt1 : w.heap.size < w1.heap.size := E.out.lt; have e3 : w1.cell? ⟨w.heap.size, 3, none⟩ = some (.int .i64 c0) := E.out.cell 3; clear hsA hsB hb1 y0 y1 y2 y3 y4 y5 y6 y7 hok; go_wp2; go_ret; rw [HE.out]
    exact H.out.stay (HBW.out.alloc HBW.out.size _) rfl
  | ok k =>
    have HAT := hide (hat w0 (Below.refl _ _)); simp only [hr, errOf] at HAT; have y0 := HD.out.cell 0; have y1 := HD.out.cell 1; have y2 := HD.out.cell 2; have y3 := HD.out.cell 3; have y4 := HD.out.cell 4; have y5 := HD.out.cell 5; have y6 := HD.out.cell 6; have y7 := HD.out.cell 7; simp only [List.getElem?_cons_succ, List.getElem?_cons_zero] at y0 y1 y2 y3 y4 y5 y6 y7; have HR := hide hr; clear hr hat
    go_enter Tryz.func64, Tryz.ntmps64
    go_wp2_with fail; refine HAT.out.mono ?_; rintro e w1 ⟨y, rfl, hok, hsA, hsB, hb1⟩; obtain ⟨⟨id, vol, ep, me, jo⟩, A, c, B, d⟩ := y; simp only [CkM.val, CkM.cells]; simp only [] at hsA hsB hok; have HBW := hide (HB0.out.trans (hb1.mono HB0.out.size)); have E := hide (HD.out.below hb1); have HSA := hide (hsA.below hb1); have HSB := hide (hsB.below hb1); have HOK := hide hok; have hlt1 : w.heap.size < w1.heap.size := E.out.lt; have e3 : w1.cell? ⟨w.heap.size, 3, none⟩ = some (.int .i64 c0) := E.out.cell 3; clear hsA hsB hb1 y0 y1 y2 y3 y4 y5 y6 y7 hok; have hky := (HOK.out k rfl).1; subst hky; have HME : Hid (me.length ≤ 100) := hide (HM.out _ (fd_some (at_fd HR.out)).1); have d2 : Blk (w1.alloc (.cells #[.int .i64 id, .int .i64 vol, .int .i64 ep, .slice A me.length c, .slice B jo.length d] 90)) w1.heap.size 90 [.int .i64 id, .int .i64 vol, .int .i64 ep, .slice A me.length c, .slice B jo.length d] := Blk.new rfl; have q2 := (Below.refl w1.heap.size w1).alloc (Nat.le_refl _) (.cells #[.int .i64 id, .int .i64 vol, .int .i64 ep, .slice A me.length c, .slice B jo.length d] 90); have d1' := E.out.below q2; have hb2 := HBW.out.trans (q2.mono HBW.out.size); have sA2 := HSA.out.below q2; have sB2 := HSB.out.below q2; obtain ⟨w2, hw2⟩ : ∃ w2, w1.alloc (.cells #[.int .i64 id, .int .i64 vol, .int .i64 ep, .slice A me.length c, .slice B jo.length d] 90) = w2 := ⟨_, rfl⟩; rw [hw2] at d2 d1' hb2 sA2 sB2; have HSA2 := hide sA2; have HSB2 := hide sB2; have HB2 := hide hb2; have HD1 := hide d1'; have HD2 := hide d2; have HW2 := hide hw2; have HWB := hide (show w.heap.size ≤ w1.heap.size from HBW.out.size); clear d2 d1' hb2 sA2 sB2 hw2 q2; go_wp2_with fail; rw [show w1.alloc (.cells #[.int .i64 id, .int .i64 vol, .int .i64 ep, .slice A me.length c, .slice B jo.length d] 90) = w2 from HW2.out]
    refine (contains_calls B jo.length d jo c0 w2 rfl (by have := HSB2.out.ln; omega) HSB2.out.rd).mono ?_
    rintro e w3 ⟨rfl, nq, hw3⟩
    have hb3 : Below w2.heap.size w2 w3 := hw3 ▸ below_drewN (Below.refl _ _) nq
    have HB3 := hide (HB2.out.trans (hb3.mono HB2.out.size)); have HD13 := hide (HD1.out.below hb3); have HD23 := hide (HD2.out.below hb3); have HSA3 := hide (HSA2.out.below hb3); have HSB3 := hide (HSB2.out.below hb3); clear hb3 hlt1 e3; have HW3 := hide hw3; clear hw3
    cases hhas : jo.contains c0 with
    | false =>
      have HE : Hid (S.promote ⟨k0, a0, b0, c0, ⟨qr, qw, ql, qb⟩⟩ = (S, 1)) := hide (by
        unfold Vst.promote; simp only [HR.out, hhas]
        rfl)
      have HHAS := hide hhas; clear hhas; go_wp2; go_ret; rw [HE.out]
      exact H.out.stay HB3.out rfl
    | true =>
      have HE : Hid (S.promote ⟨k0, a0, b0, c0, ⟨qr, qw, ql, qb⟩⟩ = (S.turn ⟨id, vol, ep, me ++ [c0], wout jo c0⟩, 0)) := hide (by
        unfold Vst.promote; simp only [HR.out, hhas]
        rfl)
      have HHAS := hide hhas; clear hhas; have r3 := Below.refl w3.heap.size w3; have x3 : ∀ w', Below w3.heap.size w3 w' → w'.cell? ⟨w.heap.size, 3, none⟩ = some (.int .i64 c0) := HD13.out.rule 3 _ rfl; have u0 : ∀ w', Below w3.heap.size w3 w' → w'.cell? ⟨w1.heap.size, 0, none⟩ = some (.int .i64 id) := HD23.out.rule 0 _ rfl; have u1 : ∀ w', Below w3.heap.size w3 w' → w'.cell? ⟨w1.heap.size, 1, none⟩ = some (.int .i64 vol) := HD23.out.rule 1 _ rfl; have u2 : ∀ w', Below w3.heap.size w3 w' → w'.cell? ⟨w1.heap.size, 2, none⟩ = some (.int .i64 ep) := HD23.out.rule 2 _ rfl; have u3 := HD23.out.rule 3 _ rfl; have u4 := HD23.out.rule 4 _ rfl
      have z3 : ∀ w', Below w3.heap.size w3 w' → w'.frozen? ⟨w1.heap.size, 3, none⟩ = false := fun w' hb => (HD23.out.below hb).frozen 3
      have z4 : ∀ w', Below w3.heap.size w3 w' → w'.frozen? ⟨w1.heap.size, 4, none⟩ = false := fun w' hb => (HD23.out.below hb).frozen 4
      have HCM : Hid (∀ w', Below w3.heap.size w3 w' → Calls Tryz.prog 36 #[.slice A me.length c] w' fun e w'' => ∃ A' c', e = .returned (.slice A' me.length c') ∧ OwnI w3 w'' A' c' me ∧ Below w3.heap.size w3 w'' ∧ Below w'.heap.size w' w'') := hide (fun w' hb =>
        (cloneI_calls _ me.length c me no w' rfl (HSA3.out.below hb)).mono fun e w'' ⟨A', c', he, hm, hb2⟩ => ⟨A', c', he, hm.back hb, hb.trans (hb2.mono hb.size), hb2⟩)
      have HWJ : Hid (∀ w', Below w3.heap.size w3 w' → Calls Tryz.prog 110 #[.slice B jo.length d, .int .i64 c0] w' fun e w'' => ∃ A' c', e = .returned (.slice A' (wout jo c0).length c') ∧ MadeI w3 w'' A' c' (wout jo c0) ∧ Below w3.heap.size w3 w'' ∧ Below w'.heap.size w' w'') := hide (fun w' hb =>
        (without_calls _ d jo no c0 w' (HSB3.out.below hb)).mono fun e w'' ⟨A', c', he, hm, hb2⟩ => ⟨A', c', he, hm.back hb.size, hb.trans (hb2.mono hb.size), hb2⟩)
      go_wp2_with fail
      refine region_lxf (fun w' => Below w3.heap.size w3 w') [13] 8 [(2,0),(0,1),(2,3),(0,4),(2,7),(0,8),(2,9),(0,10)] (bzA 16 1947) (by (first | exact r3.drew | exact (r3.alloc (Nat.le_refl _) _).drew | exact HB4A.out | assumption)) (fun hS0 => ?_)
      (iterate 8 (first | refine lxt ?_ | refine lxp ?_))
      refine lxN (lxf2 2 5 (bzA 16 1951) (bzA 16 1979) ?_ ?_)
      focus
        refine lxa ?_
        go_simp
        (first
                    | (go_at_call 36; with_reducible refine (HCM.out _ (by first | exact r3.drew | exact (r3.alloc (Nat.le_refl _) _).drew)).mono ?_; rintro e w4 ⟨A4, c4, rfl, hm4, hb4, hb4'⟩; have HM4 := hd2 hm4 hb4'; clear hb4'; have HB4A := hide (hb4.alloc hb4.size (.cells #[.int .i64 c0] 3)); clear hm4)
                    | (go_at_call 110; with_reducible refine (HWJ.out _ hb45).mono ?_; rintro e w5 ⟨A5, c5, rfl, hm5, hb5, hb5'⟩; have HM5 := hd2 hm5 hb5'; clear hm5 hb5'))
        refine lxB (by (first | exact r3.drew | exact (r3.alloc (Nat.le_refl _) _).drew | exact HB4A.out | assumption)) (fun hS1 => ?_)
        refine lxm 0 [(1,5),(1,6),(2,12),(1,11),(3,13),(2,14),(3,15)] (bzA 16 65535) ?_
        (refine lxe ?_; go_simp; refine lxB (by (first | exact r3.drew | exact (r3.alloc (Nat.le_refl _) _).drew | exact HB4A.out | assumption)) (fun hS1 => ?_))
        (refine lxe ?_; (first | (refine app_wp _ _ 28 rfl 3 i0 _ 1 8 Tryz.underlying28 hi hz0 hz1 hz2 rfl (by decide) (.slice A4 me.length c4) me.length (me.map (Value.int .i64)) rfl (own_chg HM4.out.1.1 (Chg.of_below (L := []) ((Below.refl _ _).alloc (Nat.le_refl _) _)) (fun _ _ hx => by cases hx)) w4.heap.size 1 1 [.int .i64 c0] rfl (Blk.new rfl) rfl (by intro u hu; simp at hu; subst hu; rfl) (by decide) (by have := HME.out; unfold maxLen; omega) (by have := HME.out; omega) ?_; intro g2 cap2 w45 hown hch hor hlt; rw [owS] at hch hor; have hb45 : Below w3.heap.size w3 w45 := Chg.onto HB4A.out HB4A.out.size hch (fun x hx => HM4.out.1.2 x (by simpa using hx)); have HM45 := hide (OwnI.push HM4.out.1 hown (hor.imp (fun h => h) (fun h => by have := HB4A.out.size; omega))); clear hown hch hor hlt) | (refine app_wp _ _ 28 rfl 3 i0 _ 1 8 Tryz.underlying28 hi hz0 hz1 hz2 rfl (by decide) (.slice A4 me.length c4) me.length (me.map (Value.int .i64)) rfl HM4.out.1.1 w3.heap.size 1 1 [.int .i64 c0] rfl (Blk.below (w := (w3.alloc (.cells #[.int .i64 c0] 3)).drew) (Blk.new rfl) HM4.out.2) rfl (by intro u hu; simp at hu; subst hu; rfl) (by decide) (by have := HME.out; unfold maxLen; omega) (by have := HME.out; omega) ?_; intro g2 cap2 w45 hown hch hor hlt; rw [owS] at hch hor; have hb45 : Below w3.heap.size w3 w45 := Chg.onto hb4 hb4.size hch (fun x hx => HM4.out.1.2 x (by simpa using hx)); have HM45 := hide (OwnI.push HM4.out.1 hown (hor.imp (fun h => h) (fun h => by have := hb4.size; omega))); clear hown hch hor hlt)); (try simp only [Act.put, List.setIfInBounds_toArray, List.set_cons_zero, List.set_cons_succ]); refine lxB (by (first | exact r3.drew | exact (r3.alloc (Nat.le_refl _) _).drew | exact HB4A.out | assumption)) (fun hS1 => ?_))
        refine lxp ?_
        (refine lxe ?_; go_simp; (first
                    | (go_at_call 36; with_reducible refine (HCM.out _ (by first | exact r3.drew | exact (r3.alloc (Nat.le_refl _) _).drew)).mono ?_; rintro e w4 ⟨A4, c4, rfl, hm4, hb4, hb4'⟩; have HM4 := hd2 hm4 hb4'; clear hb4'; have HB4A := hide (hb4.alloc hb4.size (.cells #[.int .i64 c0] 3)); clear hm4)
                    | (go_at_call 110; with_reducible refine (HWJ.out _ hb45).mono ?_; rintro e w5 ⟨A5, c5, rfl, hm5, hb5, hb5'⟩; have HM5 := hd2 hm5 hb5'; clear hm5 hb5')); refine lxB (by (first | exact r3.drew | exact (r3.alloc (Nat.le_refl _) _).drew | exact HB4A.out | assumption)) (fun hS1 => ?_))
        (refine lxn ?_; go_simp)
        refine lxp ?_
        (refine lxn ?_; go_simp)
        refine lxN (lxd ?_)
      rotate_left
      focus
        refine lxa ?_
        go_simp
        refine lxB (by (first | exact r3.drew | exact (r3.alloc (Nat.le_refl _) _).drew | exact HB4A.out | assumption)) (fun hS1 => ?_)
        refine lxm 0 [(1,2),(1,6),(2,12),(1,11),(3,13),(2,14),(3,15)] (bzA 16 65535) ?_
        (refine lxe ?_; go_simp; (first
                    | (go_at_call 36; with_reducible refine (HCM.out _ (by first | exact r3.drew | exact (r3.alloc (Nat.le_refl _) _).drew)).mono ?_; rintro e w4 ⟨A4, c4, rfl, hm4, hb4, hb4'⟩; have HM4 := hd2 hm4 hb4'; clear hb4'; have HB4A := hide (hb4.alloc hb4.size (.cells #[.int .i64 c0] 3)); clear hm4)
                    | (go_at_call 110; with_reducible refine (HWJ.out _ hb45).mono ?_; rintro e w5 ⟨A5, c5, rfl, hm5, hb5, hb5'⟩; have HM5 := hd2 hm5 hb5'; clear hm5 hb5')); refine lxB (by (first | exact r3.drew | exact (r3.alloc (Nat.le_refl _) _).drew | exact HB4A.out | assumption)) (fun hS1 => ?_))
        (refine lxe ?_; (first | (refine app_wp _ _ 28 rfl 3 i0 _ 1 8 Tryz.underlying28 hi hz0 hz1 hz2 rfl (by decide) (.slice A4 me.length c4) me.length (me.map (Value.int .i64)) rfl (own_chg HM4.out.1.1 (Chg.of_below (L := []) ((Below.refl _ _).alloc (Nat.le_refl _) _)) (fun _ _ hx => by cases hx)) w4.heap.size 1 1 [.int .i64 c0] rfl (Blk.new rfl) rfl (by intro u hu; simp at hu; subst hu; rfl) (by decide) (by have := HME.out; unfold maxLen; omega) (by have := HME.out; omega) ?_; intro g2 cap2 w45 hown hch hor hlt; rw [owS] at hch hor; have hb45 : Below w3.heap.size w3 w45 := Chg.onto HB4A.out HB4A.out.size hch (fun x hx => HM4.out.1.2 x (by simpa using hx)); have HM45 := hide (OwnI.push HM4.out.1 hown (hor.imp (fun h => h) (fun h => by have := HB4A.out.size; omega))); clear hown hch hor hlt) | (refine app_wp _ _ 28 rfl 3 i0 _ 1 8 Tryz.underlying28 hi hz0 hz1 hz2 rfl (by decide) (.slice A4 me.length c4) me.length (me.map (Value.int .i64)) rfl HM4.out.1.1 w3.heap.size 1 1 [.int .i64 c0] rfl (Blk.below (w := (w3.alloc (.cells #[.int .i64 c0] 3)).drew) (Blk.new rfl) HM4.out.2) rfl (by intro u hu; simp at hu; subst hu; rfl) (by decide) (by have := HME.out; unfold maxLen; omega) (by have := HME.out; omega) ?_; intro g2 cap2 w45 hown hch hor hlt; rw [owS] at hch hor; have hb45 : Below w3.heap.size w3 w45 := Chg.onto hb4 hb4.size hch (fun x hx => HM4.out.1.2 x (by simpa using hx)); have HM45 := hide (OwnI.push HM4.out.1 hown (hor.imp (fun h => h) (fun h => by have := hb4.size; omega))); clear hown hch hor hlt)); (try simp only [Act.put, List.setIfInBounds_toArray, List.set_cons_zero, List.set_cons_succ]); refine lxB (by (first | exact r3.drew | exact (r3.alloc (Nat.le_refl _) _).drew | exact HB4A.out | assumption)) (fun hS1 => ?_))
        refine lxp ?_
        (refine lxe ?_; go_simp; (first
                    | (go_at_call 36; with_reducible refine (HCM.out _ (by first | exact r3.drew | exact (r3.alloc (Nat.le_refl _) _).drew)).mono ?_; rintro e w4 ⟨A4, c4, rfl, hm4, hb4, hb4'⟩; have HM4 := hd2 hm4 hb4'; clear hb4'; have HB4A := hide (hb4.alloc hb4.size (.cells #[.int .i64 c0] 3)); clear hm4)
                    | (go_at_call 110; with_reducible refine (HWJ.out _ hb45).mono ?_; rintro e w5 ⟨A5, c5, rfl, hm5, hb5, hb5'⟩; have HM5 := hd2 hm5 hb5'; clear hm5 hb5')); refine lxB (by (first | exact r3.drew | exact (r3.alloc (Nat.le_refl _) _).drew | exact HB4A.out | assumption)) (fun hS1 => ?_))
        (refine lxn ?_; go_simp)
        refine lxp ?_
        (refine lxn ?_; go_simp)
        refine lxN (lxd ?_)
      rotate_left
      all_goals
        have hid := (fd_some (at_fd HR.out)).2; have hin := HN.out.2 _ (fd_some (at_fd HR.out)).1; simp only [] at hid hin; have hw13 : w1.heap.size < w3.heap.size := HD23.out.lt; have D6 := ((HD23.out.below hb5).set 3 (.slice (some ⟨g2, 0, none⟩) (me.length + 1) cap2)).set 4 (.slice A5 (wout jo c0).length c5); have hc6 : Chg [w1.heap.size] w5 ((w5.setCell ⟨w1.heap.size, 3, none⟩ (.slice (some ⟨g2, 0, none⟩) (me.length + 1) cap2)).setCell ⟨w1.heap.size, 4, none⟩ (.slice A5 (wout jo c0).length c5)) := ((Chg.refl _ _).setCell (Or.inl (by simp)) _).setCell (Or.inl (by simp)) _; have hb35 := HB3.out.trans (hb5.mono HB3.out.size); have hb6 := Chg.onto hb35 hb35.size hc6 (fun x hx => by rw [List.mem_singleton.1 hx]; exact HWB.out); have M4 := (HM45.out.below HM5.out.2).chg hc6 (fun x hx => by rw [List.mem_singleton.1 hx]; exact hw13); have M5 := HM5.out.1.chg hc6 (fun x hx => by rw [List.mem_singleton.1 hx]; exact hw13); obtain ⟨w6, hw6⟩ : ∃ w6, (w5.setCell ⟨w1.heap.size, 3, none⟩ (.slice (some ⟨g2, 0, none⟩) (me.length + 1) cap2)).setCell ⟨w1.heap.size, 4, none⟩ (.slice A5 (wout jo c0).length c5) = w6 := ⟨_, rfl⟩; rw [hw6] at D6 hb6 M4 M5; rw [hw6]; simp only [List.set_cons_zero, List.set_cons_succ] at D6
        have hnl : ∀ x ∈ no, x < w3.heap.size := fun x hx => Nat.lt_of_lt_of_le (H.out.lt x hx) HB3.out.size
        have hT := vturn_calls w6 no b m1 m2 m3 S V C ⟨⟨id, vol, ep, (me ++ [c0]), (wout jo c0)⟩, (some ⟨g2, 0, none⟩), cap2, A5, c5⟩ (H.out.below hb6) (M4.sl (by have := HME.out; simp; omega) hnl) (M5.sl (by have := List.length_filter_le (fun k => k != c0) jo; have := HSB3.out.ln; unfold wout; omega) hnl) (by simp only []; rw [hid]; exact hqa.out) hin.1 hin.2 HN.out.1; simp only [CkM.val, CkM.cells, List.length_append, List.length_singleton] at hT; have HT := hide hT; have HB6 := hide hb6; have u0 := D6.cell 0; have u1 := D6.cell 1; have u2 := D6.cell 2; have u3 := D6.cell 3; have u4 := D6.cell 4; simp only [List.getElem?_cons_succ, List.getElem?_cons_zero] at u0 u1 u2 u3 u4; have HW6 := hide hw6; clear hT hb6 D6 hc6 hb35 M4 M5 hw6 hnl hid hin hw13; go_wp2_with fail; refine HT.out.mono ?_; rintro e w7 ⟨rfl, hcg, hvm⟩; have HF := hd2 hcg hvm; clear hcg hvm; go_wp2; go_ret; rw [HE.out]
        exact ⟨rfl, (Chg.of_below (L := [b, m1, m2, m3]) HB6.out).trans HF.out.1 (fun x hx => Or.inl hx), HF.out.2⟩
theorem vjoin_calls (w : World) (no : List Nat) (b m1 m2 m3 : Nat) (S : Vst) (V : List VoM) (C : List CkM) (q : Cmd) (h : VM w no b m1 m2 m3 S V C) (hq : q.ok) (hl : S.cs.length < 1000000) (hc : ∀ c ∈ S.cs, 0 ≤ c.ep ∧ c.ep ≤ 1000000) :
  Calls Tryz.prog 63 #[.pointer (some ⟨b, 0, none⟩), q.val] w fun e w' => Stp w w' no b m1 m2 m3 (S.join q) e := by
 obtain ⟨i0, hi, hz0, hz1, hz2⟩ := info_parts Tryz.infoI3; have HN := hd2 hl hc; clear hl hc; obtain ⟨k0, a0, b0, c0, ⟨qr, qw, ql, qb⟩⟩ := q; obtain ⟨w0, hw0⟩ : ∃ w0, w.alloc (.cells #[.int .i64 k0, .int .i64 a0, .int .i64 b0, .int .i64 c0, .int .i64 qr, .int .i64 qw, .int .i64 ql, .int .i64 qb] 35) = w0 := ⟨_, rfl⟩
 have hb0 : Below w.heap.size w w0 := hw0 ▸ (Below.refl w.heap.size w).alloc (Nat.le_refl _) _
 have d1 : Blk w0 w.heap.size 35 [.int .i64 k0, .int .i64 a0, .int .i64 b0, .int .i64 c0, .int .i64 qr, .int .i64 qw, .int .i64 ql, .int .i64 qb] := hw0 ▸ Blk.new rfl
 have hs0 : Hid (w0.heap.size = w.heap.size + 1) := hide (by rw [← hw0]; simp)
 have hat := fun w' (hb : Below w0.heap.size w0 w') => vat_calls w' no b m1 m2 m3 S V C ⟨k0, a0, b0, c0, ⟨qr, qw, ql, qb⟩⟩ (h.below (hb0.trans (hb.mono hb0.size))) hq
 simp only [Cmd.val, Cmd.cells] at hat; have HC0 := hide hq.c; have HB0 := hide hb0; have HD := hide d1; have H := hide h; have hqc := hide hq.c; have hqa := hide hq.a; clear hq h hb0 d1; unfold Cmd.val Cmd.cells; simp only []; have r0 := Below.refl w0.heap.size w0; have x3 : ∀ w', Below w0.heap.size w0 w' → w'.cell? ⟨w.heap.size, 3, none⟩ = some (.int .i64 c0) := HD.out.rule 3 _ rfl; have cm : ∀ w', Below w0.heap.size w0 w' → w'.cell? ⟨b, 0, none⟩ = some (.map (some m1)) := (H.out.below HB0.out).blk.rule 0 _ rfl
 have l0 : ∀ w', Below w0.heap.size w0 w' → (Instr.lookup 72 (.map (some m1)) (.int .i64 c0) true).run Tryz.prog w' = .ok (.tuple #[((fd Prod.fst S.sv c0).map svVal).getD (.int .i64 0), .bool (fd Prod.fst S.sv c0).isSome]) w' := fun w' hb =>
  (((H.out.below HB0.out).below hb).t1).look_ok hqc.out Tryz.underlying72 (by simp [Tryz.zeroValue3])
 obtain ⟨zv, hzv⟩ : ∃ zv, ((fd Prod.fst S.sv c0).map svVal).getD (.int .i64 0) = zv := ⟨_, rfl⟩; obtain ⟨t, ht⟩ : ∃ t, (fd Prod.fst S.sv c0).isSome = t := ⟨_, rfl⟩; simp only [hzv, ht] at l0; have HT := hide ht; clear hzv ht; have HBD := hide (HB0.out.trans (r0.drew.mono HB0.out.size)); have HDD := hide (HD.out.below r0.drew)
 cases t with
 |false =>
  have HE : Hid (S.join ⟨k0, a0, b0, c0, ⟨qr, qw, ql, qb⟩⟩ = (S, 7)) := hide (by
   unfold Vst.join; simp only []; rw [HT.out]
   rfl)
  have HAT := hide (hat w0.drew r0.drew); clear hat
  go_enter Tryz.func63, Tryz.ntmps63
  go_wp2_with fail
  refine region_lx (fun w' => Below w0.heap.size w0 w') [] [2, 2, 2, 0, 2, 0, 0, 2, 2, 2, 2, 2] (by (exact r0.drew)) (fun hS0 => ?_)
  (iterate 12 (first | refine lxt ?_ | refine lxp ?_))
  refine lxN ?_
  clear hS0 l0 cm x3; have E1 := HDD.out; have y0 := E1.cell 0; have y1 := E1.cell 1; have y2 := E1.cell 2; have y3 := E1.cell 3; have y4 := E1.cell 4; have y5 := E1.cell 5; have y6 := E1.cell 6; have y7 := E1.cell 7; simp only [List.getElem?_cons_succ, List.getElem?_cons_zero] at y0 y1 y2 y3 y4 y5 y6 y7; clear E1; go_wp2_with fail; refine HAT.out.mono ?_; rintro e w1 ⟨y, rfl, hok, hsA, hsB, hb1⟩; obtain ⟨⟨id, vol, ep, me, jo⟩, A, c, B, d⟩ := y; simp only [CkM.val, CkM.cells]; simp only [] at hsA hsB hok; have HBW := hide (HBD.out.trans (hb1.mono HBD.out.size)); have E := hide (HDD.out.below hb1); have HSA := hide (hsA.below hb1); have HSB := hide (hsB.below hb1); have HOK := hide hok; have hlt1 : w.heap.size < w1.heap.size := E.out.lt; have e3 : w1.cell? ⟨w.heap.size, 3, none⟩ = some (.int .i64 c0) := E.out.cell 3; clear hsA hsB hb1 y0 y1 y2 y3 y4 y5 y6 y7 hok; go_wp2; go_ret; rw [HE.out]
  exact H.out.stay (HBW.out.alloc HBW.out.size _) rfl
 |true =>
  cases hr : S.at_ a0 b0 with
  |error n =>
   have HE : Hid (S.join ⟨k0, a0, b0, c0, ⟨qr, qw, ql, qb⟩⟩ = (S, n)) := hide (by
    unfold Vst.join; simp only [hr]; rw [HT.out]
    rfl)
   have HAT := hide (hat w0.drew r0.drew); simp only [hr, errOf] at HAT; clear hat
   rcases at_err hr with rfl | rfl
   ·clear hr
    go_enter Tryz.func63, Tryz.ntmps63
    go_wp2_with fail
    refine region_lx (fun w' => Below w0.heap.size w0 w') [] [2, 2, 2, 0, 2, 0, 0, 2, 2, 2, 2, 2] (by (exact r0.drew)) (fun hS0 => ?_)
    (iterate 12 (first | refine lxt ?_ | refine lxp ?_))
    refine lxN ?_
    clear hS0 l0 cm x3; have E1 := HDD.out; have y0 := E1.cell 0; have y1 := E1.cell 1; have y2 := E1.cell 2; have y3 := E1.cell 3; have y4 := E1.cell 4; have y5 := E1.cell 5; have y6 := E1.cell 6; have y7 := E1.cell 7; simp only [List.getElem?_cons_succ, List.getElem?_cons_zero] at y0 y1 y2 y3 y4 y5 y6 y7; clear E1; go_wp2_with fail; refine HAT.out.mono ?_; rintro e w1 ⟨y, rfl, hok, hsA, hsB, hb1⟩; obtain ⟨⟨id, vol, ep, me, jo⟩, A, c, B, d⟩ := y; simp only [CkM.val, CkM.cells]; simp only [] at hsA hsB hok; have HBW := hide (HBD.out.trans (hb1.mono HBD.out.size)); have E := hide (HDD.out.below hb1); have HSA := hide (hsA.below hb1); have HSB := hide (hsB.below hb1); have HOK := hide hok; have hlt1 : w.heap.size < w1.heap.size := E.out.lt; have e3 : w1.cell? ⟨w.heap.size, 3, none⟩ = some (.int .i64 c0) := E.out.cell 3; clear hsA hsB hb1 y0 y1 y2 y3 y4 y5 y6 y7 hok; go_wp2; go_ret; rw [HE.out]
    exact H.out.stay (HBW.out.alloc HBW.out.size _) rfl
   ·clear hr
    go_enter Tryz.func63, Tryz.ntmps63
    go_wp2_with fail
    refine region_lx (fun w' => Below w0.heap.size w0 w') [] [2, 2, 2, 0, 2, 0, 0, 2, 2, 2, 2, 2] (by (exact r0.drew)) (fun hS0 => ?_)
    (iterate 12 (first | refine lxt ?_ | refine lxp ?_))
    refine lxN ?_
    clear hS0 l0 cm x3; have E1 := HDD.out; have y0 := E1.cell 0; have y1 := E1.cell 1; have y2 := E1.cell 2; have y3 := E1.cell 3; have y4 := E1.cell 4; have y5 := E1.cell 5; have y6 := E1.cell 6; have y7 := E1.cell 7; simp only [List.getElem?_cons_succ, List.getElem?_cons_zero] at y0 y1 y2 y3 y4 y5 y6 y7; clear E1; go_wp2_with fail; refine HAT.out.mono ?_; rintro e w1 ⟨y, rfl, hok, hsA, hsB, hb1⟩; obtain ⟨⟨id, vol, ep, me, jo⟩, A, c, B, d⟩ := y; simp only [CkM.val, CkM.cells]; simp only [] at hsA hsB hok; have HBW := hide (HBD.out.trans (hb1.mono HBD.out.size)); have E := hide (HDD.out.below hb1); have HSA := hide (hsA.below hb1); have HSB := hide (hsB.below hb1); have HOK := hide hok; have hlt1 : w.heap.size < w1.heap.size := E.out.lt; have e3 : w1.cell? ⟨w.heap.size, 3, none⟩ = some (.int .i64 c0) := E.out.cell 3; clear hsA hsB hb1 y0 y1 y2 y3 y4 y5 y6 y7 hok; go_wp2; go_ret; rw [HE.out]
    exact H.out.stay (HBW.out.alloc HBW.out.size _) rfl
  |ok k =>
   have HAT := hide (hat w0.drew r0.drew); simp only [hr, errOf] at HAT; have HR := hide hr; clear hr hat
   go_enter Tryz.func63, Tryz.ntmps63
   go_wp2_with fail
   refine region_lx (fun w' => Below w0.heap.size w0 w') [] [2, 2, 2, 0, 2, 0, 0, 2, 2, 2, 2, 2] (by (exact r0.drew)) (fun hS0 => ?_)
   (iterate 12 (first | refine lxt ?_ | refine lxp ?_))
   refine lxN ?_
   clear hS0 l0 cm x3; have E1 := HDD.out; have y0 := E1.cell 0; have y1 := E1.cell 1; have y2 := E1.cell 2; have y3 := E1.cell 3; have y4 := E1.cell 4; have y5 := E1.cell 5; have y6 := E1.cell 6; have y7 := E1.cell 7; simp only [List.getElem?_cons_succ, List.getElem?_cons_zero] at y0 y1 y2 y3 y4 y5 y6 y7; clear E1; go_wp2_with fail; refine HAT.out.mono ?_; rintro e w1 ⟨y, rfl, hok, hsA, hsB, hb1⟩; obtain ⟨⟨id, vol, ep, me, jo⟩, A, c, B, d⟩ := y; simp only [CkM.val, CkM.cells]; simp only [] at hsA hsB hok; have HBW := hide (HBD.out.trans (hb1.mono HBD.out.size)); have E := hide (HDD.out.below hb1); have HSA := hide (hsA.below hb1); have HSB := hide (hsB.below hb1); have HOK := hide hok; have hlt1 : w.heap.size < w1.heap.size := E.out.lt; have e3 : w1.cell? ⟨w.heap.size, 3, none⟩ = some (.int .i64 c0) := E.out.cell 3; clear hsA hsB hb1 y0 y1 y2 y3 y4 y5 y6 y7 hok; have hky := (HOK.out k rfl).1; subst hky; have HSAW := hide (H.out.sC _ (fd_some (HOK.out _ rfl).2).1).1; have d2 : Blk (w1.alloc (.cells #[.int .i64 id, .int .i64 vol, .int .i64 ep, .slice A me.length c, .slice B jo.length d] 90)) w1.heap.size 90 [.int .i64 id, .int .i64 vol, .int .i64 ep, .slice A me.length c, .slice B jo.length d] := Blk.new rfl; have q2 := (Below.refl w1.heap.size w1).alloc (Nat.le_refl _) (.cells #[.int .i64 id, .int .i64 vol, .int .i64 ep, .slice A me.length c, .slice B jo.length d] 90); have d1' := E.out.below q2; have hb2 := HBW.out.trans (q2.mono HBW.out.size); have sA2 := HSA.out.below q2; have sB2 := HSB.out.below q2; obtain ⟨w2, hw2⟩ : ∃ w2, w1.alloc (.cells #[.int .i64 id, .int .i64 vol, .int .i64 ep, .slice A me.length c, .slice B jo.length d] 90) = w2 := ⟨_, rfl⟩; rw [hw2] at d2 d1' hb2 sA2 sB2; have HSA2 := hide sA2; have HSB2 := hide sB2; have HB2 := hide hb2; have HD1 := hide d1'; have HD2 := hide d2; have HW2 := hide hw2; have HWB := hide (show w.heap.size ≤ w1.heap.size from HBW.out.size); clear d2 d1' hb2 sA2 sB2 hw2 q2; go_wp2_with fail; rw [show w1.alloc (.cells #[.int .i64 id, .int .i64 vol, .int .i64 ep, .slice A me.length c, .slice B jo.length d] 90) = w2 from HW2.out]
   refine (vhas_calls ⟨⟨id, vol, ep, me, jo⟩, A, c, B, d⟩ c0 no w2 HSA2.out HSB2.out).mono ?_
   rintro e w3 ⟨rfl, hb3⟩; have HB3 := hide (HB2.out.trans (hb3.mono HB2.out.size)); have HD13 := hide (HD1.out.below hb3); have HD23 := hide (HD2.out.below hb3); have HSA3 := hide (HSA2.out.below hb3); have HSB3 := hide (HSB2.out.below hb3); clear hb3 hlt1 e3
   cases hhas : (⟨id, vol, ep, me, jo⟩ : Ck).has c0 with
   |true =>
    have HE : Hid (S.join ⟨k0, a0, b0, c0, ⟨qr, qw, ql, qb⟩⟩ = (S, 8)) := hide (by
     unfold Vst.join; simp only [HR.out, hhas]; rw [HT.out]
     rfl)
    have HHAS := hide hhas; clear hhas; go_wp2; go_ret; rw [HE.out]
    exact H.out.stay HB3.out rfl
   |false =>
    have v3 : w3.cell? ⟨w1.heap.size, 3, none⟩ = some (.slice A me.length c) := HD23.out.cell 3; have v4 : w3.cell? ⟨w1.heap.size, 4, none⟩ = some (.slice B jo.length d) := HD23.out.cell 4; have hln1 := HSA3.out.ln; have hln2 := HSB3.out.ln
    by_cases hfull : 4 ≤ me.length + jo.length
    ·have HE : Hid (S.join ⟨k0, a0, b0, c0, ⟨qr, qw, ql, qb⟩⟩ = (S, 6)) := hide (by
      unfold Vst.join; simp only [HR.out, hhas]; rw [HT.out]
      simp [hfull])
     have HHAS := hide hhas
     have i1 : (4 : Int) ≤ me.length + jo.length := by omega
     clear hhas hfull; go_wp2; go_ret; rw [HE.out]
     exact H.out.stay HB3.out rfl
    ·have HE : Hid (S.join ⟨k0, a0, b0, c0, ⟨qr, qw, ql, qb⟩⟩ = (S.turn ⟨id, vol, ep, me, jo ++ [c0]⟩, 0)) := hide (by
      unfold Vst.join; simp only [HR.out, hhas]; rw [HT.out]
      simp [hfull])
     have HHAS := hide hhas; have HFU := hide hfull
     have i1 : ¬ ((4 : Int) ≤ me.length + jo.length) := by omega
     clear hhas hfull; have r3 := Below.refl w3.heap.size w3; have x3' : ∀ w', Below w3.heap.size w3 w' → w'.cell? ⟨w.heap.size, 3, none⟩ = some (.int .i64 c0) := HD13.out.rule 3 _ rfl; have u4 := HD23.out.rule 4 _ rfl
     have z4 : ∀ w', Below w3.heap.size w3 w' → w'.frozen? ⟨w1.heap.size, 4, none⟩ = false := fun w' hb => (HD23.out.below hb).frozen 4
     have HCM : Hid (∀ w', Below w3.heap.size w3 w' → Calls Tryz.prog 36 #[.slice B jo.length d] w' fun e w'' => ∃ A' c', e = .returned (.slice A' jo.length c') ∧ OwnI w3 w'' A' c' jo ∧ Below w3.heap.size w3 w'' ∧ Below w'.heap.size w' w'') := hide (fun w' hb =>
      (cloneI_calls _ jo.length d jo no w' rfl (HSB3.out.below hb)).mono fun e w'' ⟨A', c', he, hm, hb2⟩ => ⟨A', c', he, hm.back hb, hb.trans (hb2.mono hb.size), hb2⟩)
     go_wp2_with fail
     refine region_lxf (fun w' => Below w3.heap.size w3 w') [8] 5 [(2,0),(0,1),(2,3),(0,4)] (bzA 9 27) (by (first | exact r3.drew | exact (r3.alloc (Nat.le_refl _) _).drew | exact HB4A.out | assumption)) (fun hS0 => ?_)
     (iterate 4 (first | refine lxt ?_ | refine lxp ?_))
     refine lxN (lxf2 2 5 (bzA 9 31) (bzA 9 59) ?_ ?_)
     focus
      refine lxa ?_
      go_simp
      ((go_at_call 36; with_reducible refine (HCM.out _ (by first | exact r3.drew | exact (r3.alloc (Nat.le_refl _) _).drew)).mono ?_; rintro e w4 ⟨A4, c4, rfl, hm4, hb4, hb4'⟩; have HM4 := hd2 hm4 hb4'; clear hb4'; have HB4A := hide (hb4.alloc hb4.size (.cells #[.int .i64 c0] 3)); clear hm4))
      refine lxB (by (first | exact r3.drew | exact (r3.alloc (Nat.le_refl _) _).drew | exact HB4A.out | assumption)) (fun hS1 => ?_)
      refine lxm 0 [(1,5),(1,6),(2,7),(3,8)] (bzA 9 511) ?_
      (refine lxe ?_; go_simp; refine lxB (by (first | exact r3.drew | exact (r3.alloc (Nat.le_refl _) _).drew | exact HB4A.out | assumption)) (fun hS1 => ?_))
      (refine lxe ?_; (first | (refine app_wp _ _ 28 rfl 3 i0 _ 1 8 Tryz.underlying28 hi hz0 hz1 hz2 rfl (by decide) (.slice A4 jo.length c4) jo.length (jo.map (Value.int .i64)) rfl (own_chg HM4.out.1.1 (Chg.of_below (L := []) ((Below.refl _ _).alloc (Nat.le_refl _) _)) (fun _ _ hx => by cases hx)) w4.heap.size 1 1 [.int .i64 c0] rfl (Blk.new rfl) rfl (by intro u hu; simp at hu; subst hu; rfl) (by decide) (by have := hln2; unfold maxLen; omega) (by have := hln2; omega) ?_; intro g2 cap2 w45 hown hch hor hlt; rw [owS] at hch hor; have hb45 : Below w3.heap.size w3 w45 := Chg.onto HB4A.out HB4A.out.size hch (fun x hx => HM4.out.1.2 x (by simpa using hx)); have HM45 := hide (OwnI.push HM4.out.1 hown (hor.imp (fun h => h) (fun h => by have := HB4A.out.size; omega))); clear hown hch hor hlt) | (refine app_wp _ _ 28 rfl 3 i0 _ 1 8 Tryz.underlying28 hi hz0 hz1 hz2 rfl (by decide) (.slice A4 jo.length c4) jo.length (jo.map (Value.int .i64)) rfl HM4.out.1.1 w3.heap.size 1 1 [.int .i64 c0] rfl (Blk.below (w := (w3.alloc (.cells #[.int .i64 c0] 3)).drew) (Blk.new rfl) HM4.out.2) rfl (by intro u hu; simp at hu; subst hu; rfl) (by decide) (by have := hln2; unfold maxLen; omega) (by have := hln2; omega) ?_; intro g2 cap2 w45 hown hch hor hlt; rw [owS] at hch hor; have hb45 : Below w3.heap.size w3 w45 := Chg.onto hb4 hb4.size hch (fun x hx => HM4.out.1.2 x (by simpa using hx)); have HM45 := hide (OwnI.push HM4.out.1 hown (hor.imp (fun h => h) (fun h => by have := hb4.size; omega))); clear hown hch hor hlt)); (try simp only [Act.put, List.setIfInBounds_toArray, List.set_cons_zero, List.set_cons_succ]); refine lxB (by (first | exact r3.drew | exact (r3.alloc (Nat.le_refl _) _).drew | exact HB4A.out | assumption)) (fun hS1 => ?_))
      refine lxp ?_
      (refine lxn ?_; go_simp)
      refine lxN (lxd ?_)
     rotate_left
     focus
      refine lxa ?_
      go_simp
      refine lxB (by (first | exact r3.drew | exact (r3.alloc (Nat.le_refl _) _).drew | exact HB4A.out | assumption)) (fun hS1 => ?_)
      refine lxm 0 [(1,2),(1,6),(2,7),(3,8)] (bzA 9 511) ?_
      (refine lxe ?_; go_simp; ((go_at_call 36; with_reducible refine (HCM.out _ (by first | exact r3.drew | exact (r3.alloc (Nat.le_refl _) _).drew)).mono ?_; rintro e w4 ⟨A4, c4, rfl, hm4, hb4, hb4'⟩; have HM4 := hd2 hm4 hb4'; clear hb4'; have HB4A := hide (hb4.alloc hb4.size (.cells #[.int .i64 c0] 3)); clear hm4)); refine lxB (by (first | exact r3.drew | exact (r3.alloc (Nat.le_refl _) _).drew | exact HB4A.out | assumption)) (fun hS1 => ?_))
      (refine lxe ?_; (first | (refine app_wp _ _ 28 rfl 3 i0 _ 1 8 Tryz.underlying28 hi hz0 hz1 hz2 rfl (by decide) (.slice A4 jo.length c4) jo.length (jo.map (Value.int .i64)) rfl (own_chg HM4.out.1.1 (Chg.of_below (L := []) ((Below.refl _ _).alloc (Nat.le_refl _) _)) (fun _ _ hx => by cases hx)) w4.heap.size 1 1 [.int .i64 c0] rfl (Blk.new rfl) rfl (by intro u hu; simp at hu; subst hu; rfl) (by decide) (by have := hln2; unfold maxLen; omega) (by have := hln2; omega) ?_; intro g2 cap2 w45 hown hch hor hlt; rw [owS] at hch hor; have hb45 : Below w3.heap.size w3 w45 := Chg.onto HB4A.out HB4A.out.size hch (fun x hx => HM4.out.1.2 x (by simpa using hx)); have HM45 := hide (OwnI.push HM4.out.1 hown (hor.imp (fun h => h) (fun h => by have := HB4A.out.size; omega))); clear hown hch hor hlt) | (refine app_wp _ _ 28 rfl 3 i0 _ 1 8 Tryz.underlying28 hi hz0 hz1 hz2 rfl (by decide) (.slice A4 jo.length c4) jo.length (jo.map (Value.int .i64)) rfl HM4.out.1.1 w3.heap.size 1 1 [.int .i64 c0] rfl (Blk.below (w := (w3.alloc (.cells #[.int .i64 c0] 3)).drew) (Blk.new rfl) HM4.out.2) rfl (by intro u hu; simp at hu; subst hu; rfl) (by decide) (by have := hln2; unfold maxLen; omega) (by have := hln2; omega) ?_; intro g2 cap2 w45 hown hch hor hlt; rw [owS] at hch hor; have hb45 : Below w3.heap.size w3 w45 := Chg.onto hb4 hb4.size hch (fun x hx => HM4.out.1.2 x (by simpa using hx)); have HM45 := hide (OwnI.push HM4.out.1 hown (hor.imp (fun h => h) (fun h => by have := hb4.size; omega))); clear hown hch hor hlt)); (try simp only [Act.put, List.setIfInBounds_toArray, List.set_cons_zero, List.set_cons_succ]); refine lxB (by (first | exact r3.drew | exact (r3.alloc (Nat.le_refl _) _).drew | exact HB4A.out | assumption)) (fun hS1 => ?_))
      refine lxp ?_
      (refine lxn ?_; go_simp)
      refine lxN (lxd ?_)
     rotate_left
     all_goals
      have hid := (fd_some (at_fd HR.out)).2; have hin := HN.out.2 _ (fd_some (at_fd HR.out)).1; simp only [] at hid hin; have hw13 : w1.heap.size < w3.heap.size := HD23.out.lt; have D6 := (HD23.out.below hb45).set 4 (.slice (some ⟨g2, 0, none⟩) (jo.length + 1) cap2); have hc6 : Chg [w1.heap.size] w45 (w45.setCell ⟨w1.heap.size, 4, none⟩ (.slice (some ⟨g2, 0, none⟩) (jo.length + 1) cap2)) := (Chg.refl _ _).setCell (Or.inl (by simp)) _; have hb35 := HB3.out.trans (hb45.mono HB3.out.size); have hb6 := Chg.onto hb35 hb35.size hc6 (fun x hx => by rw [List.mem_singleton.1 hx]; exact HWB.out); have M5 := HM45.out.chg hc6 (fun x hx => by rw [List.mem_singleton.1 hx]; exact hw13); obtain ⟨w6, hw6⟩ : ∃ w6, w45.setCell ⟨w1.heap.size, 4, none⟩ (.slice (some ⟨g2, 0, none⟩) (jo.length + 1) cap2) = w6 := ⟨_, rfl⟩; rw [hw6] at D6 hb6 M5; rw [hw6]; simp only [List.set_cons_zero, List.set_cons_succ] at D6
      have hnl : ∀ x ∈ no, x < w3.heap.size := fun x hx => Nat.lt_of_lt_of_le (H.out.lt x hx) HB3.out.size
      have hT := vturn_calls w6 no b m1 m2 m3 S V C ⟨⟨id, vol, ep, me, jo ++ [c0]⟩, A, c, (some ⟨g2, 0, none⟩), cap2⟩ (H.out.below hb6) (HSAW.out.below hb6) (M5.sl (by have := HFU.out; simp; omega) hnl) (by simp only []; rw [hid]; exact hqa.out) hin.1 hin.2 HN.out.1; simp only [CkM.val, CkM.cells, List.length_append, List.length_singleton] at hT; have HT2 := hide hT; have HB6 := hide hb6; have u0 := D6.cell 0; have u1 := D6.cell 1; have u2 := D6.cell 2; have u3 := D6.cell 3; have u4 := D6.cell 4; simp only [List.getElem?_cons_succ, List.getElem?_cons_zero] at u0 u1 u2 u3 u4; have HW6 := hide hw6; clear hT hb6 D6 hc6 hb35 M5 hw6 hnl hid hin hw13; go_wp2_with fail; refine HT2.out.mono ?_; rintro e w7 ⟨rfl, hcg, hvm⟩; have HF := hd2 hcg hvm; clear hcg hvm; go_wp2; go_ret; rw [HE.out]
      exact ⟨rfl, (Chg.of_below (L := [b, m1, m2, m3]) HB6.out).trans HF.out.1 (fun x hx => Or.inl hx), HF.out.2⟩
end Go.Proofs.YtcahcjfgmdpdoaaGreat
