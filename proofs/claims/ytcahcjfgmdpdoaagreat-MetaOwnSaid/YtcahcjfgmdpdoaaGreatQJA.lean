/- One text of: Jfm Jby Jrd. -/
import Derived.Test.YtcahcjfgmdpdoaaGreatQDB
import Derived.Test.YtcahcjfgmdpdoaaGreatQDA
set_option maxHeartbeats 4000000
set_option maxRecDepth 100000
namespace Go.Proofs.YtcahcjfgmdpdoaaGreat
open Go.RowKit Go.Proofs
set_option linter.unusedVariables false
set_option linter.unusedSimpArgs false

theorem made_bys (n : Nat) : (madeCells #[Value.int .u8 0] (n * 1)).toList = bys (List.replicate n 0) := by
 apply List.ext_getElem?
 intro j
 unfold madeCells bys; rw [Array.toList_map, List.getElem?_map, Array.toList_range, List.getElem?_map, Nat.mul_one]
 by_cases hj : j < n
 ·rw [List.getElem?_range hj, List.getElem?_replicate_of_lt hj]
  simp [Nat.mod_one]
 ·rw [List.getElem?_eq_none (by simpa using hj), List.getElem?_eq_none (by simpa using hj)]
  rfl
theorem run_makeB (n : Nat) (hn : n ≤ 1000000) (w : World) : (Instr.makeSlice 42 (.int .i64 n) (.int .i64 n)).run Tryz.prog w = .ok (.slice (some ⟨w.heap.size, 0, none⟩) n n) (w.alloc (.cells (bys (List.replicate n 0)).toArray 5)) := by
 obtain ⟨i0, hi0, hz0, hz1, hz2⟩ := info_parts Tryz.infoB; have h3 := run_make w 42 5 i0 _ Tryz.underlying42 hi0 hz0 .i64 .i64 (n : Int) (n : Int) (by omega) (by omega) (by rw [hz2]; omega) (by omega); rw [h3, hz1, Int.toNat_natCast, ← made_bys]
 rfl
theorem setL_mid (X Y vs : List Value) (h : vs.length ≤ Y.length) {o : Nat} (ho : X.length = o) : setL (X ++ Y) o vs = X ++ (vs ++ Y.drop vs.length) := by
 subst ho
 apply List.ext_getElem?
 intro j
 rw [setL_get _ _ _ _ (by rw [List.length_append]; omega)]
 by_cases h1 : j < X.length
 ·rw [if_neg (by omega), List.getElem?_append_left h1, List.getElem?_append_left h1]
 ·rw [List.getElem?_append_right (by omega)]
  by_cases h2 : j < X.length + vs.length
  ·rw [if_pos (by omega), List.getElem?_append_right (by omega), List.getElem?_append_left (by omega)]
  ·rw [if_neg (by omega), List.getElem?_append_right (by omega), List.getElem?_append_right (by omega), List.getElem?_drop]
   congr 1
   omega
theorem Blk.own {w : World} {b : Nat} {L : List Nat} (h : Blk w b 5 (bys L)) (hm : L.length ≤ maxLen) : w.ownsRow 0 5 1 (.slice (some ⟨b, 0, none⟩) L.length L.length) L.length (bys L) :=
 ⟨by rw [bys_len]; omega, .inr ⟨b, L.length, (bys L).toArray, rfl, Nat.zero_le _, h, Nat.le_refl _, hm, by rw [List.size_toArray, bys_len]; omega, by rw [List.take_of_length_le (by simp [bys])]⟩⟩
theorem isnum_calls (x : Int) (w : World) : Calls Tryz.prog 124 #[.int .i64 x] w fun e w' => e = .returned (.bool (decide (0 ≤ x ∧ x ≤ 1099511627776))) ∧ w = w' := by
 go_enter Tryz.func124, Tryz.ntmps124
 by_cases h0 : 0 ≤ x
 ·go_wp2
  go_ret
  exact ⟨by simp [h0], rfl⟩
 ·go_wp2
  go_ret
  exact ⟨by simp [h0]; omega, rfl⟩
theorem jform_calls (w : World) (gen n : Nat) {A : Option Addr} {c : Nat} {b : List Nat} (hb : Rb w [] A c b) (hbb : ∀ x ∈ b, x < 256) (hl : b.length ≤ 100000) (hg : gen < 2 ^ 63) (hn : n < 2 ^ 63) :
  Calls Tryz.prog 186 #[.int .i64 gen, .int .i64 n, .slice A b.length c] w fun e w' => ∃ A' c', e = .returned (.tuple #[.slice A' (jform gen n b).2.length c', .int .i64 (jform gen n b).1]) ∧ OwnB w w' A' c' (jform gen n b).2 ∧ Below w.heap.size w w' ∧ ((jform gen n b).1 = 0 → ∃ ob, A' = some ⟨ob, 0, none⟩ ∧ c' = (jform gen n b).2.length ∧ w.heap.size ≤ ob ∧ Blk w' ob 5 (bys (jform gen n b).2)) := by
 obtain ⟨R, hR⟩ : ∃ R, jform gen n b = R := ⟨_, rfl⟩; rw [hR]; unfold jform at hR
 by_cases hbad : 1099511627776 < gen ∨ 1099511627776 < n
 ·rw [if_pos hbad] at hR
  subst hR
  by_cases h1 : 1099511627776 < gen
  ·have hdz1 : decide ((0 : Int) ≤ gen ∧ (gen : Int) ≤ 1099511627776) = false := by simp; omega
   clear hbad h1
   go_enter Tryz.func186, Tryz.ntmps186
   go_wp2_with fail
   refine (isnum_calls _ _).mono ?_
   rintro e w' ⟨rfl, rfl⟩; rw [hdz1]; clear hdz1; go_wp2
   go_ret2
   exact ⟨none, 0, rfl, OwnB.nil _ _ _ _ rfl rfl, Below.refl _ _, fun e => by cases e⟩
  ·have hdz1 : decide ((0 : Int) ≤ gen ∧ (gen : Int) ≤ 1099511627776) = true := by simp; omega
   have hdz2 : decide ((0 : Int) ≤ n ∧ (n : Int) ≤ 1099511627776) = false := by simp; omega
   have HD := hd2 hdz1 hdz2; clear hbad h1 hdz1 hdz2
   go_enter Tryz.func186, Tryz.ntmps186
   go_wp2_with fail
   refine (isnum_calls _ _).mono ?_
   rintro e w' ⟨rfl, rfl⟩; rw [HD.out.1]; go_wp2_with fail
   refine (isnum_calls _ _).mono ?_
   rintro e w' ⟨rfl, rfl⟩; rw [HD.out.2]; go_wp2
   go_ret2
   exact ⟨none, 0, rfl, OwnB.nil _ _ _ _ rfl rfl, Below.refl _ _, fun e => by cases e⟩
 ·rw [if_neg hbad] at hR
  have hbg : gen ≤ 1099511627776 ∧ n ≤ 1099511627776 := by omega
  have hdz1 : decide ((0 : Int) ≤ gen ∧ (gen : Int) ≤ 1099511627776) = true := by simp; omega
  have hdz2 : decide ((0 : Int) ≤ n ∧ (n : Int) ≤ 1099511627776) = true := by simp; omega
  obtain ⟨w1, hw1⟩ : ∃ w1, w.alloc (.cells #[.slice none 0 0] 78) = w1 := ⟨_, rfl⟩; obtain ⟨wb, hwb⟩ : ∃ wb, w.heap.size = wb := ⟨_, rfl⟩
  have hW : WR w1 wb none [] := by rw [← hw1, ← hwb]; exact WR.new w
  have hb1 : Below w.heap.size w w1 := hw1 ▸ belowL (Below.refl _ _) _
  have HN1 := hide (wnum_calls w1 wb none [] gen hW (by omega) (by simp)); have HH := hd7 hb hbb hl hg hn hb1 hwb; have HW1 := hide hw1; clear hbad hb hbb hl hg hn hW hb1 hw1 hwb; have HD := hd2 hdz1 hdz2; clear hdz1 hdz2
  go_enter Tryz.func186, Tryz.ntmps186
  go_wp2_with fail
  refine (isnum_calls _ _).mono ?_
  rintro e w' ⟨rfl, rfl⟩; rw [HD.out.1]; go_wp2_with fail
  refine (isnum_calls _ _).mono ?_
  rintro e w' ⟨rfl, rfl⟩; rw [HD.out.2]
  go_upto_region 4 with fail
  (try rw [HW1.out])
  (try rw [HH.out.2.2.2.2.2.2])
  go_wp2_with fail; refine HN1.out.mono ?_; rintro e w2 ⟨rfl, g2, h2, hc2, hg2⟩; rw [List.nil_append, Int.toNat_natCast] at h2; have le1 := enc_len9 (n := gen) (by omega); have le2 := enc_len9 (n := n) (by omega); have le3 := enc_len9 (n := b.length) (by have := HH.out.2.2.1; omega); have HN2 := hide (wnum_calls w2 wb g2 (enc gen) n h2 (by omega) (by omega)); have HS2 := hd2 hc2 hg2; clear h2 hc2 hg2 HN1; go_wp2_with fail; refine HN2.out.mono ?_; rintro e w3 ⟨rfl, hw3⟩; rw [Int.toNat_natCast] at hw3; have hw13 : Wrote w1 w3 wb none (enc gen ++ enc n) := Wrote.step HS2.out.1 HS2.out.2 hw3; obtain ⟨g3, h3, hc3, hg3⟩ := hw13; have hb3 : Below w.heap.size w w3 := Chg.onto HH.out.2.2.2.2.2.1 HH.out.2.2.2.2.2.1.size hc3 (fun z hz => by simp at hz; rw [hz]; have := HH.out.2.2.2.2.2.2; omega); have HB3 := hide hb3
  have hrb : Rb w3 (wb :: g3.toList) A c b := (HH.out.1.plus (fun z hz => Or.inr (by
   have h8 := HH.out.2.2.2.2.2.2
   rcases List.mem_cons.1 hz with rfl | hz
   ·omega
   ·rcases hg3 with rfl | ⟨x, rfl, hx⟩
    ·simp at hz
    ·simp at hz; have := HH.out.2.2.2.2.2.1.size; omega))).below hb3
  have HT3 := hide (wtext_calls w3 wb g3 _ h3 hrb (by rw [List.length_append]; omega) (by have := HH.out.2.2.1; omega)); have H3 := hd2 hc3 hg3; clear hrb h3 hw3 hb3 hc3 hg3 HN2 HS2; go_wp2_with fail; refine HT3.out.mono ?_; rintro e w4 ⟨rfl, hw4⟩; obtain ⟨g4, h4, hc4, hg4⟩ : Wrote w1 w4 wb none ((enc gen ++ enc n) ++ encT b) := Wrote.step H3.out.1 H3.out.2 hw4; have hb4 : Below w.heap.size w w4 := Chg.onto HH.out.2.2.2.2.2.1 HH.out.2.2.2.2.2.1.size hc4 (fun z hz => by simp at hz; rw [hz]; have := HH.out.2.2.2.2.2.2; omega); obtain ⟨B, hB⟩ : ∃ B, (enc gen ++ enc n) ++ encT b = B := ⟨_, rfl⟩
  have hBl : B.length ≤ 100100 := by rw [← hB]; unfold encT; simp only [List.length_append]; have := HH.out.2.2.1; omega
  have hBb : ∀ x ∈ B, x < 256 := by
   rw [← hB]
   intro x hx
   unfold encT at hx; simp only [List.mem_append] at hx
   rcases hx with (hx | hx) | (hx | hx)
   ·exact enc_byte _ x hx
   ·exact enc_byte _ x hx
   ·exact enc_byte _ x hx
   ·exact HH.out.2.1 x hx
  have hjb : jbody gen n b = seal_ B := by unfold jbody; rw [hB]
  rw [hB] at h4; have HBY := hide (wbytes_calls w4 wb g4 B h4 (by omega)); have HB4 := hide hb4; clear h4 hw4 hb4 hc4 hg4 HT3 H3; go_wp2_with fail; refine HBY.out.mono ?_; rintro e w5 ⟨A5, c5, rfl, ho5, hb5⟩; have hb05 := belowA hb5 HB4.out; have HSE := hide (seal_calls w5 A5 c5 B (ho5.rb (no := []) (by simp)).rd hBb (by omega)); have HB5 := hide hb05; clear ho5 hb5 hb05 HBY; go_wp2_with fail; refine HSE.out.mono ?_; rintro e w6 ⟨A6, c6, rfl, ho6, hb6⟩; obtain ⟨S, hS⟩ : ∃ S, seal_ B = S := ⟨_, rfl⟩
  have hSl : S.length = B.length + 4 := by rw [← hS, seal_len]
  have hSb : ∀ x ∈ S, x < 256 := by rw [← hS]; exact seal_lt hBb
  rw [hjb, hS] at hR; rw [hS] at ho6 ⊢
  have hSle : S.length ≤ 100200 := by omega
  have HO6 := hd2 (ho6.back HB5.out.size) (belowA hb6 HB5.out); obtain ⟨sz, hsz⟩ : ∃ sz, jsize S.length = sz := ⟨_, rfl⟩
  have hjs : (3 + (S.length : Int) + 64 - 1) / 64 = (sz : Int) := by rw [← hsz]; unfold jsize; omega
  simp only [hsz] at hR; have HSZ := hd4 hsz hSl hSb hBl; clear ho6 hb6 HSE hS hB hjb hBb hSb hsz hSl hBl
  by_cases h16 : 16 < sz
  ·rw [if_pos h16] at hR
   subst hR
   have j1 : (16 : Int) < sz := by omega
   clear h16; go_wp2
   go_ret2
   exact ⟨none, 0, rfl, OwnB.nil _ _ _ _ rfl rfl, HO6.out.2⟩
  ·rw [if_neg h16] at hR
   have j1 : ¬ (16 : Int) < sz := by omega
   obtain ⟨m, hm⟩ : ∃ m, sz * 64 = m := ⟨_, rfl⟩
   have c1 : IntKind.i64.wrap ((sz : Int) * 64) = (m : Int) := by rw [IntWalk.i64_in _ (by omega)]; omega
   have mk := run_makeB m (by omega); rw [hm] at hR; have HM := hd2 hm hR; clear h16 hm hR
   have hjz : 1 ≤ sz := by have := HSZ.out.1; unfold jsize at this; omega
   have hm3 : S.length + 3 ≤ m ∧ m ≤ 1024 := by have := HSZ.out.1; have := HM.out.1; unfold jsize at *; omega
   have hm0 : (0 : Int) < m := by omega
   have hm1 : (1 : Int) < m := by omega
   have hm2 : (2 : Int) < m := by omega
   obtain ⟨w7, hw7⟩ : ∃ w7, w6.alloc (.cells (bys (List.replicate m 0)).toArray 5) = w7 := ⟨_, rfl⟩; obtain ⟨ob, hob⟩ : ∃ ob, w6.heap.size = ob := ⟨_, rfl⟩
   have B7 : Blk w7 ob 5 (bys (List.replicate m 0)) := by rw [← hw7, ← hob]; exact Blk.new rfl
   have b67 : Below w6.heap.size w6 w7 := hw7 ▸ belowL (Below.refl _ _) _
   have B7' : Blk w7 ob 5 (.int .u8 (0 : Nat) :: .int .u8 (0 : Nat) :: .int .u8 (0 : Nat) :: bys (List.replicate (m - 3) 0)) := by
    have e3 : bys (List.replicate m 0) = .int .u8 (0 : Nat) :: .int .u8 (0 : Nat) :: .int .u8 (0 : Nat) :: bys (List.replicate (m - 3) 0) := by
     rw [show m = (m - 3) + 1 + 1 + 1 by omega]
     simp [bys, List.replicate_succ]
    rw [← e3]; exact B7
   have k0 : w7.cell? ⟨ob, 0, none⟩ = some (.int .u8 (0 : Nat)) := B7'.cell 0; have k1 : w7.cell? ⟨ob, 1, none⟩ = some (.int .u8 (0 : Nat)) := B7'.cell 1; have k2 : w7.cell? ⟨ob, 2, none⟩ = some (.int .u8 (0 : Nat)) := B7'.cell 2; have f0 := B7'.frozen 0; have f1 := B7'.frozen 1; have f2 := B7'.frozen 2; have HB7 := hd3 B7' b67 hob; have HW7 := hide hw7; clear B7 B7' b67 hw7 hob
   go_upto_region 12 with fail
   (try rw [HW7.out])
   (try rw [HB7.out.2.2])
   clear mk
   go_upto_region 13 with fail
   obtain ⟨w8, hw8⟩ : ∃ w8, ((w7.setCell ⟨ob, 0, none⟩ (.int .u8 1)).setCell ⟨ob, 1, none⟩ (.int .u8 ((S.length : Int) % 256))).setCell ⟨ob, 2, none⟩ (.int .u8 ((S.length : Int) / 256)) = w8 := ⟨_, rfl⟩; obtain ⟨X, hX⟩ : ∃ X, [1, S.length % 256, S.length / 256 % 256] = X := ⟨_, rfl⟩
   have hXl : (bys X).length = 3 := by rw [← hX]; rfl
   have B8 : Blk w8 ob 5 (bys X ++ bys (List.replicate (m - 3) 0)) := by
    have h3 := ((HB7.out.1.set 0 (.int .u8 1)).set 1 (.int .u8 ((S.length : Int) % 256))).set 2 (.int .u8 ((S.length : Int) / 256)); simp only [List.set_cons_zero, List.set_cons_succ] at h3; rw [hw8] at h3; rw [← hX]
    have e5 : (S.length : Int) / 256 = ((S.length / 256 % 256 : Nat) : Int) := by omega
    have e6 : (S.length : Int) % 256 = ((S.length % 256 : Nat) : Int) := by omega
    rw [e5, e6] at h3
    exact h3
   have C8 : Chg [ob] w7 w8 := by
    rw [← hw8]
    exact (((Chg.refl [ob] w7).setCell (p := ⟨ob, 0, none⟩) (Or.inl (by simp)) _).setCell (p := ⟨ob, 1, none⟩) (Or.inl (by simp)) _).setCell (p := ⟨ob, 2, none⟩) (Or.inl (by simp)) _
   have b68 : Below w6.heap.size w6 w8 := Chg.onto HB7.out.2.1 HB7.out.2.1.size C8 (fun z hz => by rw [List.mem_singleton.1 hz]; exact Nat.le_of_eq HB7.out.2.2); have R6 := (HO6.out.1.rb (no := []) (by simp)).below b68; obtain ⟨b6, o6, rfl, hl6, _, hc6⟩ := R6.at_ (by have := HSZ.out.2.1; omega)
   have cpy : (Builtin.copy_ #[42, 42] 3 #[.slice (some ⟨ob, 3, none⟩) (m - 3) (m - 3), .slice (some ⟨b6, o6, none⟩) S.length c6]).run Tryz.prog w8 = .ok (.int .i64 S.length) (w8.setCells ob 3 (bys S)) := by
    have h3 := run_copy_cells (P := Tryz.prog) w8 42 42 3 5 ob 3 (m - 3) (m - 3) ⟨b6, o6, none⟩ S.length c6 (bys S) Tryz.underlying42 (by kernel_rfl) (by rw [bys_len]; exact (Nat.min_eq_left (by omega)).symm) (fun j v hv => by
     have hj : j < S.length := by have := (List.getElem?_eq_some_iff.1 hv).1; simpa [bys] using this
     rw [add_addr, hc6 j hj, ← hv, bys_get hj]) (fun j hj => by rw [B8.cell, List.getElem?_eq_getElem (by rw [List.length_append, hXl, bys_len, List.length_replicate]; rw [bys_len] at hj; omega)]; rfl) (fun j hj => B8.frozen _) (bys_one _)
    rw [bys_len] at h3
    exact h3
   obtain ⟨w9, hw9⟩ : ∃ w9, w8.setCells ob 3 (bys S) = w9 := ⟨_, rfl⟩
   have B9 : Blk w9 ob 5 (bys (1 :: S.length % 256 :: S.length / 256 % 256 :: (S ++ List.replicate (m - 3 - S.length) 0))) := by
    have h3 := Blk.setCells (bys S) 3 B8; rw [setL_mid _ _ _ (by rw [bys_len, bys_len, List.length_replicate]; omega) hXl, hw9] at h3
    have e7 : (bys (List.replicate (m - 3) 0)).drop (bys S).length = bys (List.replicate (m - 3 - S.length) 0) := by
     unfold bys; rw [List.length_map, List.map_replicate, List.map_replicate, List.drop_replicate]
    rw [e7, ← bys_app, ← bys_app, ← hX] at h3
    exact h3
   have C9 : Chg [ob] w8 w9 := by rw [← hw9]; exact Chg.setCells _ _ (Chg.refl [ob] w8) (Or.inl (by simp))
   have hb9 : Below w.heap.size w w9 := HO6.out.2.trans ((Chg.onto b68 b68.size C9 (fun z hz => by rw [List.mem_singleton.1 hz]; exact Nat.le_of_eq HB7.out.2.2)).mono HO6.out.2.size)
   have hRl : R.2.length = m := by rw [← HM.out.2]; simp; omega
   have HF : Hid (OwnB w w9 (some ⟨ob, 0, none⟩) m R.2 ∧ Below w.heap.size w w9 ∧ (R.1 = 0 → ∃ ob', (some ⟨ob, 0, none⟩ : Option Addr) = some ⟨ob', 0, none⟩ ∧ m = R.2.length ∧ w.heap.size ≤ ob' ∧ Blk w9 ob' 5 (bys R.2))) := by
    refine hide ⟨⟨?_, fun g hg => ?_⟩, hb9, fun _ => ⟨ob, rfl, hRl.symm, by have := HO6.out.2.size; have := HB7.out.2.2; omega, by rw [← HM.out.2]; exact B9⟩⟩
    ·have h3 := Blk.own B9 (by unfold maxLen; simp; omega)
     rw [← HM.out.2] at hRl ⊢; simp only [] at hRl ⊢; rw [hRl] at h3 ⊢
     exact h3
    ·cases hg
     show w.heap.size ≤ ob
     have := HO6.out.2.size; have := HB7.out.2.2
     omega
   rw [hw9] at cpy; have HR := hide hRl; rw [hw8]; clear hw8 hw9 B8 B9 C8 C9 b68 R6 hl6 hc6 hb9 hRl hX hXl k0 k1 k2 f0 f1 f2
   have m3 : (3 : Int) ≤ m := by omega
   have m4 : ¬ m = 3 := by have := HSZ.out.2.1; omega
   go_wp2
   go_ret2
   exact ⟨some ⟨ob, 0, none⟩, m, by rw [HR.out, ← HM.out.2]; rfl, HF.out⟩

def secs (D : Dev) (fr k : Nat) : List Nat := ((D.l.drop fr).take k).flatten
theorem secs_step {D : Dev} {fr k : Nat} (h : fr + k < D.l.length) : secs D fr (k + 1) = secs D fr k ++ D.l.getD (fr + k) [] := by
 unfold secs
 have h1 : k < (D.l.drop fr).length := by rw [List.length_drop]; omega
 rw [List.take_add_one, List.getElem?_eq_getElem h1]
 simp [List.getD_eq_getElem?_getD, h]
theorem secs_len {D : Dev} (hok : DevOk D) {fr : Nat} : ∀ k, fr + k ≤ D.l.length → (secs D fr k).length = k * 64
 |0, _ => by simp [secs]
 |k + 1, h => by rw [secs_step (by omega), List.length_append, secs_len hok k (by omega), sec_len hok (by omega)]; omega
theorem secs_byte {D : Dev} (hok : DevOk D) {fr k : Nat} : ∀ c ∈ secs D fr k, c < 256 := by
 intro c hc
 unfold secs at hc; obtain ⟨s, hs, hc⟩ := List.mem_flatten.1 hc
 exact (hok.l s (List.mem_of_mem_drop (List.mem_of_mem_take hs))).2 c hc
theorem dread_ok {D : Dev} (h : D.off = false) {i : Nat} (hi : i < D.l.length) : D.read i = (0, D.l.getD i []) := by
 unfold Dev.read; rw [if_neg (by simp [h]), if_neg (by omega), Int.toNat_natCast]
theorem dread_off {D : Dev} (h : D.off = true) (i : Int) : D.read i = (17, []) := by
 unfold Dev.read; rw [if_pos h]
section
variable {w w' : World} {d : Nat} {F G : List Nat} {D : Dev}
theorem jbytes_calls (h : DevM w d F D) (fr many : Nat) (hr : fr + many ≤ D.l.length) : Calls Tryz.prog 125 #[.pointer (some ⟨d, 0, none⟩), .int .i64 fr, .int .i64 many] w fun e w' => ∃ A c, e = .returned (.tuple #[.slice A (D.bytes fr many).2.length c, .int .i64 (D.bytes fr many).1]) ∧ OwnB w w' A c (D.bytes fr many).2 ∧ Below w.heap.size w w' := by
 obtain ⟨i0, hi0, hz0, hz1, hz2⟩ := info_parts Tryz.infoB; have hn := h.n; have H := hide h; clear h; obtain ⟨R, hR⟩ : ∃ R, D.bytes fr many = R := ⟨_, rfl⟩; rw [hR]
 go_enter Tryz.func125, Tryz.ntmps125
 go_wp2
 go_loopw [8, 9, 10, 11, 13, 14, 15, 16, 17, 18, 19, 20, 21, 22, 23, 24, 25, 26, 27, 28, 29, 30] (fun ov _ _ _ iv _ _ _ _ _ _ _ _ _ _ _ _ _ _ _ _ _ wr => ∃ k : Nat, k ≤ many ∧ iv = .int .i64 k ∧ (0 < k → D.off = false) ∧ wr.ownsRow 0 5 1 ov (k * 64) (bys (secs D fr k)) ∧ (∀ g, ov.ownBlock = some g → w.heap.size ≤ g) ∧ Below w.heap.size w wr) (fun ov _ _ _ iv _ _ _ _ _ _ _ _ _ _ _ _ _ _ _ _ _ _ => many - (Go.RowKit.intOf iv).toNat)
 case atStart => exact ⟨0, Nat.zero_le _, rfl, fun h => absurd h (by omega), (by simpa [secs, bys] using ownsRow_nil w 5 1), fun g hg => (by cases hg), Below.refl _ _⟩
 case round =>
  obtain ⟨k, hk, rfl, hoff, hown, hgb, hb⟩ := hrel; have HH := hd4 hoff hown hgb hb; clear hoff hown hgb hb
  by_cases hlt : k < many
  ·have i1 : (k : Int) < many := by omega
   have c1 : IntKind.i64.wrap ((fr : Int) + k) = ((fr + k : Nat) : Int) := by rw [IntWalk.i64_in _ (by omega)]; omega
   have HRD := dread_calls (H.out.below HH.out.2.2.2) ((fr + k : Nat) : Int)
   by_cases ho : D.off = true
   ·rw [dread_off ho] at HRD
    obtain rfl : R = (17, []) := by rw [← hR]; unfold Dev.bytes; rw [if_pos ⟨ho, by omega⟩]
    have HRD := hide HRD; clear ho hR; go_wp2_with fail; refine HRD.out.mono ?_; rintro e w2 ⟨A, c, rfl, _, hb2⟩; have HB2 := hide (belowA hb2 HH.out.2.2.2); clear hb2; go_wp2
    go_ret2
    exact ⟨none, 0, rfl, OwnB.nil _ _ _ _ rfl rfl, HB2.out⟩
   ·have ho' : D.off = false := by simpa using ho
    rw [dread_ok ho' (by omega)] at HRD; obtain ⟨s, hs⟩ : ∃ s, D.l.getD (fr + k) [] = s := ⟨_, rfl⟩
    have hsl : s.length = 64 := by rw [← hs]; exact sec_len H.out.ok (by omega)
    have hst := secs_step (D := D) (fr := fr) (k := k) (by omega); rw [hs] at HRD hst; rw [hsl] at HRD; have HRD := hide HRD; have HS := hd3 ho' hsl hst; clear ho ho' hs hsl hst; go_wp2_with fail; refine HRD.out.mono ?_; rintro e w2 ⟨A, c, rfl, hoB, hb2⟩; obtain ⟨Av, cv, rfl, hle, hml, hov, _, _⟩ := own_view HH.out.2.1; have hr2 := (hoB.rb (no := []) (by simp)).rd; rw [HS.out.2.1] at hr2; have ho2 := own_chg HH.out.2.1 (Chg.of_below (L := []) hb2) (by simp); have HB2 := hd2 (belowA hb2 HH.out.2.2.2) hb2; clear hle hml hoB hb2
    go_wp2_with (at_builtin; refine wpList_append_rd rfl _ _ 42 rfl 5 i0 _ 1 1 Tryz.underlying42 hi0 hz0 hz1 hz2 rfl (by decide) (.slice Av (k * 64) cv) (k * 64) (bys (secs D fr k)) rfl ho2 A 64 c w2.heap.size (bys s) rfl hr2 (bys_one _) (by unfold maxLen; omega) (by omega) ?_)
    intro v3 w3 ho3 hc3 hg3
    obtain ⟨A3, c3, rfl, _, _, hov3, _, _⟩ := own_view ho3; have h3 : Below w.heap.size w w3 := Chg.onto HB2.out.1 HB2.out.1.size hc3 (fun z hz => HH.out.2.2.1 z (by rw [owS]; simpa using hz))
    have g3 : ∀ g, (Value.slice A3 (k * 64 + 64) c3).ownBlock = some g → w.heap.size ≤ g := fun g hg => by
     rcases hg3 g hg with h | h
     ·exact HH.out.2.2.1 g (by rw [owS]; simpa using h)
     ·rw [h]; exact HB2.out.1.size
    rw [← bys_app, ← HS.out.2.2] at ho3; have H3 := hd3 ho3 g3 h3; clear ho3 hc3 hg3 g3 h3 ho2 hr2; go_wp2
    go_roundw
    case rel => exact ⟨k + 1, by omega, by go_num, fun _ => HS.out.1, by rw [show (k + 1) * 64 = k * 64 + 64 by omega]; exact H3.out.1, H3.out.2.1, H3.out.2.2⟩
    case measure => simp [Go.RowKit.intOf]; omega
  ·have i1 : ¬ (k : Int) < many := by omega
   obtain rfl : k = many := by omega
   obtain ⟨Av, cv, rfl, hle, hml, hov, _, _⟩ := own_view HH.out.2.1
   have hRe : R = (0, secs D fr k) := by
    rw [← hR]; unfold Dev.bytes; rw [if_neg (fun h => by rw [HH.out.1 h.2] at h; cases h.1)]
    rfl
   subst hRe; have hl := secs_len H.out.ok k hr; have HF := hd3 (show OwnB w wr Av cv (secs D fr k) from ⟨by rw [hl]; exact HH.out.2.1, fun g hg => HH.out.2.2.1 g (by rw [owS]; exact hg)⟩) HH.out.2.2.2 hl; clear hle hml hov hl hR; go_wp2
   go_ret2
   exact ⟨Av, cv, by rw [HF.out.2.2]; rfl, HF.out.1, HF.out.2.1⟩
theorem ispart_calls (h : DevM w d F D) (fr many : Nat) (hf : fr ≤ 100000) (hm : many ≤ 100000) : Calls Tryz.prog 123 #[.pointer (some ⟨d, 0, none⟩), .int .i64 fr, .int .i64 many] w fun e w' => e = .returned (.bool (decide (fr + many ≤ D.l.length))) ∧ w = w' := by
 have HL := hide (dlen_calls h); have hn := h.n; clear h
 have i0 : (0 : Int) ≤ fr := by omega
 have i1 : (0 : Int) ≤ many := by omega
 go_enter Tryz.func123, Tryz.ntmps123
 go_wp2_with fail; refine HL.out.mono ?_; rintro e w' ⟨rfl, rfl⟩
 by_cases h1 : many ≤ D.l.length
 ·have j1 : (many : Int) ≤ D.l.length := by omega
  have c1 : IntKind.i64.wrap ((D.l.length : Int) - many) = (D.l.length : Int) - many := IntWalk.i64_in _ (by omega); go_wp2_with fail; refine HL.out.mono ?_; rintro e w' ⟨rfl, rfl⟩
  by_cases h2 : (fr : Int) ≤ (D.l.length : Int) - many
  ·go_wp2
   go_ret
   exact ⟨ret_bool (by simp; omega), rfl⟩
  ·go_wp2
   go_ret
   exact ⟨ret_bool (by simp; omega), rfl⟩
 ·have j1 : ¬ (many : Int) ≤ D.l.length := by omega
  go_wp2; go_ret
  exact ⟨ret_bool (by simp; omega), rfl⟩
end

theorem sub_reads {w : World} {no : List Nat} {bb oo c : Nat} {b : List Nat} (h : Rb w no (some ⟨bb, oo, none⟩) c b) {i j k : Nat} (hij : i + k = j) (hj : j ≤ b.length) : Reads w w.heap.size 1 (some ⟨bb, oo + i, none⟩) k (bys ((b.take j).drop i)) := by
 have hl : ((b.take j).drop i).length = k := by rw [List.length_drop, List.length_take]; omega
 refine ⟨by rw [bys_len, hl]; omega, fun hk => ?_⟩
 obtain ⟨b2, o2, e, hb, _, hc⟩ := h.at_ (by omega)
 cases e
 refine ⟨bb, oo + i, rfl, hb, fun q u hu => ?_⟩
 have hq : q < ((b.take j).drop i).length := by have := (List.getElem?_eq_some_iff.1 hu).1; simpa [bys] using this
 rw [bys_get hq] at hu; rw [show oo + i + q = oo + (i + q) by omega, hc (i + q) (by omega), ← hu]
 simp
def jlong (b : List Nat) : Nat := b.getD 1 0 + b.getD 2 0 * 256
theorem jread_1 {b : List Nat} {gen n : Nat} (h : b.length < 3 ∨ b.getD 0 0 ≠ 1) : jread b gen n = none := by unfold jread; rw [if_pos h]
theorem jread_2 {b : List Nat} {gen n : Nat} (h : ¬ (b.length < 3 ∨ b.getD 0 0 ≠ 1)) (h2 : 16 < jsize (jlong b) ∨ b.length < jsize (jlong b) * 64) : jread b gen n = none := by
 unfold jread; rw [if_neg h]; unfold jlong at h2; simp only []; rw [if_pos h2]
theorem jread_3 {b : List Nat} {gen n : Nat} (h : ¬ (b.length < 3 ∨ b.getD 0 0 ≠ 1)) (h2 : ¬ (16 < jsize (jlong b) ∨ b.length < jsize (jlong b) * 64)) : jread b gen n =
  match opened ((b.drop 3).take (jlong b)) with
  |none => none
  |some rest =>
   if ((b.take (jsize (jlong b) * 64)).drop (3 + jlong b)).any (fun c => c != 0) then none else
   let r1 := (⟨rest, 0⟩ : Rdr).num 1099511627776
   let r2 := r1.2.num 1099511627776
   let r3 := r2.2.text rest.length
   if r3.2.fin = 0 ∧ r1.1 = gen ∧ r2.1 = n then some (r3.1, jsize (jlong b)) else none := by
 conv => lhs; unfold jread
 rw [if_neg h]; unfold jlong at h2 ⊢; simp only []; rw [if_neg h2]
 rfl
def JRd (w w' : World) (e : Ending) (R : Option (List Nat × Nat)) : Prop :=
 ∃ A c m s ok, e = .returned (.tuple #[.slice A m c, .int .i64 s, .bool ok]) ∧ Below w.heap.size w w' ∧
  match R with
  |none => ok = false
  |some (t, z) => ok = true ∧ s = (z : Int) ∧ m = t.length ∧ OwnB w w' A c t
theorem JRd.no {w w' : World} {R : Option (List Nat × Nat)} (h : R = none) (hb : Below w.heap.size w w') : JRd w w' (.returned (.tuple #[.slice none 0 0, .int .i64 0, .bool false])) R := by
 subst h
 exact ⟨none, 0, 0, 0, false, rfl, hb, rfl⟩
theorem jread_calls (w : World) {no : List Nat} {A : Option Addr} {c : Nat} {b : List Nat} (hb : Rb w no A c b) (hbb : ∀ x ∈ b, x < 256) (hl : b.length ≤ 500000) (gen n : Nat) (hg : gen ≤ 1099511627776) (hn : n ≤ 1099511627776) :
  Calls Tryz.prog 126 #[.slice A b.length c, .int .i64 gen, .int .i64 n] w fun e w' => JRd w w' e (jread b gen n) := by
 obtain ⟨R, hR⟩ : ∃ R, jread b gen n = R := ⟨_, rfl⟩; rw [hR]
 by_cases h3 : b.length < 3
 ·have i1 : (b.length : Int) < 3 := by omega
  rw [jread_1 (Or.inl h3)] at hR; subst hR; clear h3 hb
  go_enter Tryz.func126, Tryz.ntmps126
  go_wp2
  go_ret3
  exact JRd.no rfl (Below.refl _ _)
 ·have i1 : ¬ (b.length : Int) < 3 := by omega
  obtain ⟨bb, oo, rfl, hlt, hno, hc⟩ := hb.at_ (by omega)
  have i2 : (1 : Int) < b.length := by omega
  have i3 : (2 : Int) < b.length := by omega
  have i4 : 0 < b.length := by omega
  have x0 := hc 0 (by omega); have x1 := hc 1 (by omega); have x2 := hc 2 (by omega); obtain ⟨b0, hb0⟩ : ∃ x, b[0] = x := ⟨_, rfl⟩; obtain ⟨b1, hb1⟩ : ∃ x, b[1] = x := ⟨_, rfl⟩; obtain ⟨b2, hb2⟩ : ∃ x, b[2] = x := ⟨_, rfl⟩; rw [hb0] at x0; rw [hb1] at x1; rw [hb2] at x2; rw [Nat.add_zero] at x0
  have g0 : b.getD 0 0 = b0 := by rw [← hb0]; simp [List.getD_eq_getElem?_getD, i4]
  have g1 : b.getD 1 0 = b1 := by rw [← hb1]; simp [List.getD_eq_getElem?_getD, show 1 < b.length by omega]
  have g2 : b.getD 2 0 = b2 := by rw [← hb2]; simp [List.getD_eq_getElem?_getD, show 2 < b.length by omega]
  have l1 : b1 < 256 := by rw [← hb1]; exact hbb _ (List.getElem_mem _)
  have l2 : b2 < 256 := by rw [← hb2]; exact hbb _ (List.getElem_mem _)
  have HB := hd4 hb hc hbb hlt; clear hb hc hb0 hb1 hb2
  by_cases hm : b0 = 1
  ·have j1 : ((b0 : Int) != 1) = false := by simp; omega
   have hn3 : ¬ (b.length < 3 ∨ b.getD 0 0 ≠ 1) := by rw [g0]; omega
   have hjl : jlong b = b1 + b2 * 256 := by unfold jlong; rw [g1, g2]
   obtain ⟨lg, hlg⟩ : ∃ x, jlong b = x := ⟨_, rfl⟩; have HG := hd3 hn3 hlg (show lg = b1 + b2 * 256 by omega); clear hn3 hjl hlg g0 g1 g2
   go_enter Tryz.func126, Tryz.ntmps126
   go_wp2
   go_quiet (fail)
   have hlgE : (b1 : Int) + b2 * 256 = (lg : Int) := by have := HG.out.2.2; omega
   rw [hlgE]; obtain ⟨w1, hw1⟩ : ∃ w1, w.drewN nq = w1 := ⟨_, rfl⟩
   have hb1 : Below w.heap.size w w1 := hw1 ▸ below_drewN (Below.refl _ _) _
   rw [hw1]; obtain ⟨sz, hsz⟩ : ∃ sz, jsize lg = sz := ⟨_, rfl⟩
   have hlgb : lg ≤ 70000 := by have := HG.out.2.2; omega
   have hq : (3 + (lg : Int) + 64 - 1) / 64 = (sz : Int) := by rw [← hsz]; unfold jsize; omega
   have HB1 := hide hb1; have HSZ := hide hsz; clear hw1 hb1 hlgE x0 x1 x2 hsz
   by_cases h16 : 16 < sz
   ·have k1 : (16 : Int) < sz := by omega
    rw [jread_2 HG.out.1 (by rw [HG.out.2.1, HSZ.out]; exact Or.inl h16)] at hR; subst hR; clear h16; go_wp2
    go_ret3
    exact JRd.no rfl HB1.out
   ·have k1 : ¬ (16 : Int) < sz := by omega
    have cz : IntKind.i64.wrap ((sz : Int) * 64) = ((sz * 64 : Nat) : Int) := by rw [IntWalk.i64_in _ (by omega)]; omega
    obtain ⟨m, hm⟩ : ∃ m, sz * 64 = m := ⟨_, rfl⟩; rw [hm] at cz
    by_cases hlen : b.length < m
    ·have k2 : (b.length : Int) < m := by omega
     rw [jread_2 HG.out.1 (by rw [HG.out.2.1, HSZ.out, hm]; exact Or.inr hlen)] at hR; subst hR; clear h16 hlen hm; go_wp2
     go_ret3
     exact JRd.no rfl HB1.out
    ·have k2 : ¬ (b.length : Int) < m := by omega
     rw [jread_3 HG.out.1 (by rw [HG.out.2.1, HSZ.out, hm]; omega), HG.out.2.1, HSZ.out, hm] at hR
     have hlm : 3 + lg ≤ m := by have := HSZ.out; unfold jsize at this; omega
     have hR1 := HB.out.1.below HB1.out; obtain ⟨T, hT⟩ : ∃ T, (b.drop 3).take lg = T := ⟨_, rfl⟩; have hTr := sub_reads hR1 (i := 3) (j := 3 + lg) (k := lg) rfl (by omega); rw [List.drop_take, show 3 + lg - 3 = lg by omega, hT] at hTr
     have hTl : T.length = lg := by rw [← hT, List.length_take, List.length_drop]; omega
     have hTb : ∀ x ∈ T, x < 256 := fun x hx => HB.out.2.2.1 x (by rw [← hT] at hx; exact List.mem_of_mem_drop (List.mem_of_mem_take hx))
     have hcle : b.length ≤ c := HB.out.1.le; have HOP := copen_calls w1 (some ⟨bb, oo + 3, none⟩) (c - 3) T (by rw [hTl]; exact hTr) (by omega) hTb (by omega); rw [hTl] at HOP; rw [hT] at hR; obtain ⟨O, hO⟩ : ∃ O, opened T = O := ⟨_, rfl⟩; rw [hO] at HOP hR; have HOP := hide HOP
     have c3 : ¬ c = 3 := by omega
     have q1 : (3 : Int) + lg ≤ c := by omega
     have q2 : (0 : Int) ≤ lg := by omega
     have HL := hd4 hlm hlen hm hcle
     have HOB : Hid (∀ rest, O = some rest → rest.length ≤ b.length ∧ ∀ x ∈ rest, x < 256) := hide (fun rest hr => by
      rw [← hO] at hr; unfold opened at hr
      split at hr
      ·cases hr
       exact ⟨by rw [List.length_take]; omega, fun x hx => hTb x (List.mem_of_mem_take hx)⟩
      ·cases hr)
     clear h16 hlen hm hTr hTl hTb hT hO hR1 hlm; go_wp2_with fail; refine HOP.out.mono ?_; rintro e w2 ⟨A2, c2, rfl, ho2, hb2⟩; have HB2 := hide (belowA hb2 HB1.out); have HO2 := hide (ho2.back HB1.out.size); clear ho2 hb2 HOP
     cases O with
     |none =>
      simp only [] at hR; subst hR; simp only [Option.getD_none, Option.isSome_none, List.length_nil]; go_wp2
      go_ret3
      exact JRd.no rfl HB2.out
     |some rest =>
      have HRS := hide (HOB.out rest rfl); simp only [Option.getD_some, Option.isSome_some] at HO2 ⊢; simp only [] at hR; obtain ⟨tl, htl⟩ : ∃ tl, (b.take m).drop (3 + lg) = tl := ⟨_, rfl⟩; rw [htl] at hR; obtain ⟨mt, hmt⟩ : ∃ x, m - (3 + lg) = x := ⟨_, rfl⟩
      have htll : tl.length = mt := by rw [← htl, List.length_drop, List.length_take]; have := HL.out; omega
      have q3 : (3 : Int) + lg ≤ m := by have := HL.out.1; omega
      have q4 : (m : Int) ≤ c := by have := HL.out; omega
      have q5 : (0 : Int) ≤ (3 : Int) + lg := by omega
      have htk : ∀ k (hk : k < tl.length), ∃ h : 3 + lg + k < b.length, tl[k] = b[3 + lg + k] := fun k hk => by
       have h9 : 3 + lg + k < b.length := by have := HL.out; omega
       refine ⟨h9, ?_⟩
       subst htl
       simp
      have HTK := hd3 htk htll hmt
      have hcell : ∀ k (hk : k < tl.length), w2.cell? ⟨bb, oo + (3 + lg) + k, none⟩ = some (.int .u8 (tl[k] : Nat)) := fun k hk => by
       obtain ⟨h9, h10⟩ := htk k hk; rw [h10, show oo + (3 + lg) + k = oo + (3 + lg + k) by omega]
       exact (HB2.out.cell (p := ⟨bb, oo + (3 + lg + k), none⟩) HB.out.2.2.2).trans (HB.out.2.1 _ h9)
      have HCE := hide hcell; clear htk htll htl hcell
      by_cases hcc : c = 3 + lg
      ·skip
       have HCC := hide hcc; go_wp2; clear hcc
       (try rw [hmt])
       go_loopw [6, 7, 8, 12, 66, 67, 68, 69, 70, 71, 72] (fun tv sv ov _ iv _ _ _ _ _ _ wr => ∃ k : Nat, k ≤ mt ∧ iv = .int .i64 k ∧ tv = .slice none 0 0 ∧ sv = .int .i64 sz ∧ ov = .bool true ∧ wr = w2 ∧ ∀ j (hj : j < tl.length), j < k → tl[j] = 0) (fun tv sv ov _ iv _ _ _ _ _ _ _ => mt - (Go.RowKit.intOf iv).toNat)
       case atStart => exact ⟨0, Nat.zero_le _, rfl, rfl, rfl, rfl, rfl, fun j _ h => absurd h (by omega)⟩
       case round =>
        obtain ⟨k, hk, rfl, rfl, rfl, rfl, rfl, hz⟩ := hrel
        by_cases hlt : k < mt
        ·first
         |(exfalso; have h1 := HCC.out; have h2 := HTK.out.2.2; have h3 := HL.out; omega)
         |skip
          have s1 : (k : Int) < mt := by omega
          have hkt : k < tl.length := by rw [HTK.out.2.1]; exact hlt
          have hcl := HCE.out k hkt; obtain ⟨v, hv⟩ : ∃ v, tl[k] = v := ⟨_, rfl⟩; rw [hv] at hcl
          by_cases hv0 : v = 0
          ·subst hv0
           have HZ := hd2 hz hv; clear hz hv; have hcl0 : wr.cell? ⟨bb, oo + (3 + lg) + k, none⟩ = some (.int .u8 0) := hcl; clear hcl; go_wp2
           go_roundw
           case rel =>
            refine ⟨k + 1, by omega, by go_num, rfl, rfl, rfl, by trivial, fun j hj hjk => ?_⟩
            rcases Nat.lt_or_ge j k with h1 | h1
            ·exact HZ.out.1 j hj h1
            ·obtain rfl : j = k := by omega
             exact HZ.out.2
           case measure => simp [Go.RowKit.intOf]; omega
          ·have s2 : ((v : Int) != 0) = true := by simp; omega
           have hany : (tl.any fun c => c != 0) = true := by
            rw [List.any_eq_true]
            exact ⟨tl[k], List.getElem_mem _, by rw [hv]; simpa using hv0⟩
           rw [if_pos hany] at hR; subst hR; clear hany hz hv hv0; go_wp2
           go_ret3
           exact JRd.no rfl HB2.out
        ·have s1 : ¬ (k : Int) < mt := by omega
         have hany : ¬ (tl.any fun c => c != 0) = true := by
          rw [List.any_eq_true]; rintro ⟨x, hx, hx0⟩; obtain ⟨j, hj, rfl⟩ := List.mem_iff_getElem.1 hx; have := hz j hj (by have := HTK.out.2.1; omega); rw [this] at hx0
          simp at hx0
         rw [if_neg hany] at hR; clear hz hany; obtain ⟨r1, hr1⟩ : ∃ r, (⟨rest, 0⟩ : Rdr).num 1099511627776 = r := ⟨_, rfl⟩; obtain ⟨r2, hr2⟩ : ∃ r, r1.2.num 1099511627776 = r := ⟨_, rfl⟩; obtain ⟨r3, hr3⟩ : ∃ r, r2.2.text rest.length = r := ⟨_, rfl⟩; rw [hr1, hr2, hr3] at hR
         have hrl : rest.length ≤ 500000 := by have := HRS.out.1; have := HL.out; omega
         have HRR := hide (rread_calls wr [] (by simp) A2 c2 rest (HO2.out.rb (no := []) (by simp)).rd (by omega) HRS.out.2); have HE := hd4 hr1 hr2 hr3 hrl; have HRE := hide hR; clear hr1 hr2 hr3 hrl hR; go_wp2_with fail; refine HRR.out.mono ?_; rintro e w3 ⟨rb, rfl, hro, hrb, hb3⟩; have HN1 := rnum_calls w3 rb [] _ 1099511627776 hro (by simp only []; have := HE.out.2.2.2; omega) (by omega); rw [HE.out.1] at HN1; have HN1 := hide HN1; have H3 := hd2 hrb hb3; have hl1 := Rdr.num_len (r := (⟨rest, 0⟩ : Rdr)) 1099511627776; rw [HE.out.1] at hl1; simp only [] at hl1; have HL1 := hide hl1; clear hro hrb hb3 hl1 HRR; go_wp2_with fail; refine HN1.out.mono ?_; rintro e w4 ⟨rfl, hro, hc4⟩; have HN2 := rnum_calls w4 rb [] _ 1099511627776 hro (by have := HE.out.2.2.2; have := HL1.out; omega) (by omega); rw [HE.out.2.1] at HN2; have HN2 := hide HN2; have H4 := hd2 hro.lt hc4; have hl2 := Rdr.num_len (r := r1.2) 1099511627776; rw [HE.out.2.1] at hl2; have HL2 := hide hl2; clear hro hc4 HN1 hl2; go_wp2_with fail; refine HN2.out.mono ?_; rintro e w5 ⟨rfl, hro, hc5⟩; have HN3 := rtext_calls w5 rb [] _ rest.length hro (by have := HE.out.2.2.2; have := HL1.out; have := HL2.out; omega) (by have := HE.out.2.2.2; omega) (by simp); rw [HE.out.2.2.1] at HN3; have HN3 := hide HN3; have H5 := hd2 hc5 hro.lt; clear hro hc5 HN2; go_wp2_with fail; refine HN3.out.mono ?_; rintro e w6 ⟨A6, c6, rfl, ho6, hro, hc6⟩; have HN4 := hide (rend_calls w6 rb [] _ hro)
         have hb6 : Below w.heap.size w w6 := by
          have h9 := belowA H3.out.2 HB2.out
          refine Chg.onto h9 h9.size (((H4.out.2.trans H5.out.1 (fun z hz => Or.inl hz)).trans hc6 (fun z hz => Or.inl hz))) (fun z hz => ?_)
          rw [List.mem_singleton.1 hz]
          exact Nat.le_trans HB2.out.size H3.out.1
         have hs5 : w.heap.size ≤ w5.heap.size := Nat.le_trans (Nat.le_trans (Nat.le_trans HB2.out.size H3.out.2.size) H4.out.2.size) H5.out.1.size; have H6 := hd4 hb6 ho6 (Nat.le_trans HB2.out.size H3.out.1) hs5; clear ho6 hro hc6 hb6 hs5 HN3; go_wp2_with fail; refine HN4.out.mono ?_; rintro e w7 ⟨rfl, hro, hc7⟩; have hb7 : Below w.heap.size w w7 := Chg.onto H6.out.1 H6.out.1.size hc7 (fun z hz => by rw [List.mem_singleton.1 hz]; exact H6.out.2.2.1); have H7 := hd2 hb7 ((H6.out.2.1.chg hc7 (by simpa using H5.out.2)).back H6.out.2.2.2); clear hro hc7 hb7 HN4
         by_cases t1 : r3.2.fin = 0
         ·have u1 : ((r3.2.fin : Int) == 0) = true := by simp [t1]
          by_cases t2 : r1.1 = gen
          ·have u2 : ((r1.1 : Int) == gen) = true := by simp [t2]
           by_cases t3 : r2.1 = n
           ·have u3 : ((r2.1 : Int) == n) = true := by simp [t3]
            have HRF : Hid (R = some (r3.1, sz)) := hide (by rw [← HRE.out, if_pos ⟨t1, t2, t3⟩]); clear t1 t2 t3; go_wp2
            go_ret3
            rw [HRF.out]
            exact ⟨A6, c6, r3.1.length, sz, true, rfl, H7.out.1, rfl, rfl, rfl, H7.out.2⟩
           ·have u3 : ((r2.1 : Int) == n) = false := by simp; omega
            have HRF : Hid (R = none) := hide (by rw [← HRE.out, if_neg (fun h => t3 h.2.2)]); clear t1 t2 t3; go_wp2
            go_ret3
            rw [HRF.out]
            exact ⟨A6, c6, r3.1.length, sz, false, rfl, H7.out.1, rfl⟩
          ·have u2 : ((r1.1 : Int) == gen) = false := by simp; omega
           have HRF : Hid (R = none) := hide (by rw [← HRE.out, if_neg (fun h => t2 h.2.1)]); clear t1 t2; go_wp2
           go_ret3
           rw [HRF.out]
           exact ⟨A6, c6, r3.1.length, sz, false, rfl, H7.out.1, rfl⟩
         ·have u1 : ((r3.2.fin : Int) == 0) = false := by simp; omega
          have HRF : Hid (R = none) := hide (by rw [← HRE.out, if_neg (fun h => t1 h.1)]); clear t1; go_wp2
          go_ret3
          rw [HRF.out]
          exact ⟨A6, c6, r3.1.length, sz, false, rfl, H7.out.1, rfl⟩
      ·skip
       have HCC := hide hcc; go_wp2; clear hcc
       (try rw [hmt])
       go_loopw [6, 7, 8, 12, 66, 67, 68, 69, 70, 71, 72] (fun tv sv ov _ iv _ _ _ _ _ _ wr => ∃ k : Nat, k ≤ mt ∧ iv = .int .i64 k ∧ tv = .slice none 0 0 ∧ sv = .int .i64 sz ∧ ov = .bool true ∧ wr = w2 ∧ ∀ j (hj : j < tl.length), j < k → tl[j] = 0) (fun tv sv ov _ iv _ _ _ _ _ _ _ => mt - (Go.RowKit.intOf iv).toNat)
       case atStart => exact ⟨0, Nat.zero_le _, rfl, rfl, rfl, rfl, rfl, fun j _ h => absurd h (by omega)⟩
       case round =>
        obtain ⟨k, hk, rfl, rfl, rfl, rfl, rfl, hz⟩ := hrel
        by_cases hlt : k < mt
        ·first
         |(exfalso; have h1 := HCC.out; have h2 := HTK.out.2.2; have h3 := HL.out; omega)
         |skip
          have s1 : (k : Int) < mt := by omega
          have hkt : k < tl.length := by rw [HTK.out.2.1]; exact hlt
          have hcl := HCE.out k hkt; obtain ⟨v, hv⟩ : ∃ v, tl[k] = v := ⟨_, rfl⟩; rw [hv] at hcl
          by_cases hv0 : v = 0
          ·subst hv0
           have HZ := hd2 hz hv; clear hz hv; have hcl0 : wr.cell? ⟨bb, oo + (3 + lg) + k, none⟩ = some (.int .u8 0) := hcl; clear hcl; go_wp2
           go_roundw
           case rel =>
            refine ⟨k + 1, by omega, by go_num, rfl, rfl, rfl, by trivial, fun j hj hjk => ?_⟩
            rcases Nat.lt_or_ge j k with h1 | h1
            ·exact HZ.out.1 j hj h1
            ·obtain rfl : j = k := by omega
             exact HZ.out.2
           case measure => simp [Go.RowKit.intOf]; omega
          ·have s2 : ((v : Int) != 0) = true := by simp; omega
           have hany : (tl.any fun c => c != 0) = true := by
            rw [List.any_eq_true]
            exact ⟨tl[k], List.getElem_mem _, by rw [hv]; simpa using hv0⟩
           rw [if_pos hany] at hR; subst hR; clear hany hz hv hv0; go_wp2
           go_ret3
           exact JRd.no rfl HB2.out
        ·have s1 : ¬ (k : Int) < mt := by omega
         have hany : ¬ (tl.any fun c => c != 0) = true := by
          rw [List.any_eq_true]; rintro ⟨x, hx, hx0⟩; obtain ⟨j, hj, rfl⟩ := List.mem_iff_getElem.1 hx; have := hz j hj (by have := HTK.out.2.1; omega); rw [this] at hx0
          simp at hx0
         rw [if_neg hany] at hR; clear hz hany; obtain ⟨r1, hr1⟩ : ∃ r, (⟨rest, 0⟩ : Rdr).num 1099511627776 = r := ⟨_, rfl⟩; obtain ⟨r2, hr2⟩ : ∃ r, r1.2.num 1099511627776 = r := ⟨_, rfl⟩; obtain ⟨r3, hr3⟩ : ∃ r, r2.2.text rest.length = r := ⟨_, rfl⟩; rw [hr1, hr2, hr3] at hR
         have hrl : rest.length ≤ 500000 := by have := HRS.out.1; have := HL.out; omega
         have HRR := hide (rread_calls wr [] (by simp) A2 c2 rest (HO2.out.rb (no := []) (by simp)).rd (by omega) HRS.out.2); have HE := hd4 hr1 hr2 hr3 hrl; have HRE := hide hR; clear hr1 hr2 hr3 hrl hR; go_wp2_with fail; refine HRR.out.mono ?_; rintro e w3 ⟨rb, rfl, hro, hrb, hb3⟩; have HN1 := rnum_calls w3 rb [] _ 1099511627776 hro (by simp only []; have := HE.out.2.2.2; omega) (by omega); rw [HE.out.1] at HN1; have HN1 := hide HN1; have H3 := hd2 hrb hb3; have hl1 := Rdr.num_len (r := (⟨rest, 0⟩ : Rdr)) 1099511627776; rw [HE.out.1] at hl1; simp only [] at hl1; have HL1 := hide hl1; clear hro hrb hb3 hl1 HRR; go_wp2_with fail; refine HN1.out.mono ?_; rintro e w4 ⟨rfl, hro, hc4⟩; have HN2 := rnum_calls w4 rb [] _ 1099511627776 hro (by have := HE.out.2.2.2; have := HL1.out; omega) (by omega); rw [HE.out.2.1] at HN2; have HN2 := hide HN2; have H4 := hd2 hro.lt hc4; have hl2 := Rdr.num_len (r := r1.2) 1099511627776; rw [HE.out.2.1] at hl2; have HL2 := hide hl2; clear hro hc4 HN1 hl2; go_wp2_with fail; refine HN2.out.mono ?_; rintro e w5 ⟨rfl, hro, hc5⟩; have HN3 := rtext_calls w5 rb [] _ rest.length hro (by have := HE.out.2.2.2; have := HL1.out; have := HL2.out; omega) (by have := HE.out.2.2.2; omega) (by simp); rw [HE.out.2.2.1] at HN3; have HN3 := hide HN3; have H5 := hd2 hc5 hro.lt; clear hro hc5 HN2; go_wp2_with fail; refine HN3.out.mono ?_; rintro e w6 ⟨A6, c6, rfl, ho6, hro, hc6⟩; have HN4 := hide (rend_calls w6 rb [] _ hro)
         have hb6 : Below w.heap.size w w6 := by
          have h9 := belowA H3.out.2 HB2.out
          refine Chg.onto h9 h9.size (((H4.out.2.trans H5.out.1 (fun z hz => Or.inl hz)).trans hc6 (fun z hz => Or.inl hz))) (fun z hz => ?_)
          rw [List.mem_singleton.1 hz]
          exact Nat.le_trans HB2.out.size H3.out.1
         have hs5 : w.heap.size ≤ w5.heap.size := Nat.le_trans (Nat.le_trans (Nat.le_trans HB2.out.size H3.out.2.size) H4.out.2.size) H5.out.1.size; have H6 := hd4 hb6 ho6 (Nat.le_trans HB2.out.size H3.out.1) hs5; clear ho6 hro hc6 hb6 hs5 HN3; go_wp2_with fail; refine HN4.out.mono ?_; rintro e w7 ⟨rfl, hro, hc7⟩; have hb7 : Below w.heap.size w w7 := Chg.onto H6.out.1 H6.out.1.size hc7 (fun z hz => by rw [List.mem_singleton.1 hz]; exact H6.out.2.2.1); have H7 := hd2 hb7 ((H6.out.2.1.chg hc7 (by simpa using H5.out.2)).back H6.out.2.2.2); clear hro hc7 hb7 HN4
         by_cases t1 : r3.2.fin = 0
         ·have u1 : ((r3.2.fin : Int) == 0) = true := by simp [t1]
          by_cases t2 : r1.1 = gen
          ·have u2 : ((r1.1 : Int) == gen) = true := by simp [t2]
           by_cases t3 : r2.1 = n
           ·have u3 : ((r2.1 : Int) == n) = true := by simp [t3]
            have HRF : Hid (R = some (r3.1, sz)) := hide (by rw [← HRE.out, if_pos ⟨t1, t2, t3⟩]); clear t1 t2 t3; go_wp2
            go_ret3
            rw [HRF.out]
            exact ⟨A6, c6, r3.1.length, sz, true, rfl, H7.out.1, rfl, rfl, rfl, H7.out.2⟩
           ·have u3 : ((r2.1 : Int) == n) = false := by simp; omega
            have HRF : Hid (R = none) := hide (by rw [← HRE.out, if_neg (fun h => t3 h.2.2)]); clear t1 t2 t3; go_wp2
            go_ret3
            rw [HRF.out]
            exact ⟨A6, c6, r3.1.length, sz, false, rfl, H7.out.1, rfl⟩
          ·have u2 : ((r1.1 : Int) == gen) = false := by simp; omega
           have HRF : Hid (R = none) := hide (by rw [← HRE.out, if_neg (fun h => t2 h.2.1)]); clear t1 t2; go_wp2
           go_ret3
           rw [HRF.out]
           exact ⟨A6, c6, r3.1.length, sz, false, rfl, H7.out.1, rfl⟩
         ·have u1 : ((r3.2.fin : Int) == 0) = false := by simp; omega
          have HRF : Hid (R = none) := hide (by rw [← HRE.out, if_neg (fun h => t1 h.1)]); clear t1; go_wp2
          go_ret3
          rw [HRF.out]
          exact ⟨A6, c6, r3.1.length, sz, false, rfl, H7.out.1, rfl⟩
  ·have j1 : ((b0 : Int) != 1) = true := by simp; omega
   rw [jread_1 (Or.inr (by rw [g0]; exact hm))] at hR; subst hR; clear hm g0 g1 g2 x1 x2
   go_enter Tryz.func126, Tryz.ntmps126
   go_wp2
   go_ret3
   exact JRd.no rfl (Below.refl _ _)
end Go.Proofs.YtcahcjfgmdpdoaaGreat
