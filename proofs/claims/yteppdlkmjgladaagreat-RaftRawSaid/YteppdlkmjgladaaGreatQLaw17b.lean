/- One text of: Law17b. -/
import Derived.Test.YteppdlkmjgladaaGreatQHb
import Derived.Test.YteppdlkmjgladaaGreatQHA
namespace Go.Proofs.YteppdlkmjgladaaGreat
open Go.ChangeShapes Go.WideShapes Go.ChangeAt Go.RowKit Go.Proofs Go.Maps
set_option linter.unusedVariables false
set_option linter.unusedSimpArgs false

set_option maxHeartbeats 4000000 in
set_option maxRecDepth 100000 in
theorem raftRaw_walk {H : Type} {enc : TypeId × Value → H} (W : World) (base : Nat) (v0 v1 : Value) (d0 d1 : DataW H) (p0 p1 : List MemPlace)
  (ok0 : Value.okWide Tryz.prog W .any base 47 v0) (h0 : DataW.Trod enc Tryz.prog W 0 (fun _ => true) true 47 v0 d0 p0)
  (ok1 : Value.okWide Tryz.prog W .any base 22 v1) (h1 : DataW.Trod enc Tryz.prog W 0 (fun _ => true) true 22 v1 d1 p1)
  (z0 : ∀ n ∈ d0.weights Tryz.prog 47, n ≤ reachBytes)
  (z1 : ∀ n ∈ d1.weights Tryz.prog 22, n ≤ reachBytes) :
  Calls Tryz.prog 4 #[v0, v1] W fun e w' => e = .returned (.bool true) ∧ Below W.heap.size W w' := by
 obtain ⟨A, n, c, rfl, hnc, hcm, hM⟩ := open_msgs ok0 h0 z0
 obtain ⟨A', c', l, rfl, hlc, hcm', hwf, hr⟩ := open_intsR Tryz.underlying22 Tryz.underlying3 (by kernel_rfl) ok1 h1
 have hr0 : Below W.heap.size W W := Below.refl _ _
 have HA := hide (fun w => awake_calls w)
 have HM := hide hM
 have HL := hide (And.intro hr hwf)
 obtain ⟨m, hm⟩ : ∃ m, l.length = m := ⟨_, rfl⟩
 rw [hm]
 have HLM := hide hm
 clear ok0 h0 ok1 h1 z0 z1 hnc hcm hM hlc hcm' hwf hr hm
 by_cases hlen : n ≤ 60 ∧ n ≤ m
 ·have n60 : ¬ (60 : Int) < n := by omega
  have nm : ¬ (m : Int) < n := by omega
  have HN := hide hlen
  clear hlen
  obtain ⟨wa, hwa⟩ : ∃ wa, W.alloc (.cells #[.int .i64 0, .int .i64 1, .int .i64 2] 3) = wa := ⟨_, rfl⟩
  have hba : Below W.heap.size W wa := hwa ▸ belowL hr0 _
  have bA : Blk wa W.heap.size 3 [.int .i64 0, .int .i64 1, .int .i64 2] := by rw [← hwa]; exact Blk.new rfl
  have HFR := freshN_calls (sl_three bA) 1 (by omega) (by decide)
  rw [show ([0, 1, 2] : List Int).length = 3 from rfl] at HFR
  have HFR := hide HFR
  have HBA := hide hba
  have HWA := hide hwa
  clear hba bA hwa
  go_enter Tryz.func4, Tryz.ntmps4
  go_wp2_with fail
  rw [HWA.out]
  with_reducible refine HFR.out.mono ?_
  rintro e w1 ⟨nb, d, q, G, rfl, h1, hi1, hV1, hA1⟩
  have HST := hide (gstatus_calls h1 hi1 (by omega))
  have hA1' : GA W w1 nb q := ⟨belowA hA1.be HBA.out, fun x hx => Nat.le_trans HBA.out.size (hA1.ge x hx)⟩
  have H1 := hide (And.intro h1 (And.intro hi1 (And.intro hV1 hA1')))
  clear h1 hi1 hV1 hA1 hA1' HFR HBA HWA
  go_wp2_with fail
  with_reducible refine HST.out.mono ?_
  rintro e w2 ⟨z, As, ns, cs, rfl, hb2⟩
  have hJ := RJ.start (H1.out.1.below hb2) H1.out.2.1 H1.out.2.2.1 (H1.out.2.2.2.low hb2) G.role G.leader z As ns cs
  obtain ⟨xb, hxb⟩ : ∃ x, w2.heap.size = x := ⟨_, rfl⟩
  obtain ⟨w3, hw3⟩ : ∃ x, w2.alloc (.cells #[.int .i64 G.bt, .int .i64 G.role, .int .i64 G.leader, .int .i64 G.commit, .int .i64 z, .slice As ns cs] 35) = x := ⟨_, rfl⟩
  rw [hw3, hxb] at hJ
  have HJ := hide hJ
  have HW3 := hide (And.intro hw3 hxb)
  clear hJ hw3 hxb hb2 HST
  go_upto_region 7 with fail
  rw [HW3.out.1]
  rw [HW3.out.2]
  clear HW3 H1
  go_wp2_with fail
  go_loopw [8, 9, 30, 31, 32, 33, 34, 35, 36, 37, 38, 39, 40, 41, 42, 43, 44, 45, 46, 47, 48, 49, 50, 51, 52, 53, 54, 55, 56, 57, 58, 59, 60, 61, 62, 63, 64, 65, 66, 67, 68, 69, 70, 71, 72, 73, 74, 75, 76, 77, 78, 79, 80, 81, 82, 83, 84] (fun iv _ _ _ _ _ _ _ _ _ _ _ _ _ _ _ _ _ _ _ _ _ _ _ _ _ _ _ _ _ _ _ _ _ _ _ _ _ _ _ _ _ _ _ _ _ _ _ _ _ _ _ _ _ _ _ _ wr => ∃ (i : Nat) (a b : Int), i ≤ n ∧ iv = .int .i64 i ∧ Hid (RJ W wr nb xb a b (1 + 11 * i) (1 + 2199023255602 * i))) (fun iv _ _ _ _ _ _ _ _ _ _ _ _ _ _ _ _ _ _ _ _ _ _ _ _ _ _ _ _ _ _ _ _ _ _ _ _ _ _ _ _ _ _ _ _ _ _ _ _ _ _ _ _ _ _ _ _ _ => n - (Go.RowKit.intOf iv).toNat)
  case atStart => exact ⟨0, _, _, Nat.zero_le _, rfl, HJ⟩
  case round =>
   clear HJ
   obtain ⟨i, a, b, hi, rfl, hJ⟩ := hrel
   have HBE := hide hJ.out.be
   by_cases hlt : i < n
   ·obtain ⟨bm, o, rfl, _, hMi⟩ := HM.out (by omega)
    obtain ⟨k, A1, N, c1, A2, B, c2, A3, m3, c3, hat⟩ := hMi i hlt
    obtain ⟨n1, hn1⟩ : ∃ n, N.length = n := ⟨_, rfl⟩
    obtain ⟨bl, hbl⟩ : ∃ n, B.length = n := ⟨_, rfl⟩
    have rr := Below.refl wr.heap.size wr
    have p0 : ∀ w', Below wr.heap.size wr w' → w'.cell? ⟨bm, o + i * 4, none⟩ = some (.int .i64 k) := fun w' hb => (hat.cells w' (belowA hb HBE.out)).1
    have p1 : ∀ w', Below wr.heap.size wr w' → w'.cell? ⟨bm, o + i * 4 + 1, none⟩ = some (.slice A1 n1 c1) := fun w' hb => hn1 ▸ (hat.cells w' (belowA hb HBE.out)).2.1
    have p2 : ∀ w', Below wr.heap.size wr w' → w'.cell? ⟨bm, o + i * 4 + 2, none⟩ = some (.slice A2 bl c2) := fun w' hb => hbl ▸ (hat.cells w' (belowA hb HBE.out)).2.2.1
    have p3 : ∀ w', Below wr.heap.size wr w' → w'.cell? ⟨bm, o + i * 4 + 3, none⟩ = some (.slice A3 m3 c3) := fun w' hb => (hat.cells w' (belowA hb HBE.out)).2.2.2
    have i1 : (i : Int) < n := by omega
    have HAT := hide (And.intro hat (And.intro hn1 hbl))
    clear hMi hat hn1 hbl
    by_cases hbig : bl ≤ 3000 ∧ m3 ≤ 10
    ·have b1 : ¬ (3000 : Int) < bl := by omega
     have b2 : ¬ (10 : Int) < m3 := by omega
     have HBG := hide hbig
     clear hbig
     obtain ⟨bf, of, rfl, hbf, hcf⟩ := HL.out.1.at_ (by have := HLM.out; have := HN.out; omega)
     have hil : i < l.length := by have := HLM.out; have := HN.out; omega
     obtain ⟨fr, hfr⟩ : ∃ fr, l[i] = fr := ⟨_, rfl⟩
     have pf : ∀ w', Below wr.heap.size wr w' → w'.cell? ⟨bf, of + i, none⟩ = some (.int .i64 fr) := fun w' hb => ((belowA hb HBE.out).cell (p := ⟨bf, of + i, none⟩) hbf).trans (hcf i _ (by rw [List.getElem?_map, List.getElem?_eq_getElem hil, hfr]; rfl))
     have i2 : (i : Int) < m := by have := HLM.out; have := HN.out; omega
     have HHA := hide (fun (w' : World) (hb : Below wr.heap.size wr w') => (hJ.out.below hb).handle (by have := HN.out; omega) (by have := HN.out; omega) fr k HAT.out.1.kk (c1 := c1) (c2 := c2) (c3 := c3) ⟨HAT.out.1.nn, HAT.out.1.bb, HAT.out.1.bc, HAT.out.1.l, HBG.out.2⟩)
     rw [HAT.out.2.1, HAT.out.2.2] at HHA
     clear hbf hcf hil hfr
     go_upto_region 12 with fail
     refine lxR (fun w' => Below wr.heap.size wr w') [9] 0 [(2, 0), (2, 1), (2, 2), (2, 3), (0, 4), (2, 5), (2, 6), (2, 7), (0, 8), (3, 9)] #[true, true, true, true, true, true, true, true, true, true] (by kernel_rfl) (by kernel_rfl) (by decide) (by kernel_rfl) (by kernel_rfl) (fun _ _ _ _ _ h => h) (by (first | exact rr.drew)) (fun hS0 => ?_)
     simp only [List.map_cons, List.map_nil, List.getElem?_toArray, List.getElem?_cons_succ, List.getElem?_cons_zero]
     (iterate 4 ((apply lxP (by rfl); (focus (intro w; go_simp; (try with_reducible rfl); done)); simp only [Act.put, List.setIfInBounds_toArray, List.set_cons_zero, List.set_cons_succ]))); (apply lxT (by rfl); (focus (intro w hw; (try dsimp only at hw); go_simp; (try with_reducible rfl); done)); simp only [Act.put, List.setIfInBounds_toArray, List.set_cons_zero, List.set_cons_succ]); (iterate 3 ((apply lxP (by rfl); (focus (intro w; go_simp; (try with_reducible rfl); done)); simp only [Act.put, List.setIfInBounds_toArray, List.set_cons_zero, List.set_cons_succ]))); (apply lxT (by rfl); (focus (intro w hw; (try dsimp only at hw); go_simp; (try with_reducible rfl); done)); simp only [Act.put, List.setIfInBounds_toArray, List.set_cons_zero, List.set_cons_succ]); (refine lxF (by rfl) ?_; go_simp; ((go_at_call 19; (with_reducible refine (HHA.out _ rr.drew).mono ?_); rintro e w2 ⟨rfl, hJ2⟩)))
     refine lxN (fun _ => wqD (by kernel_rfl) ?_ _)
     have HJ2 := hide hJ2
     clear hJ2 HHA pf p0 p1 p2 p3 hJ HL HAT HM rr b1 b2 i2
     have hi60 : 1 + 11 * i + 6 ≤ 700 := by have := HN.out; omega
     have hm3 : (i : Int).tmod 3 = (i : Int) % 3 := Int.tmod_eq_emod_of_nonneg (by omega)
     obtain ⟨z3, hz3⟩ : ∃ z, (i : Int) % 3 = z := ⟨_, rfl⟩
     rw [hz3] at hm3
     have HI := hide (And.intro hi60 hlt)
     clear hz3 hi60 hlt hS0
     go_upto_if 65 with fail
     go_cut [] from 66 to 67 (fun wx => Hid (RJ W wx nb xb a b (1 + 11 * (i + 1)) (1 + 2199023255602 * (i + 1))))
     case first =>
      by_cases hz : z3 = 0
      ·subst hz
       have HTI := hide (HJ2.out.tick (by have := HI.out; omega) (by have := HI.out; omega))
       clear HJ2
       go_wp2_with fail
       with_reducible refine HTI.out.mono ?_
       rintro e w3 ⟨rfl, hJ3⟩
       have HJ3 := hide (hJ3.up (show _ ≤ 1 + 11 * (i + 1) by omega) (show _ ≤ 1 + 2199023255602 * (i + 1) by omega))
       clear HTI hJ3
       go_wp2
       go_meet
       exact HJ3
      ·have u0 : (z3 == 0) = false := by rw [beq_eq_false_iff_ne]; exact hz
       have HJ3 := hide (HJ2.out.up (show _ ≤ 1 + 11 * (i + 1) by omega) (show _ ≤ 1 + 2199023255602 * (i + 1) by omega))
       clear hz HJ2
       go_wp2
       go_meet
       exact HJ3
     case rest =>
      obtain ⟨w4, rfl⟩ : ∃ x, x = wc := ⟨_, rfl⟩
      have hJ4 := hcut
      clear HJ2 hm3 hcut
      have HAP := hide (hJ4.out.applied (by have := HI.out; omega))
      clear hJ4
      go_wp2_with fail
      with_reducible refine HAP.out.mono ?_
      rintro e w5 ⟨⟨v5, rfl⟩, hJ5⟩
      have HST := hide (hJ5.status (by have := HI.out; omega))
      clear HAP hJ5
      go_wp2_with fail
      with_reducible refine HST.out.mono ?_
      rintro e w6 ⟨bt, r, l', cm, z', A6, n6, c6, rfl, hbt, hcm, hb6, ⟨r0, l0, z0, A0, n0, c0, hX6⟩, hmk⟩
      obtain ⟨w7, hw7⟩ : ∃ x, w6.alloc (.cells #[.int .i64 bt, .int .i64 r, .int .i64 l', .int .i64 cm, .int .i64 z', .slice A6 n6 c6] 35) = x := ⟨_, rfl⟩
      obtain ⟨yb, hyb⟩ : ∃ x, w6.heap.size = x := ⟨_, rfl⟩
      have hb7 : Below w6.heap.size w6 w7 := hw7 ▸ belowL (Below.refl _ _) _
      have bY : Blk w7 yb 35 (stC bt r l' cm z' A6 n6 c6) := by rw [← hw7, ← hyb]; exact Blk.new rfl
      have bX := hX6.below hb7
      have x0 : w7.cell? ⟨xb, 0, none⟩ = some (.int .i64 a) := bX.cell 0
      have x3 : w7.cell? ⟨xb, 3, none⟩ = some (.int .i64 b) := bX.cell 3
      have y0 : w7.cell? ⟨yb, 0, none⟩ = some (.int .i64 bt) := bY.cell 0
      have y1 : w7.cell? ⟨yb, 1, none⟩ = some (.int .i64 r) := bY.cell 1
      have y2 : w7.cell? ⟨yb, 2, none⟩ = some (.int .i64 l') := bY.cell 2
      have y3 : w7.cell? ⟨yb, 3, none⟩ = some (.int .i64 cm) := bY.cell 3
      have y4 : w7.cell? ⟨yb, 4, none⟩ = some (.int .i64 z') := bY.cell 4
      have y5 : w7.cell? ⟨yb, 5, none⟩ = some (.slice A6 n6 c6) := bY.cell 5
      have n1 : ¬ bt < a := by omega
      have n2 : ¬ cm < b := by omega
      have H7 := hide (And.intro bX (fun w2 hc hB => hmk w7 w2 hb7 hc hB))
      have HW7 := hide (And.intro hw7 hyb)
      clear bX bY hX6 hmk hb7 hw7 hyb hb6 hbt hcm HST
      go_upto_region 17 with fail
      (try rw [HW7.out.1])
      (try rw [HW7.out.2])
      clear HW7
      go_upto_region 19 with fail
      have x1 := H7.out.1.cell 1
      have x2 := H7.out.1.cell 2
      have x4 := H7.out.1.cell 4
      have x5 := H7.out.1.cell 5
      have t0 := H7.out.1.frozen 0
      have t1 := H7.out.1.frozen 1
      have t2 := H7.out.1.frozen 2
      have t3 := H7.out.1.frozen 3
      have t4 := H7.out.1.frozen 4
      have t5 := H7.out.1.frozen 5
      unfold stC at x1 x2 x4 x5
      simp only [List.getElem?_cons_succ, List.getElem?_cons_zero] at x1 x2 x4 x5
      go_wp2_with fail
      have cX : Chg [xb] w7 ((((((w7.setCell ⟨xb, 0, none⟩ (.int .i64 bt)).setCell ⟨xb, 1, none⟩ (.int .i64 r)).setCell ⟨xb, 2, none⟩ (.int .i64 l')).setCell ⟨xb, 3, none⟩ (.int .i64 cm)).setCell ⟨xb, 4, none⟩ (.int .i64 z')).setCell ⟨xb, 5, none⟩ (.slice A6 n6 c6)) := ((((((Chg.refl [xb] w7).setCell (p := ⟨xb, 0, none⟩) (Or.inl (by simp)) _).setCell (p := ⟨xb, 1, none⟩) (Or.inl (by simp)) _).setCell (p := ⟨xb, 2, none⟩) (Or.inl (by simp)) _).setCell (p := ⟨xb, 3, none⟩) (Or.inl (by simp)) _).setCell (p := ⟨xb, 4, none⟩) (Or.inl (by simp)) _).setCell (p := ⟨xb, 5, none⟩) (Or.inl (by simp)) _
      have bZ := (((((H7.out.1.set 0 (.int .i64 bt)).set 1 (.int .i64 r)).set 2 (.int .i64 l')).set 3 (.int .i64 cm)).set 4 (.int .i64 z')).set 5 (.slice A6 n6 c6)
      exact ⟨⟨i + 1, bt, cm, by have := HI.out; omega, by push_cast; rfl, hide (H7.out.2 _ cX bZ)⟩, by have := HI.out; simp [Go.RowKit.intOf]; omega⟩
    ·by_cases b1 : (3000 : Int) < bl
     ·clear hbig
      go_wp2_with fail
      with_reducible refine (HA.out _).mono ?_
      rintro e w9 ⟨rfl, hb9⟩
      have HB9 := hide (belowA hb9 HBE.out)
      clear hb9 HA
      go_wp2_with fail
      go_ret
      exact ⟨rfl, HB9.out⟩
     ·have b2 : (10 : Int) < m3 := by omega
      clear hbig
      go_wp2_with fail
      with_reducible refine (HA.out _).mono ?_
      rintro e w9 ⟨rfl, hb9⟩
      have HB9 := hide (belowA hb9 HBE.out)
      clear hb9 HA
      go_wp2_with fail
      go_ret
      exact ⟨rfl, HB9.out⟩
   ·have i1 : ¬ (i : Int) < n := by omega
    clear hJ
    go_wp2_with fail
    with_reducible refine (HA.out _).mono ?_
    rintro e w9 ⟨rfl, hb9⟩
    have HB9 := hide (belowA hb9 HBE.out)
    clear hb9 HA
    go_wp2_with fail
    go_ret
    exact ⟨rfl, HB9.out⟩
 ·rcases Decidable.not_and_iff_or_not.1 hlen with h60 | hnm
  ·have n60 : (60 : Int) < n := by omega
   have HBE := hide hr0
   clear h60 hlen
   go_enter Tryz.func4, Tryz.ntmps4
   go_wp2_with fail
   with_reducible refine (HA.out _).mono ?_
   rintro e w9 ⟨rfl, hb9⟩
   have HB9 := hide (belowA hb9 HBE.out)
   clear hb9 HA
   go_wp2_with fail
   go_ret
   exact ⟨rfl, HB9.out⟩
  ·by_cases h60 : (60 : Int) < n
   ·have HBE := hide hr0
    clear hnm hlen
    go_enter Tryz.func4, Tryz.ntmps4
    go_wp2_with fail
    with_reducible refine (HA.out _).mono ?_
    rintro e w9 ⟨rfl, hb9⟩
    have HB9 := hide (belowA hb9 HBE.out)
    clear hb9 HA
    go_wp2_with fail
    go_ret
    exact ⟨rfl, HB9.out⟩
   ·have nm : (m : Int) < n := by omega
    have HBE := hide hr0
    clear hnm hlen
    go_enter Tryz.func4, Tryz.ntmps4
    go_wp2_with fail
    with_reducible refine (HA.out _).mono ?_
    rintro e w9 ⟨rfl, hb9⟩
    have HB9 := hide (belowA hb9 HBE.out)
    clear hb9 HA
    go_wp2_with fail
    go_ret
    exact ⟨rfl, HB9.out⟩
end Go.Proofs.YteppdlkmjgladaaGreat
