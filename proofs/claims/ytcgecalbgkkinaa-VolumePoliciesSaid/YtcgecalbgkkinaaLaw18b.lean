/- VolumePolicies: the walk. -/
import Derived.Test.YtcgecalbgkkinaaPls
import Derived.Test.YtcgecalbgkkinaaOpenP
import Derived.Test.YtcgecalbgkkinaaReg4
namespace Go.Proofs.Ytcgecalbgkkinaa
open Go.ChangeShapes Go.WideShapes Go.ChangeAt Go.RowKit Go.Maps
set_option linter.unusedVariables false
set_option linter.unusedSimpArgs false

set_option maxHeartbeats 8000000 in
set_option maxRecDepth 100000 in
/-- THE WALK of VolumePolicies: whatever comes in, it answers true, and nothing that was there turns. -/
theorem volumePolicies_walk {H : Type} {enc : TypeId × Value → H} (W : World) (base : Nat) (v0 v1 : Value) (d0 d1 : DataW H) (p0 p1 : List MemPlace)
    (ok0 : Value.okWide Try.prog W .any base 22 v0) (h0 : DataW.Trod enc Try.prog W 0 (fun _ => true) true 22 v0 d0 p0)
    (ok1 : Value.okWide Try.prog W .any base 5 v1) (h1 : DataW.Trod enc Try.prog W 0 (fun _ => true) true 5 v1 d1 p1) :
    Calls Try.prog 3 #[v0, v1] W fun e w' => e = .returned (.bool true) ∧ Below W.heap.size W w' := by
  obtain ⟨Al, cl, ps, rfl, hlen, hcap, hr⟩ := open_pols ok0 h0
  obtain ⟨bb, rfl, rfl, rfl, wb⟩ := open_int Try.underlying5 ok1 h1
  obtain ⟨b0, b1⟩ := bounds_u8 wb
  unfold maxLen at hcap
  clear ok0 h0 ok1 h1 wb
  by_cases h20 : 20 < ps.length
  · have i20 : (20 : Int) < ps.length := by omega
    go_enter Try.func3, Try.ntmps3
    go_wp2_with fail
    refine (awake18_calls _).mono ?_
    rintro e w1 ⟨rfl, hb1⟩
    have HF := hide hb1
    clear hb1
    go_wp2
    go_ret
    exact ⟨rfl, HF.out⟩
  · have i20 : ¬ ((20 : Int) < ps.length) := by omega
    have HR := hide hr
    have HPL := hide h20
    clear hr h20
    go_enter Try.func3, Try.ntmps3
    go_wp2_with fail
    refine (VS.new _).mono ?_
    rintro e w1 ⟨sb, rfl, hv, hb1, hbl⟩
    have HB := hide hb1
    have HBL := hide hbl
    have hA := hide (hv.applyC (by omega) 1 0 2 0 0 0 0 0 (by unfold i64ok; omega) (by unfold i64ok; omega) (by unfold i64ok; omega) (by unfold i64ok; omega))
    rw [pls_a] at hA
    clear hv hb1 hbl i20
    obtain ⟨n, hn⟩ : ∃ n, 1 + bb % 60 = n := ⟨_, rfl⟩
    have hn1 : 1 ≤ n ∧ n ≤ 60 := by omega
    obtain ⟨S1, v1, ap1, ps1⟩ := pls_b n hn1.1 hn1.2
    have HAP := hide ap1
    have HPS := hide ps1
    have HN1 := hide hn1
    clear ap1 ps1 hn1
    go_wp2_with fail
    refine hA.out.mono ?_
    rintro e w2 ⟨z, rfl, rfl, hc2, hv2⟩
    have HB2 := hide (HB.out.trans (hc2.toBelow HB.out.size (fun x hx => by rw [List.mem_singleton.1 hx]; exact HBL.out)))
    have hA2 := hide (hv2.applyC (by omega) 2 9 n 1 0 1 0 0 (by unfold i64ok; omega) (by unfold i64ok; omega) (by have := HN1.out; unfold i64ok; omega) (by unfold i64ok; omega))
    rw [HAP.out] at hA2
    clear hc2 hv2 hA
    go_wp2_with fail
    refine hA2.out.mono ?_
    rintro e w3 ⟨z, rfl, rfl, hc3, hv3⟩
    have HB3 := hide (HB2.out.trans (hc3.toBelow HB2.out.size (fun x hx => by rw [List.mem_singleton.1 hx]; exact HBL.out)))
    have HV3 := hide (show VS w3 sb S1 2 from hv3)
    clear hc3 hv3 hA2
    go_wp2_with fail
    go_loopw [6, 7, 8, 9, 10, 11, 12, 37, 38, 39, 40, 41, 42, 43, 44, 45, 46, 47, 48, 49, 50, 51, 52, 53, 54, 55, 56, 57, 58, 59, 60, 61, 62, 63, 64, 65, 66, 67, 68, 69, 70, 71, 72, 73, 74, 75, 76, 77, 78, 79, 80, 81, 82, 83, 84, 85, 86, 87, 88, 89, 90, 91, 92, 93, 94, 95, 96, 97, 98, 99, 100, 101, 102, 103, 104, 105, 106, 107, 108, 109, 110, 111, 112, 113, 114] (fun i _ _ _ _ _ _ _ _ _ _ _ _ _ _ _ _ _ _ _ _ _ _ _ _ _ _ _ _ _ _ _ _ _ _ _ _ _ _ _ _ _ _ _ _ _ _ _ _ _ _ _ _ _ _ _ _ _ _ _ _ _ _ _ _ _ _ _ _ _ _ _ _ _ _ _ _ _ _ _ _ _ _ _ _ wr => ∃ (k : Nat) (S : Vst) (v : Vo), k ≤ ps.length ∧ i = .int .i64 k ∧ PS S v ∧ VS wr sb S (2 + k) ∧ Below W.heap.size W wr) (fun i _ _ _ _ _ _ _ _ _ _ _ _ _ _ _ _ _ _ _ _ _ _ _ _ _ _ _ _ _ _ _ _ _ _ _ _ _ _ _ _ _ _ _ _ _ _ _ _ _ _ _ _ _ _ _ _ _ _ _ _ _ _ _ _ _ _ _ _ _ _ _ _ _ _ _ _ _ _ _ _ _ _ _ _ _ => ps.length - (intOf i).toNat)
    case atStart => exact ⟨0, S1, v1, Nat.zero_le _, rfl, HPS.out, HV3.out, HB3.out⟩
    case round =>
      obtain ⟨k, S, v, hk, rfl, hps, hvs, hbr⟩ := hrel
      have HPS2 := hide hps
      have HVS := hide hvs
      have HBR := hide hbr
      have HKL := hide hk
      have h20' := HPL.out
      clear hps hvs hbr
      by_cases hlt : k < ps.length
      · have i1 : (k : Int) < ps.length := by omega
        have hfd : ∀ (S : Vst) (v : Vo), PS S v → fd Vo.id S.vs 9 = some v := fun S v h => by rw [h.vs, fd_cons, if_pos h.id]
        obtain ⟨id0, bl0, ⟨r0, x0, l0, u0⟩, ver0, ch0⟩ := v
        have hvc := hide (HVS.out.volume (id := 9) (by unfold i64ok; omega))
        rw [hfd _ _ HPS2.out] at hvc
        obtain ⟨bA, oA, eA, hbA, hcell⟩ := HR.out.2 (by omega)
        obtain ⟨⟨pr, pw, pl, pb⟩, hp⟩ : ∃ p, ps[k] = p := ⟨_, rfl⟩
        have HP := hide hp
        have rule4 : ∀ w', Below W.heap.size W w' → ∀ j, (hj : j < 4) → w'.cell? ⟨bA, oA + k * 4 + j, none⟩ = (Pol.cells ⟨pr, pw, pl, pb⟩)[j]? := fun w' hb j hj => by
          have h1 := hb.cell (p := ⟨bA, oA + k * 4 + j, none⟩) hbA
          rw [h1]
          have h2 := polCells_get ps k j hlt hj
          rw [hp] at h2
          have h3 : j < (Pol.cells ⟨pr, pw, pl, pb⟩).length := hj
          rw [List.getElem?_eq_getElem h3] at h2 ⊢
          have := hcell _ _ h2
          rw [← this]
          congr 2
          omega
        have HRU := hide rule4
        clear hp hcell rule4 hbA
        subst eA
        go_wp2_with fail
        refine hvc.out.mono ?_
        intro e w4 hvo
        obtain ⟨A1, c1, rfl, hbox, hbw⟩ := hvo.box HVS.out.lt
        have q3 := (Below.refl w4.heap.size w4).alloc (Nat.le_refl _) (.cells (⟨(⟨id0, bl0, ⟨r0, x0, l0, u0⟩, ver0, ch0⟩ : Vo), A1, c1⟩ : VoM).cells.toArray 34)
        have K4 := And.intro ((HVS.out.below hbw).below q3) (And.intro ((HBR.out.trans (hbw.mono HBR.out.size)).trans (q3.mono (Nat.le_trans HBR.out.size hbw.size))) hbox)
        simp only [VoM.val, VoM.cells] at K4 ⊢
        obtain ⟨w5, hw5⟩ : ∃ w5, w4.alloc (.cells #[.int .i64 id0, .int .i64 bl0, .int .i64 r0, .int .i64 x0, .int .i64 l0, .int .i64 u0, .int .i64 ver0, .slice A1 ch0.length c1] 34) = w5 := ⟨_, rfl⟩
        rw [hw5] at K4
        have HK4 := hide K4
        have g0 := HRU.out w5 HK4.out.2.1 0 (by omega)
        have g1 := HRU.out w5 HK4.out.2.1 1 (by omega)
        have g2 := HRU.out w5 HK4.out.2.1 2 (by omega)
        have g3' := HRU.out w5 HK4.out.2.1 3 (by omega)
        simp only [Pol.cells, List.getElem?_cons_succ, List.getElem?_cons_zero, Nat.add_zero] at g0 g1 g2 g3'
        have hA := hide (HK4.out.1.applyC (by omega) 5 9 0 0 pr pw pl pb (by unfold i64ok; omega) (by unfold i64ok; omega) (by unfold i64ok; omega) (by unfold i64ok; omega))
        clear hvo hbox hbw q3 K4 hvc
        go_wp2_with fail
        refine hA.out.mono ?_
        rintro e w6 ⟨z, rfl, hz, hc6, hv6⟩
        have HK6 := hide (And.intro (HK4.out.2.1.trans (hc6.toBelow HK4.out.2.1.size (fun x hx => by rw [List.mem_singleton.1 hx]; exact HBL.out))) (HK4.out.2.2.chg hc6))
        have HV6 := hide hv6
        have HFD := hide hfd
        have HVER := hide ((HVS.out.ok.vsa ⟨id0, bl0, ⟨r0, x0, l0, u0⟩, ver0, ch0⟩ (by rw [HPS2.out.vs]; simp)).2.2.2.2.2)
        clear hc6 hv6 hA g0 g1 g2 g3' hfd
        rcases HPS2.out.step ⟨pr, pw, pl, pb⟩ with ⟨hadm, S', hap, hps'⟩ | ⟨hadm, z', hz', hap⟩
        · rw [hap] at hz HV6
          subst hz
          have HAD := hide hadm
          have HPS3 := hide hps'
          clear hap hadm hps'
          have hvc := hide (HV6.out.volume (id := 9) (by unfold i64ok; omega))
          rw [HFD.out _ _ HPS3.out] at hvc
          go_wp2_with fail
          refine hvc.out.mono ?_
          intro e w7 hvo
          obtain ⟨A2, c2, rfl, hbox, hbw⟩ := hvo.box HV6.out.lt
          have q3 := (Below.refl w7.heap.size w7).alloc (Nat.le_refl _) (.cells (⟨(⟨id0, bl0, ⟨pr, pw, pl, pb⟩, (ver0 + 1), ch0⟩ : Vo), A2, c2⟩ : VoM).cells.toArray 34)
          have K7 := And.intro ((HV6.out.below hbw).below q3) (And.intro ((HK6.out.1.trans (hbw.mono HK6.out.1.size)).trans (q3.mono (Nat.le_trans HK6.out.1.size hbw.size))) (And.intro ((HK6.out.2.below hbw).below q3) hbox))
          simp only [VoM.val, VoM.cells] at K7 ⊢
          obtain ⟨w8, hw8⟩ : ∃ w8, w7.alloc (.cells #[.int .i64 id0, .int .i64 bl0, .int .i64 pr, .int .i64 pw, .int .i64 pl, .int .i64 pb, .int .i64 (ver0 + 1), .slice A2 ch0.length c2] 34) = w8 := ⟨_, rfl⟩
          rw [hw8] at K7
          have HK8 := hide K7
          have hpc := hide (HK8.out.1.policies (by omega) 0)
          rw [HPS3.out.pol] at hpc
          clear hvo hbox hbw q3 K7 hvc
          go_wp2_with fail
          refine hpc.out.mono ?_
          rintro e w9 ⟨A3, c3, rfl, hrp, hgp, hb9⟩
          have HW8 := hide hw8
          have HW5 := hide hw5
          have HK9 := hide (And.intro (HK8.out.1.below hb9) (And.intro (HK8.out.2.1.trans (hb9.mono HK8.out.2.1.size)) (And.intro (HK8.out.2.2.1.below hb9) (HK8.out.2.2.2.below hb9))))
          have HRP := hide hrp
          clear hrp hgp hb9 hpc hw8 hw5
          simp only [List.length_singleton]
          have r9 := Below.refl w9.heap.size w9
          have a2' : ∀ w', Below w9.heap.size w9 w' → w'.cell? ⟨w4.heap.size, 2, none⟩ = some (.int .i64 r0) := HK9.out.2.2.1.blk.rule 2 _ rfl
          have a0' : ∀ w', Below w9.heap.size w9 w' → w'.cell? ⟨w4.heap.size, 0, none⟩ = some (.int .i64 id0) := HK9.out.2.2.1.blk.rule 0 _ rfl
          have a1' : ∀ w', Below w9.heap.size w9 w' → w'.cell? ⟨w4.heap.size, 1, none⟩ = some (.int .i64 bl0) := HK9.out.2.2.1.blk.rule 1 _ rfl
          have a3' : ∀ w', Below w9.heap.size w9 w' → w'.cell? ⟨w4.heap.size, 3, none⟩ = some (.int .i64 x0) := HK9.out.2.2.1.blk.rule 3 _ rfl
          have a4' : ∀ w', Below w9.heap.size w9 w' → w'.cell? ⟨w4.heap.size, 4, none⟩ = some (.int .i64 l0) := HK9.out.2.2.1.blk.rule 4 _ rfl
          have a5' : ∀ w', Below w9.heap.size w9 w' → w'.cell? ⟨w4.heap.size, 5, none⟩ = some (.int .i64 u0) := HK9.out.2.2.1.blk.rule 5 _ rfl
          have a6' : ∀ w', Below w9.heap.size w9 w' → w'.cell? ⟨w4.heap.size, 6, none⟩ = some (.int .i64 ver0) := HK9.out.2.2.1.blk.rule 6 _ rfl
          have a7' : ∀ w', Below w9.heap.size w9 w' → w'.cell? ⟨w4.heap.size, 7, none⟩ = some (.slice A1 ch0.length c1) := HK9.out.2.2.1.blk.rule 7 _ rfl
          have d0' : ∀ w', Below w9.heap.size w9 w' → w'.cell? ⟨w7.heap.size, 0, none⟩ = some (.int .i64 id0) := HK9.out.2.2.2.blk.rule 0 _ rfl
          have d1' : ∀ w', Below w9.heap.size w9 w' → w'.cell? ⟨w7.heap.size, 1, none⟩ = some (.int .i64 bl0) := HK9.out.2.2.2.blk.rule 1 _ rfl
          have d2' : ∀ w', Below w9.heap.size w9 w' → w'.cell? ⟨w7.heap.size, 2, none⟩ = some (.int .i64 pr) := HK9.out.2.2.2.blk.rule 2 _ rfl
          have d3' : ∀ w', Below w9.heap.size w9 w' → w'.cell? ⟨w7.heap.size, 3, none⟩ = some (.int .i64 pw) := HK9.out.2.2.2.blk.rule 3 _ rfl
          have d4' : ∀ w', Below w9.heap.size w9 w' → w'.cell? ⟨w7.heap.size, 4, none⟩ = some (.int .i64 pl) := HK9.out.2.2.2.blk.rule 4 _ rfl
          have d5' : ∀ w', Below w9.heap.size w9 w' → w'.cell? ⟨w7.heap.size, 5, none⟩ = some (.int .i64 pb) := HK9.out.2.2.2.blk.rule 5 _ rfl
          have d6' : ∀ w', Below w9.heap.size w9 w' → w'.cell? ⟨w7.heap.size, 6, none⟩ = some (.int .i64 (ver0 + 1)) := HK9.out.2.2.2.blk.rule 6 _ rfl
          have d7' : ∀ w', Below w9.heap.size w9 w' → w'.cell? ⟨w7.heap.size, 7, none⟩ = some (.slice A2 ch0.length c2) := HK9.out.2.2.2.blk.rule 7 _ rfl
          obtain ⟨bP, oP, eP, hbP, hcP⟩ := HRP.out.2 (by simp)
          subst eP
          have f0 : ∀ w', Below w9.heap.size w9 w' → w'.cell? ⟨bP, oP, none⟩ = some (.int .i64 pr) := fun w' hb => (hb.cell (p := ⟨bP, oP, none⟩) hbP).trans (hcP 0 _ rfl)
          have f1 : ∀ w', Below w9.heap.size w9 w' → w'.cell? ⟨bP, oP + 1, none⟩ = some (.int .i64 pw) := fun w' hb => (hb.cell (p := ⟨bP, oP + 1, none⟩) hbP).trans (hcP 1 _ rfl)
          have f2 : ∀ w', Below w9.heap.size w9 w' → w'.cell? ⟨bP, oP + 2, none⟩ = some (.int .i64 pl) := fun w' hb => (hb.cell (p := ⟨bP, oP + 2, none⟩) hbP).trans (hcP 2 _ rfl)
          have f3 : ∀ w', Below w9.heap.size w9 w' → w'.cell? ⟨bP, oP + 3, none⟩ = some (.int .i64 pb) := fun w' hb => (hb.cell (p := ⟨bP, oP + 3, none⟩) hbP).trans (hcP 3 _ rfl)
          have HBW9 := HK9.out.2.1
          have l0r : ∀ w', Below w9.heap.size w9 w' → w'.cell? ⟨bA, oA + k * 4, none⟩ = some (.int .i64 pr) := fun w' hb => HRU.out w' (HBW9.trans (hb.mono HBW9.size)) 0 (by omega)
          have l1r : ∀ w', Below w9.heap.size w9 w' → w'.cell? ⟨bA, oA + k * 4 + 1, none⟩ = some (.int .i64 pw) := fun w' hb => HRU.out w' (HBW9.trans (hb.mono HBW9.size)) 1 (by omega)
          have l2r : ∀ w', Below w9.heap.size w9 w' → w'.cell? ⟨bA, oA + k * 4 + 2, none⟩ = some (.int .i64 pl) := fun w' hb => HRU.out w' (HBW9.trans (hb.mono HBW9.size)) 2 (by omega)
          have l3r : ∀ w', Below w9.heap.size w9 w' → w'.cell? ⟨bA, oA + k * 4 + 3, none⟩ = some (.int .i64 pb) := fun w' hb => HRU.out w' (HBW9.trans (hb.mono HBW9.size)) 3 (by omega)
          have HBW := hide HBW9
          clear hbP hcP HBW9
          have r9d := r9.drew
          have he1 := run_nePol pr pw pl pb pr pw pl pb
          simp only [beq_self_eq_true, Bool.and_self, Bool.not_true] at he1
          have hwr : IntKind.i64.wrap (ver0 + 1) = ver0 + 1 := IntWalk.i64_in _ (by have := HVER.out; omega)
          go_wp2_with fail
          refine region_lq (fun w' => Below w9.heap.size w9 w') [(2, 0), (2, 1), (2, 2), (2, 3), (2, 4), (2, 5), (0, 6), (2, 7), (0, 8), (2, 9), (2, 10), (2, 11), (2, 12), (2, 13), (2, 14), (2, 15), (0, 16), (2, 17), (2, 18), (2, 19), (0, 20), (2, 21), (2, 22), (2, 23), (0, 24), (2, 25), (0, 26), (2, 27), (2, 28), (2, 29), (2, 30), (2, 31), (2, 32), (2, 33), (2, 34), (2, 35), (0, 36), (0, 37), (1, 38), (2, 39), (2, 40), (2, 41), (2, 42), (2, 43), (2, 44), (2, 45), (2, 46), (2, 47), (0, 48), (1, 49), (1, 50), (2, 51), (2, 52)] #[true, true, true, true, true, true, true, true, true, true, true, true, true, true, true, true, true, true, true, true, true, true, true, true, true, true, true, true, true, true, true, true, true, true, true, true, true, true, true, true, true, true, true, true, true, true, true, true, true, true, true, true, true] (by kernel_rfl) (by kernel_rfl) (by kernel_rfl) (by kernel_rfl) (by kernel_rfl) (by kernel_rfl) (fun _ _ _ _ _ h => h) (by (exact r9d)) (hL := rfl) ?_
          (apply lq_pure (by rfl); (focus (intro w; go_simp; (try with_reducible rfl); done)); intro K hK; simp only [Act.put, List.setIfInBounds_toArray, List.set_cons_zero, List.set_cons_succ]; refine hK _ ?_; clear hK K)
          (apply lq_pure (by rfl); (focus (intro w; go_simp; (try with_reducible rfl); done)); intro K hK; simp only [Act.put, List.setIfInBounds_toArray, List.set_cons_zero, List.set_cons_succ]; refine hK _ ?_; clear hK K)
          (apply lq_pure (by rfl); (focus (intro w; go_simp; (try with_reducible rfl); done)); intro K hK; simp only [Act.put, List.setIfInBounds_toArray, List.set_cons_zero, List.set_cons_succ]; refine hK _ ?_; clear hK K)
          (apply lq_pure (by rfl); (focus (intro w; go_simp; (try with_reducible rfl); done)); intro K hK; simp only [Act.put, List.setIfInBounds_toArray, List.set_cons_zero, List.set_cons_succ]; refine hK _ ?_; clear hK K)
          (apply lq_pure (by kernel_rfl); (focus (intro w; go_simp; (try with_reducible rfl); done)); intro K hK; simp only [Act.put, List.setIfInBounds_toArray, List.set_cons_zero, List.set_cons_succ]; refine hK _ ?_; clear hK K)
          (apply lq_pure (by kernel_rfl); (focus (intro w; go_simp; (try with_reducible rfl); done)); intro K hK; simp only [Act.put, List.setIfInBounds_toArray, List.set_cons_zero, List.set_cons_succ]; refine hK _ ?_; clear hK K)
          (apply lq_take (by kernel_rfl); (focus (intro w hw; (try dsimp only at hw); go_simp; (try with_reducible rfl); done)); intro K hK; simp only [Act.put, List.setIfInBounds_toArray, List.set_cons_zero, List.set_cons_succ]; refine hK _ ?_; clear hK K)
          (apply lq_pure (by kernel_rfl); (focus (intro w; go_simp; (try with_reducible rfl); done)); intro K hK; simp only [Act.put, List.setIfInBounds_toArray, List.set_cons_zero, List.set_cons_succ]; refine hK _ ?_; clear hK K)
          (apply lq_take (by kernel_rfl); (focus (intro w hw; (try dsimp only at hw); go_simp; (try with_reducible rfl); done)); intro K hK; simp only [Act.put, List.setIfInBounds_toArray, List.set_cons_zero, List.set_cons_succ]; refine hK _ ?_; clear hK K)
          (apply lq_pure (by kernel_rfl); (focus (intro w; go_simp; (try with_reducible rfl); done)); intro K hK; simp only [Act.put, List.setIfInBounds_toArray, List.set_cons_zero, List.set_cons_succ]; refine hK _ ?_; clear hK K)
          (apply lq_pure (by rfl); (focus (intro w; go_simp; (try with_reducible rfl); done)); intro K hK; simp only [Act.put, List.setIfInBounds_toArray, List.set_cons_zero, List.set_cons_succ]; refine hK _ ?_; clear hK K)
          (apply lq_pure (by rfl); (focus (intro w; go_simp; (try with_reducible rfl); done)); intro K hK; simp only [Act.put, List.setIfInBounds_toArray, List.set_cons_zero, List.set_cons_succ]; refine hK _ ?_; clear hK K)
          (apply lq_pure (by kernel_rfl); (focus (intro w; go_simp; (try with_reducible rfl); done)); intro K hK; simp only [Act.put, List.setIfInBounds_toArray, List.set_cons_zero, List.set_cons_succ]; refine hK _ ?_; clear hK K)
          (apply lq_pure (by kernel_rfl); (focus (intro w; go_simp; (try with_reducible rfl); done)); intro K hK; simp only [Act.put, List.setIfInBounds_toArray, List.set_cons_zero, List.set_cons_succ]; refine hK _ ?_; clear hK K)
          (apply lq_pure (by kernel_rfl); (focus (intro w; go_simp; (try with_reducible rfl); done)); intro K hK; simp only [Act.put, List.setIfInBounds_toArray, List.set_cons_zero, List.set_cons_succ]; refine hK _ ?_; clear hK K)
          (apply lq_pure (by kernel_rfl); (focus (intro w; go_simp; (try with_reducible rfl); done)); intro K hK; simp only [Act.put, List.setIfInBounds_toArray, List.set_cons_zero, List.set_cons_succ]; refine hK _ ?_; clear hK K)
          (apply lq_take (by kernel_rfl); (focus (intro w hw; (try dsimp only at hw); go_simp; (try with_reducible rfl); done)); intro K hK; simp only [Act.put, List.setIfInBounds_toArray, List.set_cons_zero, List.set_cons_succ]; refine hK _ ?_; clear hK K)
          (apply lq_pure (by kernel_rfl); (focus (intro w; go_simp; (try with_reducible rfl); done)); intro K hK; simp only [Act.put, List.setIfInBounds_toArray, List.set_cons_zero, List.set_cons_succ]; refine hK _ ?_; clear hK K)
          (apply lq_pure (by kernel_rfl); (focus (intro w; go_simp; (try with_reducible rfl); done)); intro K hK; simp only [Act.put, List.setIfInBounds_toArray, List.set_cons_zero, List.set_cons_succ]; refine hK _ ?_; clear hK K)
          (apply lq_pure (by kernel_rfl); (focus (intro w; go_simp; (try with_reducible rfl); done)); intro K hK; simp only [Act.put, List.setIfInBounds_toArray, List.set_cons_zero, List.set_cons_succ]; refine hK _ ?_; clear hK K)
          (apply lq_take (by kernel_rfl); (focus (intro w hw; (try dsimp only at hw); go_simp; (try with_reducible rfl); done)); intro K hK; simp only [Act.put, List.setIfInBounds_toArray, List.set_cons_zero, List.set_cons_succ]; refine hK _ ?_; clear hK K)
          (apply lq_pure (by kernel_rfl); (focus (intro w; go_simp; (try with_reducible rfl); done)); intro K hK; simp only [Act.put, List.setIfInBounds_toArray, List.set_cons_zero, List.set_cons_succ]; refine hK _ ?_; clear hK K)
          (apply lq_pure (by kernel_rfl); (focus (intro w; go_simp; (try with_reducible rfl); done)); intro K hK; simp only [Act.put, List.setIfInBounds_toArray, List.set_cons_zero, List.set_cons_succ]; refine hK _ ?_; clear hK K)
          (apply lq_pure (by kernel_rfl); (focus (intro w; go_simp; (try with_reducible rfl); done)); intro K hK; simp only [Act.put, List.setIfInBounds_toArray, List.set_cons_zero, List.set_cons_succ]; refine hK _ ?_; clear hK K)
          (apply lq_take (by kernel_rfl); (focus (intro w hw; (try dsimp only at hw); go_simp; (try with_reducible rfl); done)); intro K hK; simp only [Act.put, List.setIfInBounds_toArray, List.set_cons_zero, List.set_cons_succ]; refine hK _ ?_; clear hK K)
          (apply lq_pure (by kernel_rfl); (focus (intro w; go_simp; (try with_reducible rfl); done)); intro K hK; simp only [Act.put, List.setIfInBounds_toArray, List.set_cons_zero, List.set_cons_succ]; refine hK _ ?_; clear hK K)
          (apply lq_take (by kernel_rfl); (focus (intro w hw; (try dsimp only at hw); go_simp; (try with_reducible rfl); done)); intro K hK; simp only [Act.put, List.setIfInBounds_toArray, List.set_cons_zero, List.set_cons_succ]; refine hK _ ?_; clear hK K)
          (apply lq_pure (by kernel_rfl); (focus (intro w; go_simp; (try with_reducible rfl); done)); intro K hK; simp only [Act.put, List.setIfInBounds_toArray, List.set_cons_zero, List.set_cons_succ]; refine hK _ ?_; clear hK K)
          (apply lq_pure (by kernel_rfl); (focus (intro w; go_simp; (try with_reducible rfl); done)); intro K hK; simp only [Act.put, List.setIfInBounds_toArray, List.set_cons_zero, List.set_cons_succ]; refine hK _ ?_; clear hK K)
          (apply lq_pure (by kernel_rfl); (focus (intro w; go_simp; (try with_reducible rfl); done)); intro K hK; simp only [Act.put, List.setIfInBounds_toArray, List.set_cons_zero, List.set_cons_succ]; refine hK _ ?_; clear hK K)
          (apply lq_pure (by kernel_rfl); (focus (intro w; go_simp; (try with_reducible rfl); done)); intro K hK; simp only [Act.put, List.setIfInBounds_toArray, List.set_cons_zero, List.set_cons_succ]; refine hK _ ?_; clear hK K)
          (apply lq_pure (by rfl); (focus (intro w; go_simp; (try with_reducible rfl); done)); intro K hK; simp only [Act.put, List.setIfInBounds_toArray, List.set_cons_zero, List.set_cons_succ]; refine hK _ ?_; clear hK K)
          (apply lq_pure (by rfl); (focus (intro w; go_simp; (try with_reducible rfl); done)); intro K hK; simp only [Act.put, List.setIfInBounds_toArray, List.set_cons_zero, List.set_cons_succ]; refine hK _ ?_; clear hK K)
          (apply lq_pure (by kernel_rfl); (focus (intro w; go_simp; (try with_reducible rfl); done)); intro K hK; simp only [Act.put, List.setIfInBounds_toArray, List.set_cons_zero, List.set_cons_succ]; refine hK _ ?_; clear hK K)
          (apply lq_pure (by kernel_rfl); (focus (intro w; go_simp; (try with_reducible rfl); done)); intro K hK; simp only [Act.put, List.setIfInBounds_toArray, List.set_cons_zero, List.set_cons_succ]; refine hK _ ?_; clear hK K)
          (apply lq_pure (by kernel_rfl); (focus (intro w; go_simp; (try with_reducible rfl); done)); intro K hK; simp only [Act.put, List.setIfInBounds_toArray, List.set_cons_zero, List.set_cons_succ]; refine hK _ ?_; clear hK K)
          (refine lq_skip (by kernel_rfl) ?_; intro K hK; simp only [Act.put, List.setIfInBounds_toArray, List.set_cons_zero, List.set_cons_succ]; refine hK _ ?_; clear hK K)
          (refine lq_skip (by kernel_rfl) ?_; intro K hK; simp only [Act.put, List.setIfInBounds_toArray, List.set_cons_zero, List.set_cons_succ]; refine hK _ ?_; clear hK K)
          (refine lq_effskip (by kernel_rfl) (by (exact r9d)) ?_; intro K hK; simp only [Act.put, List.setIfInBounds_toArray, List.set_cons_zero, List.set_cons_succ]; refine hK _ ?_; clear hK K)
          (refine lq_skipP (by kernel_rfl) ?_; intro K hK; simp only [Act.put, List.setIfInBounds_toArray, List.set_cons_zero, List.set_cons_succ]; refine hK _ ?_; clear hK K)
          (apply lq_pure (by kernel_rfl); (focus (intro w; go_simp; (try with_reducible rfl); done)); intro K hK; simp only [Act.put, List.setIfInBounds_toArray, List.set_cons_zero, List.set_cons_succ]; refine hK _ ?_; clear hK K)
          (apply lq_pure (by rfl); (focus (intro w; go_simp; (try with_reducible rfl); done)); intro K hK; simp only [Act.put, List.setIfInBounds_toArray, List.set_cons_zero, List.set_cons_succ]; refine hK _ ?_; clear hK K)
          (apply lq_pure (by rfl); (focus (intro w; go_simp; (try with_reducible rfl); done)); intro K hK; simp only [Act.put, List.setIfInBounds_toArray, List.set_cons_zero, List.set_cons_succ]; refine hK _ ?_; clear hK K)
          (apply lq_pure (by kernel_rfl); (focus (intro w; go_simp; (try with_reducible rfl); done)); intro K hK; simp only [Act.put, List.setIfInBounds_toArray, List.set_cons_zero, List.set_cons_succ]; refine hK _ ?_; clear hK K)
          (apply lq_pure (by kernel_rfl); (focus (intro w; go_simp; (try with_reducible rfl); done)); intro K hK; simp only [Act.put, List.setIfInBounds_toArray, List.set_cons_zero, List.set_cons_succ]; refine hK _ ?_; clear hK K)
          (apply lq_pure (by kernel_rfl); (focus (intro w; go_simp; (try with_reducible rfl); done)); intro K hK; simp only [Act.put, List.setIfInBounds_toArray, List.set_cons_zero, List.set_cons_succ]; refine hK _ ?_; clear hK K)
          (apply lq_pure (by kernel_rfl); (focus (intro w; go_simp; (try with_reducible rfl); done)); intro K hK; simp only [Act.put, List.setIfInBounds_toArray, List.set_cons_zero, List.set_cons_succ]; refine hK _ ?_; clear hK K)
          (apply lq_pure (by kernel_rfl); (focus (intro w; go_simp; (try with_reducible rfl); done)); intro K hK; simp only [Act.put, List.setIfInBounds_toArray, List.set_cons_zero, List.set_cons_succ]; refine hK _ ?_; clear hK K)
          (apply lq_take (by kernel_rfl); (focus (intro w hw; (try dsimp only at hw); go_simp; (try with_reducible rfl); done)); intro K hK; simp only [Act.put, List.setIfInBounds_toArray, List.set_cons_zero, List.set_cons_succ]; refine hK _ ?_; clear hK K)
          refine lq_eff (by kernel_rfl) ?_
          intro K Q1 hQ1 hK; clear hQ1; go_simp; (have hS9 := r9d.alloc r9d.size (.cells #[.int .i64 pr, .int .i64 pw, .int .i64 pl, .int .i64 pb] 29); have HKA := hide hS9); (try simp only [Act.put, List.setIfInBounds_toArray, List.set_cons_zero, List.set_cons_succ]); refine hK _ _ hS9 ?_; clear hK K Q1 hS9
          refine lq_eff (by kernel_rfl) ?_
          intro K Q1 hQ1 hK; clear hQ1; go_simp; (go_at_call 12; refine (admits_calls 2 [⟨pr, pw, pl, pb⟩] _ _ _ (by exact Reads.new (by simp) (by simp) rfl)).mono ?_; rintro e w9c ⟨rfl, hb9⟩; rw [HAD.out]; have hS9 := HKA.out.trans (hb9.mono HKA.out.size)); (try simp only [Act.put, List.setIfInBounds_toArray, List.set_cons_zero, List.set_cons_succ]); refine hK _ _ hS9 ?_; clear hK K Q1 hS9
          (apply lq_pure (by kernel_rfl); (focus (intro w; go_simp; (try with_reducible rfl); done)); intro K hK; simp only [Act.put, List.setIfInBounds_toArray, List.set_cons_zero, List.set_cons_succ]; refine hK _ ?_; clear hK K)
          (apply lq_pure (by rfl); (focus (intro w; go_simp; (try with_reducible rfl); done)); intro K hK; simp only [Act.put, List.setIfInBounds_toArray, List.set_cons_zero, List.set_cons_succ]; refine hK _ ?_; clear hK K)
          refine lq_nil ?_
          intro hS9
          have HF := hide (And.intro (HK9.out.1.below hS9) (HBW.out.trans (hS9.mono HBW.out.size)))
          clear hS9 hb9
          go_wp2
          go_roundw
          case rel => exact ⟨k + 1, S', _, by omega, by go_num, HPS3.out, HF.out.1, HF.out.2⟩
          case measure => simp [intOf]; omega
        · rw [hap] at hz HV6
          have hz3 : z ≠ 0 := by rw [hz]; exact hz'
          have HAD := hide hadm
          have HPS3 := HPS2
          have hz1 : (z != 0) = true := by simpa using hz3
          have hz2 : (z == 0) = false := by simpa using hz3
          clear hap hadm hz' hz
          simp only []
          have hvc := hide (HV6.out.volume (id := 9) (by unfold i64ok; omega))
          rw [HFD.out _ _ HPS3.out] at hvc
          go_wp2_with fail
          refine hvc.out.mono ?_
          intro e w7 hvo
          obtain ⟨A2, c2, rfl, hbox, hbw⟩ := hvo.box HV6.out.lt
          have q3 := (Below.refl w7.heap.size w7).alloc (Nat.le_refl _) (.cells (⟨(⟨id0, bl0, ⟨r0, x0, l0, u0⟩, ver0, ch0⟩ : Vo), A2, c2⟩ : VoM).cells.toArray 34)
          have K7 := And.intro ((HV6.out.below hbw).below q3) (And.intro ((HK6.out.1.trans (hbw.mono HK6.out.1.size)).trans (q3.mono (Nat.le_trans HK6.out.1.size hbw.size))) (And.intro ((HK6.out.2.below hbw).below q3) hbox))
          simp only [VoM.val, VoM.cells] at K7 ⊢
          obtain ⟨w8, hw8⟩ : ∃ w8, w7.alloc (.cells #[.int .i64 id0, .int .i64 bl0, .int .i64 r0, .int .i64 x0, .int .i64 l0, .int .i64 u0, .int .i64 ver0, .slice A2 ch0.length c2] 34) = w8 := ⟨_, rfl⟩
          rw [hw8] at K7
          have HK8 := hide K7
          have hpc := hide (HK8.out.1.policies (by omega) 0)
          rw [HPS3.out.pol] at hpc
          clear hvo hbox hbw q3 K7 hvc
          go_wp2_with fail
          refine hpc.out.mono ?_
          rintro e w9 ⟨A3, c3, rfl, hrp, hgp, hb9⟩
          have HW8 := hide hw8
          have HW5 := hide hw5
          have HK9 := hide (And.intro (HK8.out.1.below hb9) (And.intro (HK8.out.2.1.trans (hb9.mono HK8.out.2.1.size)) (And.intro (HK8.out.2.2.1.below hb9) (HK8.out.2.2.2.below hb9))))
          have HRP := hide hrp
          clear hrp hgp hb9 hpc hw8 hw5
          simp only [List.length_singleton]
          have HSV : Hid (∀ w', Below w9.heap.size w9 w' → Calls Try.prog 11 #[.agg #[.int .i64 id0, .int .i64 bl0, .int .i64 r0, .int .i64 x0, .int .i64 l0, .int .i64 u0, .int .i64 ver0, .slice A1 ch0.length c1], .agg #[.int .i64 id0, .int .i64 bl0, .int .i64 r0, .int .i64 x0, .int .i64 l0, .int .i64 u0, .int .i64 ver0, .slice A2 ch0.length c2]] w' fun e w'' => e = .returned (.bool true) ∧ Below w'.heap.size w' w'') :=
            hide (fun w' hb => sameVol_calls ⟨id0, bl0, ⟨r0, x0, l0, u0⟩, ver0, ch0⟩ A1 A2 c1 c2 w' (HK9.out.2.2.1.rd.below hb) (HK9.out.2.2.2.rd.below hb))
          have r9 := Below.refl w9.heap.size w9
          have a2' : ∀ w', Below w9.heap.size w9 w' → w'.cell? ⟨w4.heap.size, 2, none⟩ = some (.int .i64 r0) := HK9.out.2.2.1.blk.rule 2 _ rfl
          have a0' : ∀ w', Below w9.heap.size w9 w' → w'.cell? ⟨w4.heap.size, 0, none⟩ = some (.int .i64 id0) := HK9.out.2.2.1.blk.rule 0 _ rfl
          have a1' : ∀ w', Below w9.heap.size w9 w' → w'.cell? ⟨w4.heap.size, 1, none⟩ = some (.int .i64 bl0) := HK9.out.2.2.1.blk.rule 1 _ rfl
          have a3' : ∀ w', Below w9.heap.size w9 w' → w'.cell? ⟨w4.heap.size, 3, none⟩ = some (.int .i64 x0) := HK9.out.2.2.1.blk.rule 3 _ rfl
          have a4' : ∀ w', Below w9.heap.size w9 w' → w'.cell? ⟨w4.heap.size, 4, none⟩ = some (.int .i64 l0) := HK9.out.2.2.1.blk.rule 4 _ rfl
          have a5' : ∀ w', Below w9.heap.size w9 w' → w'.cell? ⟨w4.heap.size, 5, none⟩ = some (.int .i64 u0) := HK9.out.2.2.1.blk.rule 5 _ rfl
          have a6' : ∀ w', Below w9.heap.size w9 w' → w'.cell? ⟨w4.heap.size, 6, none⟩ = some (.int .i64 ver0) := HK9.out.2.2.1.blk.rule 6 _ rfl
          have a7' : ∀ w', Below w9.heap.size w9 w' → w'.cell? ⟨w4.heap.size, 7, none⟩ = some (.slice A1 ch0.length c1) := HK9.out.2.2.1.blk.rule 7 _ rfl
          have d0' : ∀ w', Below w9.heap.size w9 w' → w'.cell? ⟨w7.heap.size, 0, none⟩ = some (.int .i64 id0) := HK9.out.2.2.2.blk.rule 0 _ rfl
          have d1' : ∀ w', Below w9.heap.size w9 w' → w'.cell? ⟨w7.heap.size, 1, none⟩ = some (.int .i64 bl0) := HK9.out.2.2.2.blk.rule 1 _ rfl
          have d2' : ∀ w', Below w9.heap.size w9 w' → w'.cell? ⟨w7.heap.size, 2, none⟩ = some (.int .i64 r0) := HK9.out.2.2.2.blk.rule 2 _ rfl
          have d3' : ∀ w', Below w9.heap.size w9 w' → w'.cell? ⟨w7.heap.size, 3, none⟩ = some (.int .i64 x0) := HK9.out.2.2.2.blk.rule 3 _ rfl
          have d4' : ∀ w', Below w9.heap.size w9 w' → w'.cell? ⟨w7.heap.size, 4, none⟩ = some (.int .i64 l0) := HK9.out.2.2.2.blk.rule 4 _ rfl
          have d5' : ∀ w', Below w9.heap.size w9 w' → w'.cell? ⟨w7.heap.size, 5, none⟩ = some (.int .i64 u0) := HK9.out.2.2.2.blk.rule 5 _ rfl
          have d6' : ∀ w', Below w9.heap.size w9 w' → w'.cell? ⟨w7.heap.size, 6, none⟩ = some (.int .i64 ver0) := HK9.out.2.2.2.blk.rule 6 _ rfl
          have d7' : ∀ w', Below w9.heap.size w9 w' → w'.cell? ⟨w7.heap.size, 7, none⟩ = some (.slice A2 ch0.length c2) := HK9.out.2.2.2.blk.rule 7 _ rfl
          obtain ⟨bP, oP, eP, hbP, hcP⟩ := HRP.out.2 (by simp)
          subst eP
          have f0 : ∀ w', Below w9.heap.size w9 w' → w'.cell? ⟨bP, oP, none⟩ = some (.int .i64 r0) := fun w' hb => (hb.cell (p := ⟨bP, oP, none⟩) hbP).trans (hcP 0 _ rfl)
          have f1 : ∀ w', Below w9.heap.size w9 w' → w'.cell? ⟨bP, oP + 1, none⟩ = some (.int .i64 x0) := fun w' hb => (hb.cell (p := ⟨bP, oP + 1, none⟩) hbP).trans (hcP 1 _ rfl)
          have f2 : ∀ w', Below w9.heap.size w9 w' → w'.cell? ⟨bP, oP + 2, none⟩ = some (.int .i64 l0) := fun w' hb => (hb.cell (p := ⟨bP, oP + 2, none⟩) hbP).trans (hcP 2 _ rfl)
          have f3 : ∀ w', Below w9.heap.size w9 w' → w'.cell? ⟨bP, oP + 3, none⟩ = some (.int .i64 u0) := fun w' hb => (hb.cell (p := ⟨bP, oP + 3, none⟩) hbP).trans (hcP 3 _ rfl)
          have HBW9 := HK9.out.2.1
          have l0r : ∀ w', Below w9.heap.size w9 w' → w'.cell? ⟨bA, oA + k * 4, none⟩ = some (.int .i64 pr) := fun w' hb => HRU.out w' (HBW9.trans (hb.mono HBW9.size)) 0 (by omega)
          have l1r : ∀ w', Below w9.heap.size w9 w' → w'.cell? ⟨bA, oA + k * 4 + 1, none⟩ = some (.int .i64 pw) := fun w' hb => HRU.out w' (HBW9.trans (hb.mono HBW9.size)) 1 (by omega)
          have l2r : ∀ w', Below w9.heap.size w9 w' → w'.cell? ⟨bA, oA + k * 4 + 2, none⟩ = some (.int .i64 pl) := fun w' hb => HRU.out w' (HBW9.trans (hb.mono HBW9.size)) 2 (by omega)
          have l3r : ∀ w', Below w9.heap.size w9 w' → w'.cell? ⟨bA, oA + k * 4 + 3, none⟩ = some (.int .i64 pb) := fun w' hb => HRU.out w' (HBW9.trans (hb.mono HBW9.size)) 3 (by omega)
          have HBW := hide HBW9
          clear hbP hcP HBW9
          have r9d := r9.drew
          have he1 := run_nePol r0 x0 l0 u0 r0 x0 l0 u0
          simp only [beq_self_eq_true, Bool.and_self, Bool.not_true] at he1
          go_wp2_with fail
          refine region_lq (fun w' => Below w9.heap.size w9 w') [(2, 0), (2, 1), (2, 2), (2, 3), (2, 4), (2, 5), (0, 6), (2, 7), (0, 8), (2, 9), (2, 10), (2, 11), (2, 12), (2, 13), (2, 14), (2, 15), (0, 16), (2, 17), (2, 18), (2, 19), (0, 20), (2, 21), (2, 22), (2, 23), (0, 24), (2, 25), (0, 26), (2, 27), (2, 28), (2, 29), (2, 30), (2, 31), (2, 32), (2, 33), (2, 34), (2, 35), (0, 36), (0, 37), (1, 38), (2, 39), (2, 40), (2, 41), (2, 42), (2, 43), (2, 44), (2, 45), (2, 46), (2, 47), (0, 48), (1, 49), (1, 50), (2, 51), (2, 52)] #[true, true, true, true, true, true, true, true, true, true, true, true, true, true, true, true, true, true, true, true, true, true, true, true, true, true, true, true, true, true, true, true, true, true, true, true, true, true, true, true, true, true, true, true, true, true, true, true, true, true, true, true, true] (by kernel_rfl) (by kernel_rfl) (by kernel_rfl) (by kernel_rfl) (by kernel_rfl) (by kernel_rfl) (fun _ _ _ _ _ h => h) (by (exact r9d)) (hL := rfl) ?_
          (apply lq_pure (by rfl); (focus (intro w; go_simp; (try with_reducible rfl); done)); intro K hK; simp only [Act.put, List.setIfInBounds_toArray, List.set_cons_zero, List.set_cons_succ]; refine hK _ ?_; clear hK K)
          (apply lq_pure (by rfl); (focus (intro w; go_simp; (try with_reducible rfl); done)); intro K hK; simp only [Act.put, List.setIfInBounds_toArray, List.set_cons_zero, List.set_cons_succ]; refine hK _ ?_; clear hK K)
          (apply lq_pure (by rfl); (focus (intro w; go_simp; (try with_reducible rfl); done)); intro K hK; simp only [Act.put, List.setIfInBounds_toArray, List.set_cons_zero, List.set_cons_succ]; refine hK _ ?_; clear hK K)
          (apply lq_pure (by rfl); (focus (intro w; go_simp; (try with_reducible rfl); done)); intro K hK; simp only [Act.put, List.setIfInBounds_toArray, List.set_cons_zero, List.set_cons_succ]; refine hK _ ?_; clear hK K)
          (apply lq_pure (by kernel_rfl); (focus (intro w; go_simp; (try with_reducible rfl); done)); intro K hK; simp only [Act.put, List.setIfInBounds_toArray, List.set_cons_zero, List.set_cons_succ]; refine hK _ ?_; clear hK K)
          (apply lq_pure (by kernel_rfl); (focus (intro w; go_simp; (try with_reducible rfl); done)); intro K hK; simp only [Act.put, List.setIfInBounds_toArray, List.set_cons_zero, List.set_cons_succ]; refine hK _ ?_; clear hK K)
          (apply lq_take (by kernel_rfl); (focus (intro w hw; (try dsimp only at hw); go_simp; (try with_reducible rfl); done)); intro K hK; simp only [Act.put, List.setIfInBounds_toArray, List.set_cons_zero, List.set_cons_succ]; refine hK _ ?_; clear hK K)
          (apply lq_pure (by kernel_rfl); (focus (intro w; go_simp; (try with_reducible rfl); done)); intro K hK; simp only [Act.put, List.setIfInBounds_toArray, List.set_cons_zero, List.set_cons_succ]; refine hK _ ?_; clear hK K)
          (apply lq_take (by kernel_rfl); (focus (intro w hw; (try dsimp only at hw); go_simp; (try with_reducible rfl); done)); intro K hK; simp only [Act.put, List.setIfInBounds_toArray, List.set_cons_zero, List.set_cons_succ]; refine hK _ ?_; clear hK K)
          (apply lq_pure (by kernel_rfl); (focus (intro w; go_simp; (try with_reducible rfl); done)); intro K hK; simp only [Act.put, List.setIfInBounds_toArray, List.set_cons_zero, List.set_cons_succ]; refine hK _ ?_; clear hK K)
          (apply lq_pure (by rfl); (focus (intro w; go_simp; (try with_reducible rfl); done)); intro K hK; simp only [Act.put, List.setIfInBounds_toArray, List.set_cons_zero, List.set_cons_succ]; refine hK _ ?_; clear hK K)
          (apply lq_pure (by rfl); (focus (intro w; go_simp; (try with_reducible rfl); done)); intro K hK; simp only [Act.put, List.setIfInBounds_toArray, List.set_cons_zero, List.set_cons_succ]; refine hK _ ?_; clear hK K)
          (apply lq_pure (by kernel_rfl); (focus (intro w; go_simp; (try with_reducible rfl); done)); intro K hK; simp only [Act.put, List.setIfInBounds_toArray, List.set_cons_zero, List.set_cons_succ]; refine hK _ ?_; clear hK K)
          (apply lq_pure (by kernel_rfl); (focus (intro w; go_simp; (try with_reducible rfl); done)); intro K hK; simp only [Act.put, List.setIfInBounds_toArray, List.set_cons_zero, List.set_cons_succ]; refine hK _ ?_; clear hK K)
          (apply lq_pure (by kernel_rfl); (focus (intro w; go_simp; (try with_reducible rfl); done)); intro K hK; simp only [Act.put, List.setIfInBounds_toArray, List.set_cons_zero, List.set_cons_succ]; refine hK _ ?_; clear hK K)
          (refine lq_skipP (by kernel_rfl) ?_; intro K hK; simp only [Act.put, List.setIfInBounds_toArray, List.set_cons_zero, List.set_cons_succ]; refine hK _ ?_; clear hK K)
          (refine lq_skip (by kernel_rfl) ?_; intro K hK; simp only [Act.put, List.setIfInBounds_toArray, List.set_cons_zero, List.set_cons_succ]; refine hK _ ?_; clear hK K)
          (refine lq_skipP (by kernel_rfl) ?_; intro K hK; simp only [Act.put, List.setIfInBounds_toArray, List.set_cons_zero, List.set_cons_succ]; refine hK _ ?_; clear hK K)
          (refine lq_skipP (by kernel_rfl) ?_; intro K hK; simp only [Act.put, List.setIfInBounds_toArray, List.set_cons_zero, List.set_cons_succ]; refine hK _ ?_; clear hK K)
          (refine lq_skipP (by kernel_rfl) ?_; intro K hK; simp only [Act.put, List.setIfInBounds_toArray, List.set_cons_zero, List.set_cons_succ]; refine hK _ ?_; clear hK K)
          (refine lq_skip (by kernel_rfl) ?_; intro K hK; simp only [Act.put, List.setIfInBounds_toArray, List.set_cons_zero, List.set_cons_succ]; refine hK _ ?_; clear hK K)
          (refine lq_skipP (by kernel_rfl) ?_; intro K hK; simp only [Act.put, List.setIfInBounds_toArray, List.set_cons_zero, List.set_cons_succ]; refine hK _ ?_; clear hK K)
          (refine lq_skipP (by kernel_rfl) ?_; intro K hK; simp only [Act.put, List.setIfInBounds_toArray, List.set_cons_zero, List.set_cons_succ]; refine hK _ ?_; clear hK K)
          (refine lq_skipP (by kernel_rfl) ?_; intro K hK; simp only [Act.put, List.setIfInBounds_toArray, List.set_cons_zero, List.set_cons_succ]; refine hK _ ?_; clear hK K)
          (refine lq_skip (by kernel_rfl) ?_; intro K hK; simp only [Act.put, List.setIfInBounds_toArray, List.set_cons_zero, List.set_cons_succ]; refine hK _ ?_; clear hK K)
          (refine lq_skipP (by kernel_rfl) ?_; intro K hK; simp only [Act.put, List.setIfInBounds_toArray, List.set_cons_zero, List.set_cons_succ]; refine hK _ ?_; clear hK K)
          (refine lq_skip (by kernel_rfl) ?_; intro K hK; simp only [Act.put, List.setIfInBounds_toArray, List.set_cons_zero, List.set_cons_succ]; refine hK _ ?_; clear hK K)
          (refine lq_skipP (by kernel_rfl) ?_; intro K hK; simp only [Act.put, List.setIfInBounds_toArray, List.set_cons_zero, List.set_cons_succ]; refine hK _ ?_; clear hK K)
          (refine lq_skipP (by kernel_rfl) ?_; intro K hK; simp only [Act.put, List.setIfInBounds_toArray, List.set_cons_zero, List.set_cons_succ]; refine hK _ ?_; clear hK K)
          (refine lq_skipP (by kernel_rfl) ?_; intro K hK; simp only [Act.put, List.setIfInBounds_toArray, List.set_cons_zero, List.set_cons_succ]; refine hK _ ?_; clear hK K)
          (apply lq_pure (by kernel_rfl); (focus (intro w; go_simp; (try with_reducible rfl); done)); intro K hK; simp only [Act.put, List.setIfInBounds_toArray, List.set_cons_zero, List.set_cons_succ]; refine hK _ ?_; clear hK K)
          (apply lq_pure (by rfl); (focus (intro w; go_simp; (try with_reducible rfl); done)); intro K hK; simp only [Act.put, List.setIfInBounds_toArray, List.set_cons_zero, List.set_cons_succ]; refine hK _ ?_; clear hK K)
          (apply lq_pure (by rfl); (focus (intro w; go_simp; (try with_reducible rfl); done)); intro K hK; simp only [Act.put, List.setIfInBounds_toArray, List.set_cons_zero, List.set_cons_succ]; refine hK _ ?_; clear hK K)
          (apply lq_pure (by kernel_rfl); (focus (intro w; go_simp; (try with_reducible rfl); done)); intro K hK; simp only [Act.put, List.setIfInBounds_toArray, List.set_cons_zero, List.set_cons_succ]; refine hK _ ?_; clear hK K)
          (apply lq_pure (by kernel_rfl); (focus (intro w; go_simp; (try with_reducible rfl); done)); intro K hK; simp only [Act.put, List.setIfInBounds_toArray, List.set_cons_zero, List.set_cons_succ]; refine hK _ ?_; clear hK K)
          (apply lq_pure (by kernel_rfl); (focus (intro w; go_simp; (try with_reducible rfl); done)); intro K hK; simp only [Act.put, List.setIfInBounds_toArray, List.set_cons_zero, List.set_cons_succ]; refine hK _ ?_; clear hK K)
          (apply lq_take (by kernel_rfl); (focus (intro w hw; (try dsimp only at hw); go_simp; (try with_reducible rfl); done)); intro K hK; simp only [Act.put, List.setIfInBounds_toArray, List.set_cons_zero, List.set_cons_succ]; refine hK _ ?_; clear hK K)
          (apply lq_take (by kernel_rfl); (focus (intro w hw; (try dsimp only at hw); go_simp; (try with_reducible rfl); done)); intro K hK; simp only [Act.put, List.setIfInBounds_toArray, List.set_cons_zero, List.set_cons_succ]; refine hK _ ?_; clear hK K)
          refine lq_eff (by kernel_rfl) ?_
          intro K Q1 hQ1 hK; clear hQ1; go_simp; (go_at_call 11; refine (HSV.out _ r9d).mono ?_; rintro e w9a ⟨rfl, hb8⟩; have hS9 := r9d.trans (hb8.mono r9d.size); have HKA0 := hide hS9); (try simp only [Act.put, List.setIfInBounds_toArray, List.set_cons_zero, List.set_cons_succ]); refine hK _ _ hS9 ?_; clear hK K Q1 hS9
          (apply lq_pure (by kernel_rfl); (focus (intro w; go_simp; (try with_reducible rfl); done)); intro K hK; simp only [Act.put, List.setIfInBounds_toArray, List.set_cons_zero, List.set_cons_succ]; refine hK _ ?_; clear hK K)
          (apply lq_pure (by kernel_rfl); (focus (intro w; go_simp; (try with_reducible rfl); done)); intro K hK; simp only [Act.put, List.setIfInBounds_toArray, List.set_cons_zero, List.set_cons_succ]; refine hK _ ?_; clear hK K)
          (apply lq_pure (by rfl); (focus (intro w; go_simp; (try with_reducible rfl); done)); intro K hK; simp only [Act.put, List.setIfInBounds_toArray, List.set_cons_zero, List.set_cons_succ]; refine hK _ ?_; clear hK K)
          (apply lq_pure (by rfl); (focus (intro w; go_simp; (try with_reducible rfl); done)); intro K hK; simp only [Act.put, List.setIfInBounds_toArray, List.set_cons_zero, List.set_cons_succ]; refine hK _ ?_; clear hK K)
          (apply lq_pure (by kernel_rfl); (focus (intro w; go_simp; (try with_reducible rfl); done)); intro K hK; simp only [Act.put, List.setIfInBounds_toArray, List.set_cons_zero, List.set_cons_succ]; refine hK _ ?_; clear hK K)
          (apply lq_pure (by kernel_rfl); (focus (intro w; go_simp; (try with_reducible rfl); done)); intro K hK; simp only [Act.put, List.setIfInBounds_toArray, List.set_cons_zero, List.set_cons_succ]; refine hK _ ?_; clear hK K)
          (apply lq_pure (by kernel_rfl); (focus (intro w; go_simp; (try with_reducible rfl); done)); intro K hK; simp only [Act.put, List.setIfInBounds_toArray, List.set_cons_zero, List.set_cons_succ]; refine hK _ ?_; clear hK K)
          (apply lq_pure (by kernel_rfl); (focus (intro w; go_simp; (try with_reducible rfl); done)); intro K hK; simp only [Act.put, List.setIfInBounds_toArray, List.set_cons_zero, List.set_cons_succ]; refine hK _ ?_; clear hK K)
          (apply lq_pure (by kernel_rfl); (focus (intro w; go_simp; (try with_reducible rfl); done)); intro K hK; simp only [Act.put, List.setIfInBounds_toArray, List.set_cons_zero, List.set_cons_succ]; refine hK _ ?_; clear hK K)
          (apply lq_take (by kernel_rfl); (focus (intro w hw; (try dsimp only at hw); go_simp; (try with_reducible rfl); done)); intro K hK; simp only [Act.put, List.setIfInBounds_toArray, List.set_cons_zero, List.set_cons_succ]; refine hK _ ?_; clear hK K)
          refine lq_eff (by kernel_rfl) ?_
          intro K Q1 hQ1 hK; clear hQ1; go_simp; (have hS9 := HKA0.out.alloc HKA0.out.size (.cells #[.int .i64 pr, .int .i64 pw, .int .i64 pl, .int .i64 pb] 29); have HKA := hide hS9); (try simp only [Act.put, List.setIfInBounds_toArray, List.set_cons_zero, List.set_cons_succ]); refine hK _ _ hS9 ?_; clear hK K Q1 hS9
          refine lq_eff (by kernel_rfl) ?_
          intro K Q1 hQ1 hK; clear hQ1; go_simp; (go_at_call 12; refine (admits_calls 2 [⟨pr, pw, pl, pb⟩] _ _ _ (by exact Reads.new (by simp) (by simp) rfl)).mono ?_; rintro e w9c ⟨rfl, hb9⟩; rw [HAD.out]; have hS9 := HKA.out.trans (hb9.mono HKA.out.size)); (try simp only [Act.put, List.setIfInBounds_toArray, List.set_cons_zero, List.set_cons_succ]); refine hK _ _ hS9 ?_; clear hK K Q1 hS9
          (apply lq_pure (by kernel_rfl); (focus (intro w; go_simp; (try with_reducible rfl); done)); intro K hK; simp only [Act.put, List.setIfInBounds_toArray, List.set_cons_zero, List.set_cons_succ]; refine hK _ ?_; clear hK K)
          (apply lq_pure (by rfl); (focus (intro w; go_simp; (try with_reducible rfl); done)); intro K hK; simp only [Act.put, List.setIfInBounds_toArray, List.set_cons_zero, List.set_cons_succ]; refine hK _ ?_; clear hK K)
          refine lq_nil ?_
          intro hS9
          have HF := hide (And.intro (HK9.out.1.below hS9) (HBW.out.trans (hS9.mono HBW.out.size)))
          clear hS9 hb9
          go_wp2
          go_roundw
          case rel => exact ⟨k + 1, S, _, by omega, by go_num, HPS3.out, HF.out.1, HF.out.2⟩
          case measure => simp [intOf]; omega
      · have e : k = ps.length := by omega
        have i1 : ¬ ((k : Int) < ps.length) := by omega
        clear e
        go_wp2_with fail
        refine (awake18_calls _).mono ?_
        rintro e w10 ⟨rfl, hb10⟩
        have HF := hide (HBR.out.trans (hb10.mono HBR.out.size))
        clear hb10
        go_wp2
        go_ret
        exact ⟨rfl, HF.out⟩
end Go.Proofs.Ytcgecalbgkkinaa
