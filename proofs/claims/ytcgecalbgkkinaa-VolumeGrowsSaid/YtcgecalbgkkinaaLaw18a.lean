/- VolumeGrows: the walk. -/
import Derived.Test.YtcgecalbgkkinaaGrw
import Derived.Test.YtcgecalbgkkinaaOpen
import Derived.Test.YtcgecalbgkkinaaReg4
namespace Go.Proofs.Ytcgecalbgkkinaa
open Go.ChangeShapes Go.WideShapes Go.ChangeAt Go.RowKit Go.Maps
set_option linter.unusedVariables false
set_option linter.unusedSimpArgs false

set_option maxHeartbeats 8000000 in
set_option maxRecDepth 100000 in
/-- THE WALK of VolumeGrows: whatever comes in, it answers true, and nothing that was there turns. -/
theorem volumeGrows_walk {H : Type} {enc : TypeId × Value → H} (W : World) (base : Nat) (v0 v1 : Value) (d0 d1 : DataW H) (p0 p1 : List MemPlace)
    (ok0 : Value.okWide Try.prog W .any base 5 v0) (h0 : DataW.Trod enc Try.prog W 0 (fun _ => true) true 5 v0 d0 p0)
    (ok1 : Value.okWide Try.prog W .any base 5 v1) (h1 : DataW.Trod enc Try.prog W 0 (fun _ => true) true 5 v1 d1 p1) :
    Calls Try.prog 4 #[v0, v1] W fun e w' => e = .returned (.bool true) ∧ Below W.heap.size W w' := by
  obtain ⟨a, rfl, rfl, rfl, wa⟩ := open_int Try.underlying5 ok0 h0
  obtain ⟨bb, rfl, rfl, rfl, wb⟩ := open_int Try.underlying5 ok1 h1
  obtain ⟨a0, a1⟩ := bounds_u8 wa
  obtain ⟨b0, b1⟩ := bounds_u8 wb
  clear ok0 h0 ok1 h1 wa wb
  go_enter Try.func4, Try.ntmps4
  go_wp2_with fail
  refine (VS.new _).mono ?_
  rintro e w1 ⟨sb, rfl, hv, hb1, hbl⟩
  have HV := hide (show VS w1 sb (g3 0) 0 from hv)
  have HB := hide hb1
  have HBL := hide hbl
  clear hv hb1 hbl
  go_wp2_with fail
  go_loopw [6, 24, 25, 28, 29, 30, 31, 32, 26, 27] (fun i _ _ _ _ _ _ _ _ _ wr => ∃ k : Nat, k ≤ 3 ∧ i = .int .i64 k ∧ VS wr sb (g3 k) k ∧ Below W.heap.size W wr) (fun i _ _ _ _ _ _ _ _ _ _ => 3 - (intOf i).toNat)
  case atStart => exact ⟨0, by omega, rfl, HV.out, HB.out⟩
  case round =>
    obtain ⟨k, hk, rfl, hv, hb⟩ := hrel
    have HV1 := hide hv
    have HB1 := hide hb
    clear hv hb
    by_cases hlt : k < 3
    · have i1 : (k : Int) < 3 := by omega
      have hA := hide (HV1.out.applyC (by omega) 1 k 9 0 0 0 0 0 (by unfold i64ok; omega) (by unfold i64ok; omega) (by unfold i64ok; omega) (by unfold i64ok; omega))
      rw [g3_step hlt] at hA
      go_wp2_with fail
      refine hA.out.mono ?_
      rintro e w2 ⟨z, rfl, rfl, hc2, hv2⟩
      have HV2 := hide (show VS w2 sb (g3 (k + 1)) (k + 1) from hv2)
      have HB2 := hide (HB1.out.trans (hc2.toBelow HB1.out.size (fun x hx => by rw [List.mem_singleton.1 hx]; exact HBL.out)))
      clear hc2 hv2 hA
      go_wp2
      go_roundw
      case rel => exact ⟨k + 1, by omega, by go_num, HV2.out, HB2.out⟩
      case measure => simp [intOf]; omega
    · obtain rfl : k = 3 := by omega
      rw [show ((3 : Nat) : Int) = 3 from rfl]
      obtain ⟨n, hn⟩ : ∃ n, 1 + a % 80 = n := ⟨_, rfl⟩
      obtain ⟨m, hm⟩ : ∃ m, 1 + bb % 80 = m := ⟨_, rfl⟩
      have hn1 : 1 ≤ n ∧ n ≤ 80 := by omega
      have hm1 : 1 ≤ m ∧ m ≤ 80 := by omega
      obtain ⟨S1, ap1, gs1, nx1⟩ := grows_create n hn1.1 hn1.2
      obtain ⟨ca, hca⟩ : ∃ ca, ((n + 7) / 8).toNat = ca := ⟨_, rfl⟩
      rw [hca] at gs1 nx1
      obtain ⟨ch1, hch1⟩ : ∃ ch1, ((List.range ca).map fun (i : Nat) => 1 + (i : Int)) = ch1 := ⟨_, rfl⟩
      rw [hch1] at gs1
      have hA := hide (HV1.out.applyC (by omega) 2 7 n 2 0 1 0 0 (by unfold i64ok; omega) (by unfold i64ok; omega) (by unfold i64ok; omega) (by unfold i64ok; omega))
      rw [ap1] at hA
      have HG1 := hide (And.intro gs1 (And.intro nx1 (And.intro hca hch1)))
      have HNM := hide (And.intro hn1 hm1)
      clear ap1 gs1 nx1 hca hch1 hlt hn1 hm1
      go_wp2_with fail
      refine hA.out.mono ?_
      rintro e w2 ⟨z, rfl, rfl, hc2, hv2⟩
      have K2 : Hid (VS w2 sb S1 4 ∧ Below W.heap.size W w2) := hide ⟨hv2, HB1.out.trans (hc2.toBelow HB1.out.size (fun x hx => by rw [List.mem_singleton.1 hx]; exact HBL.out))⟩
      clear hc2 hv2 hA
      have hfd1 : fd Vo.id S1.vs 7 = some ⟨7, n, p1, 1, ch1⟩ := by rw [HG1.out.1.vs]; rfl
      have hvc := hide (K2.out.1.volume (id := 7) (by unfold i64ok; omega))
      rw [hfd1] at hvc
      clear hfd1
      go_wp2_with fail
      refine hvc.out.mono ?_
      intro e w3 hvo
      obtain ⟨A1, c1, rfl, hbox, hbw⟩ := hvo.box K2.out.1.lt
      have q3 := (Below.refl w3.heap.size w3).alloc (Nat.le_refl _) (.cells (⟨⟨7, n, p1, 1, ch1⟩, A1, c1⟩ : VoM).cells.toArray 34)
      have K3 := And.intro (((K2.out.1.below hbw).below q3)) (And.intro ((K2.out.2.trans (hbw.mono K2.out.2.size)).trans (q3.mono (Nat.le_trans K2.out.2.size hbw.size))) hbox)
      simp only [VoM.val, VoM.cells, p1] at K3 ⊢
      obtain ⟨w4, hw4⟩ : ∃ w4, w3.alloc (.cells #[.int .i64 7, .int .i64 n, .int .i64 0, .int .i64 1, .int .i64 0, .int .i64 0, .int .i64 1, .slice A1 ch1.length c1] 34) = w4 := ⟨_, rfl⟩
      rw [hw4] at K3
      have HK3 := hide K3
      clear hvo hbox hbw q3 K3 hvc
      have hc1 : ∃ k1, fd Ck.id S1.cs 1 = some k1 := by
        have hv : (⟨7, n, p1, 1, ch1⟩ : Vo) ∈ S1.vs := by rw [HG1.out.1.vs]; simp
        have h1in : (1 : Int) ∈ ch1 := by
          rw [← HG1.out.2.2.2]
          exact List.mem_map.2 ⟨0, List.mem_range.2 (by have := HG1.out.2.2.1; have := HNM.out; omega), rfl⟩
        obtain ⟨c, hc, h2, _⟩ := HG1.out.1.vin.vc _ hv 1 h1in
        exact ⟨c, h2 ▸ fd_mem HK3.out.1.ok.csr hc⟩
      obtain ⟨k1, hk1⟩ := hc1
      have hcc := hide (HK3.out.1.chunk (id := 1) (by unfold i64ok; omega))
      rw [hk1] at hcc
      have HK1 := hide hk1
      clear hk1
      go_wp2_with fail
      refine hcc.out.mono ?_
      intro e w5 hvo
      obtain ⟨A2, c2, B2, d2, rfl, hbox, hbw⟩ := hvo.box HK3.out.1.lt
      obtain ⟨id1, vol1, ep1, me1, jo1⟩ := k1
      have q5 := (Below.refl w5.heap.size w5).alloc (Nat.le_refl _) (.cells (⟨⟨id1, vol1, ep1, me1, jo1⟩, A2, c2, B2, d2⟩ : CkM).cells.toArray 42)
      have K5 := And.intro (((HK3.out.1.below hbw).below q5)) (And.intro ((HK3.out.2.1.trans (hbw.mono HK3.out.2.1.size)).trans (q5.mono (Nat.le_trans HK3.out.2.1.size hbw.size))) (And.intro ((HK3.out.2.2.below hbw).below q5) hbox))
      simp only [CkM.val, CkM.cells] at K5 ⊢
      obtain ⟨w6, hw6⟩ : ∃ w6, w5.alloc (.cells #[.int .i64 id1, .int .i64 vol1, .int .i64 ep1, .slice A2 me1.length c2, .slice B2 jo1.length d2] 42) = w6 := ⟨_, rfl⟩
      rw [hw6] at K5
      have HK5 := hide K5
      clear hvo hbox hbw q5 K5 hcc
      obtain ⟨cb, hcb⟩ : ∃ cb, ((m + 7) / 8).toNat = cb := ⟨_, rfl⟩
      obtain ⟨S2, ap2, gs2, nx2, keep2⟩ := grows_resize HG1.out.1 HK5.out.1.ok m HNM.out.2.1 HNM.out.2.2 cb hcb
      obtain ⟨ch2, hch2⟩ : ∃ ch2, (ch1.take cb ++ (List.range (lack m (ch1.take cb))).map fun (i : Nat) => S1.nx + (i : Int)) = ch2 := ⟨_, rfl⟩
      rw [hch2] at gs2
      have hA := hide (HK5.out.1.applyC (by omega) 4 7 m 0 0 0 0 0 (by unfold i64ok; omega) (by unfold i64ok; omega) (by have := HNM.out; unfold i64ok; omega) (by unfold i64ok; omega))
      rw [ap2] at hA
      have HG2 := hide (And.intro gs2 (And.intro nx2 (And.intro hcb (And.intro hch2 keep2))))
      clear ap2 gs2 nx2 hcb hch2 keep2
      go_wp2_with fail
      refine hA.out.mono ?_
      rintro e w7 ⟨z, rfl, rfl, hc7, hv7⟩
      have HK7 := hide (And.intro (show VS w7 sb S2 5 from hv7) (And.intro (HK5.out.2.1.trans (hc7.toBelow HK5.out.2.1.size (fun x hx => by rw [List.mem_singleton.1 hx]; exact HBL.out))) (And.intro (HK5.out.2.2.1.chg hc7) (HK5.out.2.2.2.chg hc7))))
      clear hc7 hv7 hA
      have hfd2 : fd Vo.id S2.vs 7 = some ⟨7, m, p1, 1, ch2⟩ := by rw [HG2.out.1.vs]; rfl
      have hvc := hide (HK7.out.1.volume (id := 7) (by unfold i64ok; omega))
      rw [hfd2] at hvc
      clear hfd2
      go_wp2_with fail
      refine hvc.out.mono ?_
      intro e w8 hvo
      obtain ⟨A3, c3, rfl, hbox, hbw⟩ := hvo.box HK7.out.1.lt
      have q8 := (Below.refl w8.heap.size w8).alloc (Nat.le_refl _) (.cells (⟨⟨7, m, p1, 1, ch2⟩, A3, c3⟩ : VoM).cells.toArray 34)
      have K8 := And.intro (((HK7.out.1.below hbw).below q8)) (And.intro ((HK7.out.2.1.trans (hbw.mono HK7.out.2.1.size)).trans (q8.mono (Nat.le_trans HK7.out.2.1.size hbw.size))) (And.intro ((HK7.out.2.2.1.below hbw).below q8) (And.intro ((HK7.out.2.2.2.below hbw).below q8) hbox)))
      simp only [VoM.val, VoM.cells, p1] at K8 ⊢
      obtain ⟨w9, hw9⟩ : ∃ w9, w8.alloc (.cells #[.int .i64 7, .int .i64 m, .int .i64 0, .int .i64 1, .int .i64 0, .int .i64 0, .int .i64 1, .slice A3 ch2.length c3] 34) = w9 := ⟨_, rfl⟩
      rw [hw9] at K8
      have HK9 := hide K8
      clear hvo hbox hbw q8 K8 hvc
      have hl1 := HG1.out.1.len HK3.out.1.ok
      have hl2 := HG2.out.1.len HK9.out.1.ok
      have ht1 : w9.cell? ⟨w3.heap.size, 7, none⟩ = some (.slice A1 ch1.length c1) := HK9.out.2.2.1.blk.cell 7
      have ht2 : w9.cell? ⟨w8.heap.size, 7, none⟩ = some (.slice A3 ch2.length c3) := HK9.out.2.2.2.2.blk.cell 7
      obtain ⟨km, hkm⟩ : ∃ km : Nat, min ch1.length ch2.length = km := ⟨_, rfl⟩
      have hmin : (if (ch2.length : Int) < ch1.length then (ch2.length : Int) else ch1.length) = (km : Int) := by split <;> omega
      have hmin2 : min (ch1.length : Int) (ch2.length : Int) = (km : Int) := by omega
      have HL := hide (And.intro hl1 (And.intro hl2 hkm))
      have hk12 : fd Ck.id S2.cs 1 = some ⟨id1, vol1, ep1, me1, jo1⟩ := by
        obtain ⟨hm1, hi1⟩ := fd_some HK1.out
        have hin : (1 : Int) ∈ ch1.take cb := by
          rw [← HG1.out.2.2.2]
          have h1 : 0 < ca := by have := HG1.out.2.2.1; have := HNM.out; omega
          have h2 : 0 < cb := by have := HG2.out.2.2.1; have := HNM.out; omega
          rw [List.mem_iff_getElem]
          exact ⟨0, by simp; omega, by simp⟩
        have hk := HG2.out.2.2.2.2 _ hm1 (by rw [hi1]; exact hin)
        have := fd_mem HK9.out.1.ok.csr hk
        rw [hi1] at this
        exact this
      have hcc := hide (HK9.out.1.chunk (id := 1) (by unfold i64ok; omega))
      rw [hk12] at hcc
      clear hl1 hl2 hkm hk12
      go_wp2_with fail
      refine hcc.out.mono ?_
      intro e w10 hvo
      obtain ⟨A4, c4, B4, d4, rfl, hbox, hbw⟩ := hvo.box HK9.out.1.lt
      have q10 := (Below.refl w10.heap.size w10).alloc (Nat.le_refl _) (.cells (⟨⟨id1, vol1, ep1, me1, jo1⟩, A4, c4, B4, d4⟩ : CkM).cells.toArray 42)
      have K10 := And.intro (((HK9.out.1.below hbw).below q10)) (And.intro ((HK9.out.2.1.trans (hbw.mono HK9.out.2.1.size)).trans (q10.mono (Nat.le_trans HK9.out.2.1.size hbw.size))) (And.intro ((HK9.out.2.2.1.below hbw).below q10) (And.intro ((HK9.out.2.2.2.1.below hbw).below q10) (And.intro ((HK9.out.2.2.2.2.below hbw).below q10) hbox))))
      simp only [CkM.val, CkM.cells] at K10 ⊢
      obtain ⟨w11, hw11⟩ : ∃ w11, w10.alloc (.cells #[.int .i64 id1, .int .i64 vol1, .int .i64 ep1, .slice A4 me1.length c4, .slice B4 jo1.length d4] 42) = w11 := ⟨_, rfl⟩
      rw [hw11] at K10
      have HK11 := hide K10
      clear hvo hbox hbw q10 K10 hcc ht1 ht2 hmin hmin2
      obtain ⟨kv, kb, kx1, kc1, kx2, kc2⟩ := HK11.out
      have r11 := Below.refl w11.heap.size w11
      have x1 : ∀ w', Below w11.heap.size w11 w' → w'.cell? ⟨w3.heap.size, 7, none⟩ = some (.slice A1 ch1.length c1) := kx1.blk.rule 7 _ rfl
      have x2 : ∀ w', Below w11.heap.size w11 w' → w'.cell? ⟨w8.heap.size, 7, none⟩ = some (.slice A3 ch2.length c3) := kx2.blk.rule 7 _ rfl
      have y0 : ∀ w', Below w11.heap.size w11 w' → w'.cell? ⟨w5.heap.size, 0, none⟩ = some (.int .i64 id1) := kc1.blk.rule 0 _ rfl
      have y1 : ∀ w', Below w11.heap.size w11 w' → w'.cell? ⟨w5.heap.size, 1, none⟩ = some (.int .i64 vol1) := kc1.blk.rule 1 _ rfl
      have y2 : ∀ w', Below w11.heap.size w11 w' → w'.cell? ⟨w5.heap.size, 2, none⟩ = some (.int .i64 ep1) := kc1.blk.rule 2 _ rfl
      have y3 : ∀ w', Below w11.heap.size w11 w' → w'.cell? ⟨w5.heap.size, 3, none⟩ = some (.slice A2 me1.length c2) := kc1.blk.rule 3 _ rfl
      have y4 : ∀ w', Below w11.heap.size w11 w' → w'.cell? ⟨w5.heap.size, 4, none⟩ = some (.slice B2 jo1.length d2) := kc1.blk.rule 4 _ rfl
      have z0 : ∀ w', Below w11.heap.size w11 w' → w'.cell? ⟨w10.heap.size, 0, none⟩ = some (.int .i64 id1) := kc2.blk.rule 0 _ rfl
      have z1 : ∀ w', Below w11.heap.size w11 w' → w'.cell? ⟨w10.heap.size, 1, none⟩ = some (.int .i64 vol1) := kc2.blk.rule 1 _ rfl
      have z2 : ∀ w', Below w11.heap.size w11 w' → w'.cell? ⟨w10.heap.size, 2, none⟩ = some (.int .i64 ep1) := kc2.blk.rule 2 _ rfl
      have z3 : ∀ w', Below w11.heap.size w11 w' → w'.cell? ⟨w10.heap.size, 3, none⟩ = some (.slice A4 me1.length c4) := kc2.blk.rule 3 _ rfl
      have z4 : ∀ w', Below w11.heap.size w11 w' → w'.cell? ⟨w10.heap.size, 4, none⟩ = some (.slice B4 jo1.length d4) := kc2.blk.rule 4 _ rfl
      have hkl1 : km ≤ c1 := by have := HL.out; have := kx1.le; simp only [] at this; omega
      have hkl2 : km ≤ c3 := by have := HL.out; have := kx2.le; simp only [] at this; omega
      have hq8 : (m + 7) / 8 = (ch2.length : Int) := by have := HL.out; have := HNM.out; omega
      have i7 : (0 : Int) ≤ m + 7 := by have := HNM.out; omega
      have hwr1 : IntKind.i64.wrap (m + 7) = m + 7 := IntWalk.i64_in _ (by have := HNM.out; omega)
      have ht8 : (m + 7).tdiv 8 = (ch2.length : Int) := by rw [Int.tdiv_eq_ediv_of_nonneg i7]; exact hq8
      have hwr2 : IntKind.i64.wrap (ch2.length : Int) = ch2.length := IntWalk.i64_in _ (by have := HL.out; have := HNM.out; omega)
      have hmb : 1 ≤ m ∧ m ≤ 80 := HNM.out.2
      obtain ⟨hmb1, hmb2⟩ := hmb
      have htk : ch2.take km = ch1.take km := by
        have h1 := HG2.out.2.2.2.1
        have h2 := HL.out
        have h3 := HG2.out.2.2.1
        rw [← h1, List.take_append_of_le_length (by rw [List.length_take]; omega), List.take_take]
        congr 1
        omega
      have hlk : (ch1.take km).length = km := by have := HL.out; rw [List.length_take]; omega
      have RA : RdI w11 A1 (ch1.take km) := ⟨by have := kx1.rd.rd.take (k := km) (by have := HL.out; simp only []; omega); rw [hlk]; simpa using this, by have := kx1.rd.ln; simp only [] at this; rw [hlk]; have := HL.out; omega⟩
      have RB : RdI w11 A3 (ch1.take km) := ⟨by have := kx2.rd.rd.take (k := km) (by have := HL.out; simp only []; omega); rw [hlk]; rw [← htk]; simpa using this, by have := kx1.rd.ln; simp only [] at this; rw [hlk]; have := HL.out; omega⟩
      have HSI : Hid (∀ w', Below w11.heap.size w11 w' → Calls Try.prog 14 #[.slice A1 km c1, .slice A3 km c3] w' fun e w'' => e = .returned (.bool true) ∧ Below w'.heap.size w' w'') := hide (fun w' hb => by have := (RA.below hb).same (RB.below hb) c1 c3; rw [hlk] at this; exact this.mono fun e w'' ⟨he, nq, hw⟩ => ⟨he, hw ▸ below_drewN (Below.refl _ _) nq⟩)
      have HSC : Hid (∀ w', Below w11.heap.size w11 w' → Calls Try.prog 15 #[.agg #[.int .i64 id1, .int .i64 vol1, .int .i64 ep1, .slice A2 me1.length c2, .slice B2 jo1.length d2], .agg #[.int .i64 id1, .int .i64 vol1, .int .i64 ep1, .slice A4 me1.length c4, .slice B4 jo1.length d4]] w' fun e w'' => e = .returned (.bool true) ∧ Below w'.heap.size w' w'') :=
        hide (fun w' hb => sameChunk_calls ⟨id1, vol1, ep1, me1, jo1⟩ A2 B2 A4 B4 c2 d2 c4 d4 w' (kc1.ra.below hb) (kc1.rb.below hb) (kc2.ra.below hb) (kc2.rb.below hb))
      have hcnt := HG2.out.1.count kv.ok
      have HCH : Hid (∀ w', Below w11.heap.size w11 w' → Calls Try.prog 16 #[.pointer (some ⟨sb, 0, none⟩)] w' fun e w'' => ∃ A c, e = .returned (.slice A ch2.length c) ∧ Below w'.heap.size w' w'') :=
        hide (fun w' hb => ((kv.below hb).chunks (by omega)).mono fun e w'' ⟨A, c, he, _, hb⟩ => ⟨A, c, by rw [he, hcnt], hb⟩)
      clear kv kb kx1 kc1 kx2 kc2 htk hlk RA RB hcnt
      have r11d := r11.drew
      go_wp2_with fail
      refine region_lq (fun w' => Below w11.heap.size w11 w') [(2, 0), (0, 1), (2, 2), (2, 3), (2, 4), (2, 5), (2, 6), (2, 7), (2, 8), (0, 9), (2, 10), (2, 11), (2, 12), (0, 13), (2, 14), (2, 15), (1, 16), (2, 17), (2, 18), (2, 19), (0, 20), (0, 21), (1, 22), (2, 23), (2, 24), (2, 25), (2, 26), (2, 29), (0, 30), (2, 31), (1, 27), (2, 28), (2, 32), (2, 33)] #[true, true, true, true, true, true, true, true, true, true, true, true, true, true, true, true, true, true, true, true, true, true, true, true, true, true, true, true, true, true, true, true, true, true] (by kernel_rfl) (by kernel_rfl) (by kernel_rfl) (by kernel_rfl) (by kernel_rfl) (by kernel_rfl) (fun _ _ _ _ _ h => h) (by (exact r11d)) (hL := rfl) ?_
      (apply lq_pure (by rfl); (focus (intro w; go_simp; (try with_reducible rfl); done)); intro K hK; simp only [Act.put, List.setIfInBounds_toArray, List.set_cons_zero, List.set_cons_succ]; refine hK _ ?_; clear hK K)
      (apply lq_take (by rfl); (focus (intro w hw; (try dsimp only at hw); go_simp; (try with_reducible rfl); done)); intro K hK; simp only [Act.put, List.setIfInBounds_toArray, List.set_cons_zero, List.set_cons_succ]; refine hK _ ?_; clear hK K)
      (apply lq_pure (by rfl); (focus (intro w; go_simp; (try with_reducible rfl); done)); intro K hK; simp only [Act.put, List.setIfInBounds_toArray, List.set_cons_zero, List.set_cons_succ]; refine hK _ ?_; clear hK K)
      (apply lq_pure (by rfl); (focus (intro w; go_simp; (try with_reducible rfl); done)); intro K hK; simp only [Act.put, List.setIfInBounds_toArray, List.set_cons_zero, List.set_cons_succ]; refine hK _ ?_; clear hK K)
      (apply lq_pure (by rfl); (focus (intro w; go_simp; (try with_reducible rfl); done)); intro K hK; simp only [Act.put, List.setIfInBounds_toArray, List.set_cons_zero, List.set_cons_succ]; refine hK _ ?_; clear hK K)
      (apply lq_pure (by rfl); (focus (intro w; go_simp; (try with_reducible rfl); done)); intro K hK; simp only [Act.put, List.setIfInBounds_toArray, List.set_cons_zero, List.set_cons_succ]; refine hK _ ?_; clear hK K)
      (apply lq_pure (by rfl); (focus (intro w; go_simp; (try with_reducible rfl); done)); intro K hK; simp only [Act.put, List.setIfInBounds_toArray, List.set_cons_zero, List.set_cons_succ]; refine hK _ ?_; clear hK K)
      (apply lq_pure (by rfl); (focus (intro w; go_simp; (try with_reducible rfl); done)); intro K hK; simp only [Act.put, List.setIfInBounds_toArray, List.set_cons_zero, List.set_cons_succ]; refine hK _ ?_; clear hK K)
      (apply lq_pure (by kernel_rfl); (focus (intro w; go_simp; (try with_reducible rfl); done)); intro K hK; simp only [Act.put, List.setIfInBounds_toArray, List.set_cons_zero, List.set_cons_succ]; refine hK _ ?_; clear hK K)
      (apply lq_take (by kernel_rfl); (focus (intro w hw; (try dsimp only at hw); go_simp; (try with_reducible rfl); done)); intro K hK; simp only [Act.put, List.setIfInBounds_toArray, List.set_cons_zero, List.set_cons_succ]; refine hK _ ?_; clear hK K)
      (apply lq_pure (by kernel_rfl); (focus (intro w; go_simp; (try with_reducible rfl); done)); intro K hK; simp only [Act.put, List.setIfInBounds_toArray, List.set_cons_zero, List.set_cons_succ]; refine hK _ ?_; clear hK K)
      (apply lq_pure (by kernel_rfl); (focus (intro w; go_simp; (try with_reducible rfl); done)); intro K hK; simp only [Act.put, List.setIfInBounds_toArray, List.set_cons_zero, List.set_cons_succ]; refine hK _ ?_; clear hK K)
      (apply lq_pure (by kernel_rfl); (focus (intro w; go_simp; (try with_reducible rfl); done)); intro K hK; simp only [Act.put, List.setIfInBounds_toArray, List.set_cons_zero, List.set_cons_succ]; refine hK _ ?_; clear hK K)
      (apply lq_take (by kernel_rfl); (focus (intro w hw; (try dsimp only at hw); go_simp; (try with_reducible rfl); done)); intro K hK; simp only [Act.put, List.setIfInBounds_toArray, List.set_cons_zero, List.set_cons_succ]; refine hK _ ?_; clear hK K)
      (apply lq_pure (by kernel_rfl); (focus (intro w; go_simp; (try with_reducible rfl); done)); intro K hK; simp only [Act.put, List.setIfInBounds_toArray, List.set_cons_zero, List.set_cons_succ]; refine hK _ ?_; clear hK K)
      (apply lq_pure (by kernel_rfl); (focus (intro w; go_simp; (try with_reducible rfl); done)); intro K hK; simp only [Act.put, List.setIfInBounds_toArray, List.set_cons_zero, List.set_cons_succ]; refine hK _ ?_; clear hK K)
      refine lq_eff (by kernel_rfl) ?_
      intro K Q1 hQ1 hK; clear hQ1; go_simp; (go_at_call 14; refine (HSI.out _ r11d).mono ?_; rintro e w9a ⟨rfl, hb9⟩; have hS9 := r11d.trans (hb9.mono r11d.size); have HKA := hide hS9); simp only [Act.put, List.setIfInBounds_toArray, List.set_cons_zero, List.set_cons_succ]; refine hK _ _ hS9 ?_; clear hK K Q1 hS9
      (apply lq_pure (by kernel_rfl); (focus (intro w; go_simp; (try with_reducible rfl); done)); intro K hK; simp only [Act.put, List.setIfInBounds_toArray, List.set_cons_zero, List.set_cons_succ]; refine hK _ ?_; clear hK K)
      (apply lq_pure (by rfl); (focus (intro w; go_simp; (try with_reducible rfl); done)); intro K hK; simp only [Act.put, List.setIfInBounds_toArray, List.set_cons_zero, List.set_cons_succ]; refine hK _ ?_; clear hK K)
      (apply lq_pure (by rfl); (focus (intro w; go_simp; (try with_reducible rfl); done)); intro K hK; simp only [Act.put, List.setIfInBounds_toArray, List.set_cons_zero, List.set_cons_succ]; refine hK _ ?_; clear hK K)
      (apply lq_take (by kernel_rfl); (focus (intro w hw; (try dsimp only at hw); go_simp; (try with_reducible rfl); done)); intro K hK; simp only [Act.put, List.setIfInBounds_toArray, List.set_cons_zero, List.set_cons_succ]; refine hK _ ?_; clear hK K)
      (apply lq_take (by kernel_rfl); (focus (intro w hw; (try dsimp only at hw); go_simp; (try with_reducible rfl); done)); intro K hK; simp only [Act.put, List.setIfInBounds_toArray, List.set_cons_zero, List.set_cons_succ]; refine hK _ ?_; clear hK K)
      refine lq_eff (by kernel_rfl) ?_
      intro K Q1 hQ1 hK; clear hQ1; go_simp; (go_at_call 15; refine (HSC.out _ HKA.out).mono ?_; rintro e w9b ⟨rfl, hb9⟩; have hS9 := HKA.out.trans (hb9.mono HKA.out.size); have HKB := hide hS9); simp only [Act.put, List.setIfInBounds_toArray, List.set_cons_zero, List.set_cons_succ]; refine hK _ _ hS9 ?_; clear hK K Q1 hS9
      (apply lq_pure (by kernel_rfl); (focus (intro w; go_simp; (try with_reducible rfl); done)); intro K hK; simp only [Act.put, List.setIfInBounds_toArray, List.set_cons_zero, List.set_cons_succ]; refine hK _ ?_; clear hK K)
      (apply lq_pure (by rfl); (focus (intro w; go_simp; (try with_reducible rfl); done)); intro K hK; simp only [Act.put, List.setIfInBounds_toArray, List.set_cons_zero, List.set_cons_succ]; refine hK _ ?_; clear hK K)
      (apply lq_pure (by rfl); (focus (intro w; go_simp; (try with_reducible rfl); done)); intro K hK; simp only [Act.put, List.setIfInBounds_toArray, List.set_cons_zero, List.set_cons_succ]; refine hK _ ?_; clear hK K)
      (apply lq_pure (by kernel_rfl); (focus (intro w; go_simp; (try with_reducible rfl); done)); intro K hK; simp only [Act.put, List.setIfInBounds_toArray, List.set_cons_zero, List.set_cons_succ]; refine hK _ ?_; clear hK K)
      (apply lq_pure (by kernel_rfl); (focus (intro w; go_simp; (try with_reducible rfl); done)); intro K hK; simp only [Act.put, List.setIfInBounds_toArray, List.set_cons_zero, List.set_cons_succ]; refine hK _ ?_; clear hK K)
      (apply lq_take (by kernel_rfl); (focus (intro w hw; (try dsimp only at hw); go_simp; (try with_reducible rfl); done)); intro K hK; simp only [Act.put, List.setIfInBounds_toArray, List.set_cons_zero, List.set_cons_succ]; refine hK _ ?_; clear hK K)
      (apply lq_pure (by kernel_rfl); (focus (intro w; go_simp; (try with_reducible rfl); done)); intro K hK; simp only [Act.put, List.setIfInBounds_toArray, List.set_cons_zero, List.set_cons_succ]; refine hK _ ?_; clear hK K)
      refine lq_eff (by kernel_rfl) ?_
      intro K Q1 hQ1 hK; clear hQ1; go_simp; (go_at_call 16; refine (HCH.out _ HKB.out).mono ?_; rintro e w9c ⟨A9, c9, rfl, hb9⟩; have hS9 := HKB.out.trans (hb9.mono HKB.out.size)); simp only [Act.put, List.setIfInBounds_toArray, List.set_cons_zero, List.set_cons_succ]; refine hK _ _ hS9 ?_; clear hK K Q1 hS9
      (apply lq_pure (by kernel_rfl); (focus (intro w; go_simp; (try with_reducible rfl); done)); intro K hK; simp only [Act.put, List.setIfInBounds_toArray, List.set_cons_zero, List.set_cons_succ]; refine hK _ ?_; clear hK K)
      (apply lq_pure (by kernel_rfl); (focus (intro w; go_simp; (try with_reducible rfl); done)); intro K hK; simp only [Act.put, List.setIfInBounds_toArray, List.set_cons_zero, List.set_cons_succ]; refine hK _ ?_; clear hK K)
      (apply lq_pure (by rfl); (focus (intro w; go_simp; (try with_reducible rfl); done)); intro K hK; simp only [Act.put, List.setIfInBounds_toArray, List.set_cons_zero, List.set_cons_succ]; refine hK _ ?_; clear hK K)
      refine lq_nil ?_
      intro hS9
      have hbz := hS9
      have HZ := hide hbz
      have HK12 := hide (And.intro (HK11.out.1.below hbz) (And.intro (HK11.out.2.1.trans (hbz.mono HK11.out.2.1.size)) (HK11.out.2.2.1.below hbz)))
      clear hS9 hbz x1 x2 y0 y1 y2 y3 y4 z0 z1 z2 z3 z4 hwr1 ht8 hwr2 hq8 i7 hb9 r11d r11
      obtain ⟨S3, ap3, gs3, nx3, keep3⟩ := grows_resize HG2.out.1 HK12.out.1.ok n HNM.out.1.1 HNM.out.1.2 ca HG1.out.2.2.1
      obtain ⟨ch3, hch3⟩ : ∃ ch3, (ch2.take ca ++ (List.range (lack n (ch2.take ca))).map fun (i : Nat) => S2.nx + (i : Int)) = ch3 := ⟨_, rfl⟩
      rw [hch3] at gs3
      have hA := hide (HK12.out.1.applyC (by omega) 4 7 n 0 0 0 0 0 (by unfold i64ok; omega) (by unfold i64ok; omega) (by have := HNM.out; unfold i64ok; omega) (by unfold i64ok; omega))
      rw [ap3] at hA
      have HG3 := hide (And.intro gs3 hch3)
      clear ap3 gs3 nx3 hch3 keep3
      go_wp2_with fail
      refine hA.out.mono ?_
      rintro e w13 ⟨z, rfl, rfl, hc13, hv13⟩
      have HK13 := hide (And.intro (show VS w13 sb S3 6 from hv13) (And.intro (HK12.out.2.1.trans (hc13.toBelow HK12.out.2.1.size (fun x hx => by rw [List.mem_singleton.1 hx]; exact HBL.out))) (HK12.out.2.2.chg hc13)))
      clear hc13 hv13 hA
      have hfd3 : fd Vo.id S3.vs 7 = some ⟨7, n, p1, 1, ch3⟩ := by rw [HG3.out.1.vs]; rfl
      have hvc := hide (HK13.out.1.volume (id := 7) (by unfold i64ok; omega))
      rw [hfd3] at hvc
      clear hfd3
      go_wp2_with fail
      refine hvc.out.mono ?_
      intro e w14 hvo
      obtain ⟨A5, c5, rfl, hbox, hbw⟩ := hvo.box HK13.out.1.lt
      have q14 := (Below.refl w14.heap.size w14).alloc (Nat.le_refl _) (.cells (⟨⟨7, n, p1, 1, ch3⟩, A5, c5⟩ : VoM).cells.toArray 34)
      have K14 := And.intro ((HK13.out.2.1.trans (hbw.mono HK13.out.2.1.size)).trans (q14.mono (Nat.le_trans HK13.out.2.1.size hbw.size))) (And.intro ((HK13.out.2.2.below hbw).below q14) hbox)
      simp only [VoM.val, VoM.cells, p1] at K14 ⊢
      obtain ⟨w15, hw15⟩ : ∃ w15, w14.alloc (.cells #[.int .i64 7, .int .i64 n, .int .i64 0, .int .i64 1, .int .i64 0, .int .i64 0, .int .i64 1, .slice A5 ch3.length c5] 34) = w15 := ⟨_, rfl⟩
      rw [hw15] at K14
      have HK15 := hide K14
      have hl1 := HG1.out.1.len HK3.out.1.ok
      have hl3 := HG3.out.1.len HK13.out.1.ok
      have HL3 := hide (And.intro hl1 hl3)
      clear hl1 hl3
      -- a number behind the elder ones is greater
      have hgt : ∀ (i : Nat) (hi : i < ch3.length) (h1 : km ≤ i) (hj : 0 < ch1.length), m < n → ¬ (ch3[i] ≤ ch1[ch1.length - 1]) := by
        intro i hi h1 hj hmn
        have h2 := HL.out
        have h3 := HL3.out
        have e1 : ch1[ch1.length - 1] = 1 + ((ch1.length - 1 : Nat) : Int) := by simp [← HG1.out.2.2.2]
        have h5 := HG2.out.2.1
        have h6 := HG1.out.2.1
        have h7 : ch1.length = ca := by rw [← HG1.out.2.2.2]; simp
        have h8 : ch2.length ≤ ch1.length := by have := HNM.out; omega
        have h9 : (ch2.take ca).length = ch2.length := by rw [List.length_take]; omega
        have hi2 : (ch2.take ca).length ≤ i := by omega
        have e3 : ch3[i] = S2.nx + ((i - (ch2.take ca).length : Nat) : Int) := by
          have hx := HG3.out.2
          subst hx
          rw [List.getElem_append_right hi2]
          simp
        rw [e1, e3]
        omega
      have HGT := hide hgt
      clear hvo hbox hbw q14 K14 hvc hgt
      have HW15 := hide hw15
      have x1 : ∀ w', Below w15.heap.size w15 w' → w'.cell? ⟨w3.heap.size, 7, none⟩ = some (.slice A1 ch1.length c1) := HK15.out.2.1.blk.rule 7 _ rfl
      have x3 : ∀ w', Below w15.heap.size w15 w' → w'.cell? ⟨w14.heap.size, 7, none⟩ = some (.slice A5 ch3.length c5) := HK15.out.2.2.blk.rule 7 _ rfl
      have x4 : ∀ w', Below w15.heap.size w15 w' → w'.cell? ⟨w14.heap.size, 6, none⟩ = some (.int .i64 1) := HK15.out.2.2.blk.rule 6 _ rfl
      have hK : km ≤ ch1.length ∧ ch3.length = ch1.length ∧ ch1.length ≤ 10 ∧ 0 < ch1.length := by have := HL.out; have := HL3.out; have := HNM.out; omega
      have HKK := hide hK
      clear hK
      go_wp2_with fail
      clear hw15
      go_loopw [20, 124, 125, 126, 127, 128, 129, 130, 131, 132, 133, 134, 135, 136, 137, 138, 139, 140, 141, 142, 143, 144, 145, 146, 147, 148, 149, 150, 151, 152, 153, 154, 155, 156] (fun i _ _ _ _ _ _ _ _ _ _ _ _ _ _ _ _ _ _ _ _ _ _ _ _ _ _ _ _ _ _ _ _ _ wr => ∃ j : Nat, km ≤ j ∧ j ≤ ch1.length ∧ i = .int .i64 j ∧ Below w15.heap.size w15 wr) (fun i _ _ _ _ _ _ _ _ _ _ _ _ _ _ _ _ _ _ _ _ _ _ _ _ _ _ _ _ _ _ _ _ _ _ => ch1.length - (intOf i).toNat)
      case atStart => exact ⟨km, Nat.le_refl _, HKK.out.1, rfl, Below.refl _ _⟩
      case round =>
        obtain ⟨j, hkj, hjl, rfl, hbr⟩ := hrel
        have HKJ := hide (And.intro hkj hjl)
        have hl31 : ch3.length = ch1.length := HKK.out.2.1
        have hj10 : j ≤ 10 := by have := HKK.out; omega
        by_cases hlt : j < ch1.length
        · have i1 : (j : Int) < ch1.length := by omega
          have i3 : (j : Int) < ch3.length := by omega
          have hd1 : decide ((j : Int) < ch1.length) = true := decide_eq_true i1
          obtain ⟨b1, o1, e1, hb1, hcell1⟩ := HK15.out.2.1.rd.rd.2 (show 0 < ch1.length by omega)
          obtain ⟨b5, o5, e5, hb5, hcell5⟩ := HK15.out.2.2.rd.rd.2 (show 0 < ch3.length by omega)
          have hj3 : j < ch3.length := by omega
          have hla : ch1.length - 1 < ch1.length := by omega
          obtain ⟨x, hx⟩ : ∃ x, ch3[j] = x := ⟨_, rfl⟩
          obtain ⟨y, hy⟩ : ∃ y, ch1[ch1.length - 1] = y := ⟨_, rfl⟩
          have r5 : ∀ w', Below w15.heap.size w15 w' → w'.cell? ⟨b5, o5 + j, none⟩ = some (.int .i64 x) := fun w' hb => (hb.cell (p := ⟨b5, o5 + j, none⟩) hb5).trans (hcell5 j _ (by simp [hj3, hx]))
          have r1 : ∀ w', Below w15.heap.size w15 w' → w'.cell? ⟨b1, o1 + (ch1.length - 1), none⟩ = some (.int .i64 y) := fun w' hb => (hb.cell (p := ⟨b1, o1 + (ch1.length - 1), none⟩) hb1).trans (hcell1 _ _ (by simp [hla, hy]))
          have hgt := HGT.out j hj3 hkj (by omega)
          rw [hx, hy] at hgt
          have hbd := hbr.drew
          obtain ⟨la, hla2⟩ : ∃ la, ch1.length - 1 = la := ⟨_, rfl⟩
          rw [hla2] at r1
          have hwl : IntKind.i64.wrap ((ch1.length : Int) - 1) = (la : Int) := by rw [IntWalk.i64_in _ (by have := HKK.out; omega)]; omega
          have il : (la : Int) < ch1.length := by omega
          have il2 : la < ch1.length := by omega
          subst e1 e5

          clear hx hy hcell1 hcell5 hla2 hl31 hjl hkj
          by_cases hmn : m < n
          · have hd2 : decide (m < n) = true := decide_eq_true hmn
            have hd3 : decide (x ≤ y) = false := decide_eq_false (Int.not_le.2 (hgt hmn))
            have hng := Int.not_le.2 (hgt hmn)
            clear hgt
            go_wp2_with fail
            refine region_q (fun w' => Below w15.heap.size w15 w') (by kernel_rfl) (by kernel_rfl) (by (exact hbd)) ?_
            (refine wq_step (fun K hK => ?_); apply q_take (by rfl); (focus (intro w hw; (try dsimp only at hw); go_simp; (try with_reducible rfl); done)); simp only [Act.put, List.setIfInBounds_toArray, List.set_cons_zero, List.set_cons_succ]; refine hK _ ?_; clear hK K)
            (refine wq_step (fun K hK => ?_); apply q_take (by rfl); (focus (intro w hw; (try dsimp only at hw); go_simp; (try with_reducible rfl); done)); simp only [Act.put, List.setIfInBounds_toArray, List.set_cons_zero, List.set_cons_succ]; refine hK _ ?_; clear hK K)
            (refine wq_step (fun K hK => ?_); apply q_take (by rfl); (focus (intro w hw; (try dsimp only at hw); go_simp; (try with_reducible rfl); done)); simp only [Act.put, List.setIfInBounds_toArray, List.set_cons_zero, List.set_cons_succ]; refine hK _ ?_; clear hK K)
            (refine wq_step (fun K hK => ?_); apply q_take (by rfl); (focus (intro w hw; (try dsimp only at hw); go_simp; (try with_reducible rfl); done)); simp only [Act.put, List.setIfInBounds_toArray, List.set_cons_zero, List.set_cons_succ]; refine hK _ ?_; clear hK K)
            (refine wq_step (fun K hK => ?_); apply q_take (by rfl); (focus (intro w hw; (try dsimp only at hw); go_simp; (try with_reducible rfl); done)); simp only [Act.put, List.setIfInBounds_toArray, List.set_cons_zero, List.set_cons_succ]; refine hK _ ?_; clear hK K)
            (refine wq_step (fun K hK => ?_); apply q_take (by rfl); (focus (intro w hw; (try dsimp only at hw); go_simp; (try with_reducible rfl); done)); simp only [Act.put, List.setIfInBounds_toArray, List.set_cons_zero, List.set_cons_succ]; refine hK _ ?_; clear hK K)
            (refine wq_step (fun K hK => ?_); apply q_take (by kernel_rfl); (focus (intro w hw; (try dsimp only at hw); go_simp; (try with_reducible rfl); done)); simp only [Act.put, List.setIfInBounds_toArray, List.set_cons_zero, List.set_cons_succ]; refine hK _ ?_; clear hK K)
            (refine wq_step (fun K hK => ?_); apply q_take (by kernel_rfl); (focus (intro w hw; (try dsimp only at hw); go_simp; (try with_reducible rfl); done)); simp only [Act.put, List.setIfInBounds_toArray, List.set_cons_zero, List.set_cons_succ]; refine hK _ ?_; clear hK K)
            (refine wq_step (fun K hK => ?_); apply q_take (by kernel_rfl); (focus (intro w hw; (try dsimp only at hw); go_simp; (try with_reducible rfl); done)); simp only [Act.put, List.setIfInBounds_toArray, List.set_cons_zero, List.set_cons_succ]; refine hK _ ?_; clear hK K)
            (refine wq_step (fun K hK => ?_); apply q_take (by rfl); (focus (intro w hw; (try dsimp only at hw); go_simp; (try with_reducible rfl); done)); simp only [Act.put, List.setIfInBounds_toArray, List.set_cons_zero, List.set_cons_succ]; refine hK _ ?_; clear hK K)
            (refine wq_step (fun K hK => ?_); apply q_take (by rfl); (focus (intro w hw; (try dsimp only at hw); go_simp; (try with_reducible rfl); done)); simp only [Act.put, List.setIfInBounds_toArray, List.set_cons_zero, List.set_cons_succ]; refine hK _ ?_; clear hK K)
            (refine wq_step (fun K hK => ?_); apply q_take (by kernel_rfl); (focus (intro w hw; (try dsimp only at hw); go_simp; (try with_reducible rfl); done)); simp only [Act.put, List.setIfInBounds_toArray, List.set_cons_zero, List.set_cons_succ]; refine hK _ ?_; clear hK K)
            (refine wq_step (fun K hK => ?_); apply q_take (by kernel_rfl); (focus (intro w hw; (try dsimp only at hw); go_simp; (try with_reducible rfl); done)); simp only [Act.put, List.setIfInBounds_toArray, List.set_cons_zero, List.set_cons_succ]; refine hK _ ?_; clear hK K)
            (refine wq_step (fun K hK => ?_); apply q_take (by kernel_rfl); (focus (intro w hw; (try dsimp only at hw); go_simp; (try with_reducible rfl); done)); simp only [Act.put, List.setIfInBounds_toArray, List.set_cons_zero, List.set_cons_succ]; refine hK _ ?_; clear hK K)
            (refine wq_step (fun K hK => ?_); apply q_take (by kernel_rfl); (focus (intro w hw; (try dsimp only at hw); go_simp; (try with_reducible rfl); done)); simp only [Act.put, List.setIfInBounds_toArray, List.set_cons_zero, List.set_cons_succ]; refine hK _ ?_; clear hK K)
            (refine wq_step (fun K hK => ?_); apply q_take (by kernel_rfl); (focus (intro w hw; (try dsimp only at hw); go_simp; (try with_reducible rfl); done)); simp only [Act.put, List.setIfInBounds_toArray, List.set_cons_zero, List.set_cons_succ]; refine hK _ ?_; clear hK K)
            (refine wq_step (fun K hK => ?_); apply q_take (by kernel_rfl); (focus (intro w hw; (try dsimp only at hw); go_simp; (try with_reducible rfl); done)); simp only [Act.put, List.setIfInBounds_toArray, List.set_cons_zero, List.set_cons_succ]; refine hK _ ?_; clear hK K)
            (refine wq_step (fun K hK => ?_); apply q_take (by kernel_rfl); (focus (intro w hw; (try dsimp only at hw); go_simp; (try with_reducible rfl); done)); simp only [Act.put, List.setIfInBounds_toArray, List.set_cons_zero, List.set_cons_succ]; refine hK _ ?_; clear hK K)
            (refine wq_step (fun K hK => ?_); apply q_take (by kernel_rfl); (focus (intro w hw; (try dsimp only at hw); go_simp; (try with_reducible rfl); done)); simp only [Act.put, List.setIfInBounds_toArray, List.set_cons_zero, List.set_cons_succ]; refine hK _ ?_; clear hK K)
            (refine wq_step (fun K hK => ?_); apply q_take (by kernel_rfl); (focus (intro w hw; (try dsimp only at hw); go_simp; (try with_reducible rfl); done)); simp only [Act.put, List.setIfInBounds_toArray, List.set_cons_zero, List.set_cons_succ]; refine hK _ ?_; clear hK K)
            (refine wq_step (fun K hK => ?_); apply q_take (by kernel_rfl); (focus (intro w hw; (try dsimp only at hw); go_simp; (try with_reducible rfl); done)); simp only [Act.put, List.setIfInBounds_toArray, List.set_cons_zero, List.set_cons_succ]; refine hK _ ?_; clear hK K)
            (refine wq_step (fun K hK => ?_); apply q_take (by kernel_rfl); (focus (intro w hw; (try dsimp only at hw); go_simp; (try with_reducible rfl); done)); simp only [Act.put, List.setIfInBounds_toArray, List.set_cons_zero, List.set_cons_succ]; refine hK _ ?_; clear hK K)
            (refine wq_step (fun K hK => ?_); apply q_take (by kernel_rfl); (focus (intro w hw; (try dsimp only at hw); go_simp; (try with_reducible rfl); done)); simp only [Act.put, List.setIfInBounds_toArray, List.set_cons_zero, List.set_cons_succ]; refine hK _ ?_; clear hK K)
            (refine wq_step (fun K hK => ?_); apply q_take (by kernel_rfl); (focus (intro w hw; (try dsimp only at hw); go_simp; (try with_reducible rfl); done)); simp only [Act.put, List.setIfInBounds_toArray, List.set_cons_zero, List.set_cons_succ]; refine hK _ ?_; clear hK K)
            (refine wq_step (fun K hK => ?_); apply q_take (by kernel_rfl); (focus (intro w hw; (try dsimp only at hw); go_simp; (try with_reducible rfl); done)); simp only [Act.put, List.setIfInBounds_toArray, List.set_cons_zero, List.set_cons_succ]; refine hK _ ?_; clear hK K)
            (refine wq_step (fun K hK => ?_); apply q_take (by rfl); (focus (intro w hw; (try dsimp only at hw); go_simp; (try with_reducible rfl); done)); simp only [Act.put, List.setIfInBounds_toArray, List.set_cons_zero, List.set_cons_succ]; refine hK _ ?_; clear hK K)
            refine wq_nil ?_
            intro wq hwq
            go_wp2
            go_roundw
            case rel => exact ⟨j + 1, by have := HKJ.out; omega, by omega, by go_num, hwq⟩
            case measure => simp [intOf]; omega
          · have hd2 : decide (m < n) = false := decide_eq_false hmn
            clear hgt
            go_wp2_with fail
            refine region_q (fun w' => Below w15.heap.size w15 w') (by kernel_rfl) (by kernel_rfl) (by (exact hbd)) ?_
            (refine wq_step (fun K hK => ?_); apply q_take (by rfl); (focus (intro w hw; (try dsimp only at hw); go_simp; (try with_reducible rfl); done)); simp only [Act.put, List.setIfInBounds_toArray, List.set_cons_zero, List.set_cons_succ]; refine hK _ ?_; clear hK K)
            (refine wq_step (fun K hK => ?_); apply q_take (by rfl); (focus (intro w hw; (try dsimp only at hw); go_simp; (try with_reducible rfl); done)); simp only [Act.put, List.setIfInBounds_toArray, List.set_cons_zero, List.set_cons_succ]; refine hK _ ?_; clear hK K)
            (refine wq_step (fun K hK => ?_); apply q_take (by rfl); (focus (intro w hw; (try dsimp only at hw); go_simp; (try with_reducible rfl); done)); simp only [Act.put, List.setIfInBounds_toArray, List.set_cons_zero, List.set_cons_succ]; refine hK _ ?_; clear hK K)
            (refine wq_step (fun K hK => ?_); apply q_take (by rfl); (focus (intro w hw; (try dsimp only at hw); go_simp; (try with_reducible rfl); done)); simp only [Act.put, List.setIfInBounds_toArray, List.set_cons_zero, List.set_cons_succ]; refine hK _ ?_; clear hK K)
            (refine wq_step (fun K hK => ?_); apply q_take (by rfl); (focus (intro w hw; (try dsimp only at hw); go_simp; (try with_reducible rfl); done)); simp only [Act.put, List.setIfInBounds_toArray, List.set_cons_zero, List.set_cons_succ]; refine hK _ ?_; clear hK K)
            (refine wq_step (fun K hK => ?_); apply q_take (by rfl); (focus (intro w hw; (try dsimp only at hw); go_simp; (try with_reducible rfl); done)); simp only [Act.put, List.setIfInBounds_toArray, List.set_cons_zero, List.set_cons_succ]; refine hK _ ?_; clear hK K)
            (refine wq_step (fun K hK => ?_); apply q_take (by kernel_rfl); (focus (intro w hw; (try dsimp only at hw); go_simp; (try with_reducible rfl); done)); simp only [Act.put, List.setIfInBounds_toArray, List.set_cons_zero, List.set_cons_succ]; refine hK _ ?_; clear hK K)
            (refine wq_step (fun K hK => ?_); apply q_take (by kernel_rfl); (focus (intro w hw; (try dsimp only at hw); go_simp; (try with_reducible rfl); done)); simp only [Act.put, List.setIfInBounds_toArray, List.set_cons_zero, List.set_cons_succ]; refine hK _ ?_; clear hK K)
            (refine wq_step (fun K hK => ?_); apply q_take (by kernel_rfl); (focus (intro w hw; (try dsimp only at hw); go_simp; (try with_reducible rfl); done)); simp only [Act.put, List.setIfInBounds_toArray, List.set_cons_zero, List.set_cons_succ]; refine hK _ ?_; clear hK K)
            (refine wq_step (fun K hK => ?_); apply q_take (by rfl); (focus (intro w hw; (try dsimp only at hw); go_simp; (try with_reducible rfl); done)); simp only [Act.put, List.setIfInBounds_toArray, List.set_cons_zero, List.set_cons_succ]; refine hK _ ?_; clear hK K)
            (refine wq_step (fun K hK => ?_); apply q_take (by rfl); (focus (intro w hw; (try dsimp only at hw); go_simp; (try with_reducible rfl); done)); simp only [Act.put, List.setIfInBounds_toArray, List.set_cons_zero, List.set_cons_succ]; refine hK _ ?_; clear hK K)
            (refine wq_step (fun K hK => ?_); refine q_skip (by kernel_rfl) ?_; simp only [Act.put, List.setIfInBounds_toArray, List.set_cons_zero, List.set_cons_succ]; refine hK _ ?_; clear hK K)
            (refine wq_step (fun K hK => ?_); refine q_skip (by kernel_rfl) ?_; simp only [Act.put, List.setIfInBounds_toArray, List.set_cons_zero, List.set_cons_succ]; refine hK _ ?_; clear hK K)
            (refine wq_step (fun K hK => ?_); refine q_skip (by kernel_rfl) ?_; simp only [Act.put, List.setIfInBounds_toArray, List.set_cons_zero, List.set_cons_succ]; refine hK _ ?_; clear hK K)
            (refine wq_step (fun K hK => ?_); refine q_skip (by kernel_rfl) ?_; simp only [Act.put, List.setIfInBounds_toArray, List.set_cons_zero, List.set_cons_succ]; refine hK _ ?_; clear hK K)
            (refine wq_step (fun K hK => ?_); refine q_skip (by kernel_rfl) ?_; simp only [Act.put, List.setIfInBounds_toArray, List.set_cons_zero, List.set_cons_succ]; refine hK _ ?_; clear hK K)
            (refine wq_step (fun K hK => ?_); refine q_skip (by kernel_rfl) ?_; simp only [Act.put, List.setIfInBounds_toArray, List.set_cons_zero, List.set_cons_succ]; refine hK _ ?_; clear hK K)
            (refine wq_step (fun K hK => ?_); refine q_skip (by kernel_rfl) ?_; simp only [Act.put, List.setIfInBounds_toArray, List.set_cons_zero, List.set_cons_succ]; refine hK _ ?_; clear hK K)
            (refine wq_step (fun K hK => ?_); refine q_skip (by kernel_rfl) ?_; simp only [Act.put, List.setIfInBounds_toArray, List.set_cons_zero, List.set_cons_succ]; refine hK _ ?_; clear hK K)
            (refine wq_step (fun K hK => ?_); refine q_skip (by kernel_rfl) ?_; simp only [Act.put, List.setIfInBounds_toArray, List.set_cons_zero, List.set_cons_succ]; refine hK _ ?_; clear hK K)
            (refine wq_step (fun K hK => ?_); refine q_skip (by kernel_rfl) ?_; simp only [Act.put, List.setIfInBounds_toArray, List.set_cons_zero, List.set_cons_succ]; refine hK _ ?_; clear hK K)
            (refine wq_step (fun K hK => ?_); refine q_skip (by kernel_rfl) ?_; simp only [Act.put, List.setIfInBounds_toArray, List.set_cons_zero, List.set_cons_succ]; refine hK _ ?_; clear hK K)
            (refine wq_step (fun K hK => ?_); refine q_skip (by kernel_rfl) ?_; simp only [Act.put, List.setIfInBounds_toArray, List.set_cons_zero, List.set_cons_succ]; refine hK _ ?_; clear hK K)
            (refine wq_step (fun K hK => ?_); refine q_skip (by kernel_rfl) ?_; simp only [Act.put, List.setIfInBounds_toArray, List.set_cons_zero, List.set_cons_succ]; refine hK _ ?_; clear hK K)
            (refine wq_step (fun K hK => ?_); refine q_skip (by kernel_rfl) ?_; simp only [Act.put, List.setIfInBounds_toArray, List.set_cons_zero, List.set_cons_succ]; refine hK _ ?_; clear hK K)
            (refine wq_step (fun K hK => ?_); apply q_take (by rfl); (focus (intro w hw; (try dsimp only at hw); go_simp; (try with_reducible rfl); done)); simp only [Act.put, List.setIfInBounds_toArray, List.set_cons_zero, List.set_cons_succ]; refine hK _ ?_; clear hK K)
            refine wq_nil ?_
            intro wq hwq
            go_wp2
            go_roundw
            case rel => exact ⟨j + 1, by have := HKJ.out; omega, by omega, by go_num, hwq⟩
            case measure => simp [intOf]; omega
        · have i3 : ¬ ((j : Int) < ch3.length) := by omega
          have HBR := hide hbr
          go_wp2_with fail
          refine (awake18_calls _).mono ?_
          rintro e w16 ⟨rfl, hb16⟩
          have HF := hide ((HK15.out.1.trans (HBR.out.mono HK15.out.1.size)).trans (hb16.mono (Nat.le_trans HK15.out.1.size HBR.out.size)))
          clear hb16
          go_wp2
          go_ret
          exact ⟨rfl, HF.out⟩
end Go.Proofs.Ytcgecalbgkkinaa
