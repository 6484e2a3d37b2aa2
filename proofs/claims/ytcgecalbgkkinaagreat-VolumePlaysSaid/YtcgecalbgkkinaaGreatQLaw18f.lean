/- One text of: Law18f. -/
import Derived.Test.YtcgecalbgkkinaaGreatQDE
import Derived.Test.YtcgecalbgkkinaaGreatQBase
namespace Go.Proofs.YtcgecalbgkkinaaGreat
open Go.ChangeShapes Go.WideShapes Go.ChangeAt Go.RowKit Go.Joins Go.Deep Go.Maps
set_option linter.unusedVariables false
set_option linter.unusedSimpArgs false

theorem OutA.more {w : World} {no M : List Nat} {x : DV} {S : Vst} (h : DM w no x S) (ho : OutA no x) (hM : ∀ z ∈ M, z ∈ no ∨ w.heap.size ≤ z) : OutA M x := by
  refine ⟨fun a ha hx => ?_, fun h0 a ha hx => ?_, fun h0 a ha hx => ?_⟩
  · rcases hM _ hx with h1 | h1
    · exact ho.p a ha h1
    · obtain ⟨b, o, e, hb, _⟩ := h.pk.2 (by omega)
      rw [e] at ha
      cases ha
      simp only [] at h1
      omega
  · rcases hM _ hx with h1 | h1
    · exact ho.v h0 a ha h1
    · obtain ⟨b, o, e, hb, _⟩ := h.vo.2 (List.length_pos_iff.2 h0)
      rw [e] at ha
      cases ha
      simp only [] at h1
      omega
  · rcases hM _ hx with h1 | h1
    · exact ho.c h0 a ha h1
    · obtain ⟨b, o, e, hb, _⟩ := h.ck.2 (List.length_pos_iff.2 h0)
      rw [e] at ha
      cases ha
      simp only [] at h1
      omega
theorem OutA.sub {no M : List Nat} {x : DV} (h : OutA M x) (hs : ∀ z ∈ no, z ∈ M) : OutA no x := ⟨fun a ha hx => h.p a ha (hs _ hx), fun h0 a ha hx => h.v h0 a ha (hs _ hx), fun h0 a ha hx => h.c h0 a ha (hs _ hx)⟩
theorem chg4 (w : World) (b : Nat) (A1 A2 A3 z : Value) : Chg [b] w ((((w.setCell ⟨b, 0, none⟩ A1).setCell ⟨b, 1, none⟩ A2).setCell ⟨b, 2, none⟩ A3).setCell ⟨b, 3, none⟩ z) :=
  ((((Chg.refl _ _).setCell (Or.inl (by simp)) _).setCell (Or.inl (by simp)) _).setCell (Or.inl (by simp)) _).setCell (Or.inl (by simp)) _
theorem plX {wr w5 : World} {no : List Nat} {x : DV} {S : Vst} {b : Nat} {B1 B2 B3 B4 : Value} (h : DM w5 (b :: no) x S) (ho : OutA (b :: no) x) (hb : Blk w5 b 31 [B1, B2, B3, B4]) (hw : Below b wr w5) (A1 A2 A3 z : Value) :
    DM ((((w5.setCell ⟨b, 0, none⟩ A1).setCell ⟨b, 1, none⟩ A2).setCell ⟨b, 2, none⟩ A3).setCell ⟨b, 3, none⟩ z) no x S ∧ OutA no x ∧ Blk ((((w5.setCell ⟨b, 0, none⟩ A1).setCell ⟨b, 1, none⟩ A2).setCell ⟨b, 2, none⟩ A3).setCell ⟨b, 3, none⟩ z) b 31 [A1, A2, A3, z] ∧
      Below b wr ((((w5.setCell ⟨b, 0, none⟩ A1).setCell ⟨b, 1, none⟩ A2).setCell ⟨b, 2, none⟩ A3).setCell ⟨b, 3, none⟩ z) := by
  have hc := chg4 w5 b A1 A2 A3 z
  exact ⟨(h.chg ho hc (fun z hz => by rw [List.mem_singleton.1 hz]; exact List.mem_cons_self ..)).sub (fun z hz => List.mem_cons_of_mem _ hz), ho.sub (fun z hz => List.mem_cons_of_mem _ hz), (((hb.set 0 A1).set 1 A2).set 2 A3).set 3 z,
    Chg.onto hw (Nat.le_of_lt hb.lt) hc (fun z hz => by rw [List.mem_singleton.1 hz]; exact Nat.le_refl _)⟩
set_option maxHeartbeats 16000000 in
set_option maxRecDepth 100000 in
/-- THE WALK of VolumePlays: whatever comes in, it answers true, and nothing that was there turns. -/
theorem volumePlays_walk {H : Type} {enc : TypeId × Value → H} (W : World) (base : Nat) (v0 : Value) (d0 : DataW H) (p0 : List MemPlace)
    (ok0 : Value.okWide Tryz.prog W .any base 22 v0) (h0 : DataW.Trod enc Tryz.prog W 0 (fun _ => true) true 22 v0 d0 p0) :
    Calls Tryz.prog 3 #[v0] W fun e w' => e = .returned (.bool true) ∧ Below W.heap.size W w' := by
  obtain ⟨Al, cl, cs, rfl, hlen, hcap, hok, hr⟩ := open_cmds ok0 h0
  unfold maxLen at hcap
  clear ok0 h0
  have HGR := hide (great_calls Al cl cs W (by omega) hr)
  have HR := hide hr
  have HOK := hide hok
  clear hr hok
  cases hgr : great cs with
  | true =>
    rw [hgr] at HGR
    clear hgr
    go_enter Tryz.func3, Tryz.ntmps3
    go_wp2_with fail
    refine HGR.out.mono ?_
    rintro e w1 ⟨rfl, hb1⟩
    go_wp2_with fail
    refine (awake18_calls _).mono ?_
    rintro e w2 ⟨rfl, hb2⟩
    have HF := hide (hb1.trans (hb2.mono hb1.size))
    clear hb1 hb2
    go_wp2
    go_ret
    exact ⟨rfl, HF.out⟩
  | false =>
    rw [hgr] at HGR
    have HSM : Hid (cs.length ≤ 30) := hide (by
      unfold great at hgr
      rw [Bool.or_eq_false_iff] at hgr
      simpa using hgr.2)
    clear hgr
    go_enter Tryz.func3, Tryz.ntmps3
    go_wp2_with fail
    refine HGR.out.mono ?_
    rintro e w0 ⟨rfl, hb0⟩
    have HB0 := hide hb0
    clear hb0 HGR
    go_wp2_with fail
    refine (VS.new _).mono ?_
    rintro e w1 ⟨sb, rfl, hv, hb1, hbl⟩
    have HB1 := hide (HB0.out.trans (hb1.mono HB0.out.size))
    have HV1 := hide hv
    have HSB := hide (show W.heap.size ≤ sb from Nat.le_trans HB0.out.size hbl)
    clear hb1 hbl hv
    go_wp2_with fail
    refine (dnew_calls _).mono ?_
    rintro e w2 ⟨pb, rfl, hdm, hp1, hp2, hb2⟩
    have HB2 := hide (HB1.out.trans (hb2.mono HB1.out.size))
    have HV2 := hide (HV1.out.below hb2)
    have HDM := hide (And.intro hdm (And.intro hp1 hp2))
    have HSL := hide HV1.out.lt
    clear hb2 hdm hp1 hp2
    unfold DV.val DV.cells
    simp only [List.length_nil]
    go_wp2_with fail
    obtain ⟨w3, hw3⟩ : ∃ w3, w2.alloc (.cells #[.slice (some ⟨pb, 0, none⟩) 16 16, .slice none 0 0, .slice none 0 0, .int .i64 1] 31) = w3 := ⟨_, rfl⟩
    obtain ⟨ex, hex⟩ : ∃ ex, w2.heap.size = ex := ⟨_, rfl⟩
    have hw3b : Below w2.heap.size w2 w3 := hw3 ▸ (Below.refl _ _).alloc (Nat.le_refl _) _
    have hE3 : Blk w3 ex 31 [.slice (some ⟨pb, 0, none⟩) 16 16, .slice none 0 0, .slice none 0 0, .int .i64 1] := by rw [← hw3, ← hex]; exact Blk.new rfl
    have HNE := hide (show sb ≠ ex ∧ W.heap.size ≤ ex from ⟨by have h1 := HSL.out; have h2 := HV2.out.lt; omega, by rw [← hex]; exact HB2.out.size⟩)
    have hK3 : VSK [ex] w3 sb ⟨[], [], [], 1⟩ 0 := HV2.out.toK hw3b (by omega) (by rw [← hw3, ← hex]; simp)
    have hD3 : DM w3 [sb, ex] ⟨some ⟨pb, 0, none⟩, 16, [], none, 0, [], none, 0⟩ ⟨[], [], [], 1⟩ := (HDM.out.1 _).below hw3b
    have hO3 : OutA [sb, ex] ⟨some ⟨pb, 0, none⟩, 16, [], none, 0, [], none, 0⟩ := ⟨fun a ha hx => by
      have h1 := HDM.out.2
      have h2 := HSL.out
      cases ha
      simp only [List.mem_cons, List.mem_nil_iff, or_false] at hx
      omega, fun h => absurd rfl h, fun h => absurd rfl h⟩
    have HST := hide (And.intro hK3 (And.intro hD3 (And.intro hO3 (And.intro hE3 (HB2.out.trans (hw3b.mono HB2.out.size))))))
    rw [hw3, hex]
    clear hw3 hex hw3b hE3 hK3 hD3 hO3
    go_wp2_with fail
    go_loopw [2, 5, 6, 7, 19, 20, 21, 22, 23, 24, 25, 26, 27, 28, 29, 30, 31, 32, 33, 34, 35, 36, 37, 38, 39, 40, 41, 42, 43, 44, 45, 46, 47, 48] (fun r i _ _ _ _ _ _ _ _ _ _ _ _ _ _ _ _ _ _ _ _ _ _ _ _ _ _ _ _ _ _ _ _ wr => ∃ (k : Nat) (S : Vst) (x : DV), k ≤ cs.length ∧ i = .int .i64 k ∧ r = .bool false ∧ VSK [ex] wr sb S k ∧ VIn S ∧ DM wr [sb, ex] x S ∧ OutA [sb, ex] x ∧ Blk wr ex 31 (x.cells S.nx) ∧ Below W.heap.size W wr) (fun r i _ _ _ _ _ _ _ _ _ _ _ _ _ _ _ _ _ _ _ _ _ _ _ _ _ _ _ _ _ _ _ _ _ => cs.length - (intOf i).toNat)
    case atStart => exact ⟨0, ⟨[], [], [], 1⟩, ⟨some ⟨pb, 0, none⟩, 16, [], none, 0, [], none, 0⟩, Nat.zero_le _, rfl, rfl, HST.out.1, VIn.start, HST.out.2.1, HST.out.2.2.1, HST.out.2.2.2.1, HST.out.2.2.2.2⟩
    case round =>
      obtain ⟨k, S, x, hk, rfl, rfl, hvs, hvi, hdm, hoa, hex, hbr⟩ := hrel
      have HVS := hide hvs
      have HVI := hide hvi
      have HD := hide (And.intro hdm (And.intro hoa hex))
      have HBR := hide hbr
      have hk30 : k ≤ 30 := by have := HSM.out; omega
      clear hvs hvi hdm hoa hex hbr
      by_cases hlt : k < cs.length
      · have i1 : (k : Int) < cs.length := by omega
        obtain ⟨bA, oA, eA, hbA, hcell⟩ := HR.out.2 (by omega)
        obtain ⟨⟨k0, a0, b0, c0, ⟨pr, pw, pl, pb'⟩⟩, hq⟩ : ∃ q, cs[k] = q := ⟨_, rfl⟩
        have hqok : (⟨k0, a0, b0, c0, ⟨pr, pw, pl, pb'⟩⟩ : Cmd).ok := by rw [← hq]; exact HOK.out _ (List.getElem_mem _)
        have HRU : Hid (∀ w', Below W.heap.size W w' → ∀ j, (hj : j < 8) → w'.cell? ⟨bA, oA + k * 8 + j, none⟩ = (Cmd.cells ⟨k0, a0, b0, c0, ⟨pr, pw, pl, pb'⟩⟩)[j]?) := hide (fun w' hb j hj => by
          have h1 := hb.cell (p := ⟨bA, oA + k * 8 + j, none⟩) hbA
          rw [h1]
          have h2 := cmdCells_get cs k j hlt hj
          rw [hq] at h2
          have h3 : j < (Cmd.cells ⟨k0, a0, b0, c0, ⟨pr, pw, pl, pb'⟩⟩).length := hj
          rw [List.getElem?_eq_getElem h3] at h2 ⊢
          have := hcell _ _ h2
          rw [← this]
          congr 2
          omega)
        have HQK := hide hqok
        obtain ⟨⟨S', er⟩, hR⟩ : ∃ R, S.apply ⟨k0, a0, b0, c0, ⟨pr, pw, pl, pb'⟩⟩ = R := ⟨_, rfl⟩
        have hVA := hide (fun w' (h : VSK [ex] w' sb S k) => vapplyK_calls (K := [ex]) w' sb k S ⟨k0, a0, b0, c0, ⟨pr, pw, pl, pb'⟩⟩ h (by omega) hqok)
        have hVI' := HVI.out.apply HVS.out.vs.ok ⟨k0, a0, b0, c0, ⟨pr, pw, pl, pb'⟩⟩
        rw [hR] at hVA hVI'
        have HVI2 := hide hVI'
        obtain ⟨Ap, cp, V, Av, cv, C, Ac, cc⟩ := x
        have HAP : Hid (∀ M : List Nat, (∀ z ∈ M, z ∈ [sb, ex] ∨ wr.heap.size ≤ z) → ∀ w', Below wr.heap.size wr w' → (∀ z ∈ M, z < w'.heap.size) → Calls Tryz.prog 10 #[.agg #[.slice Ap 16 cp, .slice Av V.length cv, .slice Ac C.length cc, .int .i64 S.nx], .agg #[.int .i64 k0, .int .i64 a0, .int .i64 b0, .int .i64 c0, .int .i64 pr, .int .i64 pw, .int .i64 pl, .int .i64 pb']] w' fun e w'' =>
            ∃ A4 c4 V4 B4 d4 C4 D4 e4, e = .returned (.tuple #[.agg #[.slice A4 16 c4, .slice B4 (List.length V4) d4, .slice D4 (List.length C4) e4, .int .i64 S'.nx], .int .i64 er]) ∧ DM w'' M ⟨A4, c4, V4, B4, d4, C4, D4, e4⟩ S' ∧ OutA M ⟨A4, c4, V4, B4, d4, C4, D4, e4⟩ ∧ Below w'.heap.size w' w'') :=
          hide (fun M hM w' hb hMl => by
            have hls := HVS.out.vs.ok.lens (by omega)
            have hlV := HD.out.1.lenV
            have hlC := HD.out.1.lenC
            simp only [] at hlV hlC
            have hn := HVS.out.vs.ok.nx2
            have hcl := rise_len (a := 1) (b := S.nx) HVS.out.vs.ok.csr (fun x hx => by have := HVS.out.vs.ok.csa x hx; omega)
            have hc := dapply_calls w' M ⟨Ap, cp, V, Av, cv, C, Ac, cc⟩ S k ⟨k0, a0, b0, c0, ⟨pr, pw, pl, pb'⟩⟩ ((HD.out.1.plus hM).below hb) hMl (OutA.more HD.out.1 HD.out.2.1 hM) HVS.out.vs.ok HVI.out (by omega) HQK.out (by simp only []; omega) (by simp only []; omega)
            rw [hR] at hc
            refine hc.mono (fun e w'' hh => ?_)
            obtain ⟨⟨A4, c4, V4, B4, d4, C4, D4, e4⟩, he, hd, ho, hbw⟩ := hh
            exact ⟨A4, c4, V4, B4, d4, C4, D4, e4, he, hd, ho, hbw⟩)
        have rr := Below.refl wr.heap.size wr
        have g := fun j (hj : j < 8) w' (hb : Below wr.heap.size wr w') => HRU.out w' (HBR.out.trans (hb.mono HBR.out.size)) j hj
        have g0 : ∀ w', Below wr.heap.size wr w' → w'.cell? ⟨bA, oA + k * 8, none⟩ = some (.int .i64 k0) := g 0 (by omega)
        have g1 : ∀ w', Below wr.heap.size wr w' → w'.cell? ⟨bA, oA + k * 8 + 1, none⟩ = some (.int .i64 a0) := g 1 (by omega)
        have g2 : ∀ w', Below wr.heap.size wr w' → w'.cell? ⟨bA, oA + k * 8 + 2, none⟩ = some (.int .i64 b0) := g 2 (by omega)
        have g3 : ∀ w', Below wr.heap.size wr w' → w'.cell? ⟨bA, oA + k * 8 + 3, none⟩ = some (.int .i64 c0) := g 3 (by omega)
        have g4 : ∀ w', Below wr.heap.size wr w' → w'.cell? ⟨bA, oA + k * 8 + 4, none⟩ = some (.int .i64 pr) := g 4 (by omega)
        have g5 : ∀ w', Below wr.heap.size wr w' → w'.cell? ⟨bA, oA + k * 8 + 5, none⟩ = some (.int .i64 pw) := g 5 (by omega)
        have g6 : ∀ w', Below wr.heap.size wr w' → w'.cell? ⟨bA, oA + k * 8 + 6, none⟩ = some (.int .i64 pl) := g 6 (by omega)
        have g7 : ∀ w', Below wr.heap.size wr w' → w'.cell? ⟨bA, oA + k * 8 + 7, none⟩ = some (.int .i64 pb') := g 7 (by omega)
        have x0 := HD.out.2.2.rule 0 _ rfl
        have x1 := HD.out.2.2.rule 1 _ rfl
        have x2 := HD.out.2.2.rule 2 _ rfl
        have x3 := HD.out.2.2.rule 3 _ rfl
        (try simp only [] at x0 x1 x2 x3)
        have HMM : Hid ((∀ z ∈ [sb, ex], z < wr.heap.size) ∧ sb ≠ ex) := hide ⟨fun z hz => by
          have h1 := HVS.out.vs.lt
          have h2 := HD.out.2.2.lt
          simp only [List.mem_cons, List.mem_nil_iff, or_false] at hz
          rcases hz with rfl | rfl <;> assumption, HNE.out.1⟩
        subst eA
        clear hq hqok hcell hbA g hR hVI'
        go_upto_region 9 with fail
        refine region_lexg (fun w' => Below wr.heap.size wr w') [10] 7 [(0, 0), (2, 1), (2, 2), (2, 3), (0, 4)] #[true, true, true, true, true, false, false, false, false, false, false, false] (by kernel_rfl) (by kernel_rfl) (by decide) (by kernel_rfl) (by kernel_rfl) (fun _ _ _ _ _ h => h) (by (first | assumption | exact rr.drew | exact below_al (by assumption) _ | exact (below_al rr _).drew)) (fun hS0 => ?_)
        simp only [List.map_cons, List.map_nil, List.getElem?_toArray, List.getElem?_cons_succ, List.getElem?_cons_zero]
        (apply lexg_take (by rfl); (focus (intro w hw; (try dsimp only at hw); go_simp; (try with_reducible rfl); done)); simp only [Act.put, List.setIfInBounds_toArray, List.set_cons_zero, List.set_cons_succ])
        (apply lexg_pure (by rfl); (focus (intro w; go_simp; (try with_reducible rfl); done)); simp only [Act.put, List.setIfInBounds_toArray, List.set_cons_zero, List.set_cons_succ])
        (apply lexg_pure (by rfl); (focus (intro w; go_simp; (try with_reducible rfl); done)); simp only [Act.put, List.setIfInBounds_toArray, List.set_cons_zero, List.set_cons_succ])
        (apply lexg_pure (by rfl); (focus (intro w; go_simp; (try with_reducible rfl); done)); simp only [Act.put, List.setIfInBounds_toArray, List.set_cons_zero, List.set_cons_succ])
        (apply lexg_take (by rfl); (focus (intro w hw; (try dsimp only at hw); go_simp; (try with_reducible rfl); done)); simp only [Act.put, List.setIfInBounds_toArray, List.set_cons_zero, List.set_cons_succ])
        refine lexg_nil (fun hS2 => ?_)
        refine lexg_fork2 (i := 5) (j := 9) (by kernel_rfl) (by kernel_rfl : _ = #[true, true, true, true, true, true, false, false, false, false, false, false]) (by kernel_rfl : _ = #[true, true, true, true, true, false, false, false, false, true, false, false]) ?_ ?_
        focus
          apply lexg_act (by simp only [List.getElem?_toArray, List.getElem?_cons_succ, List.getElem?_cons_zero]; rfl) (by rfl)
          go_simp
          ((go_at_call 10; first
                          | (refine (HAP.out (wr.heap.size :: [sb, ex]) (fun z hz => (List.mem_cons.1 hz).elim (fun e => Or.inr (Nat.le_of_eq e.symm)) Or.inl) _ (by assumption) (fun z hz => by have h1 := HMM.out.1; simp only [drew_size, alloc_size]; rcases List.mem_cons.1 hz with e | hz <;> first | omega | (have := h1 z hz; omega))).mono ?_; rintro e w5 ⟨A4, c4, V4, B4, d4, C4, D4, e4, rfl, hd5, ho5, hb5⟩; have hb5q : Below wr.heap.size wr w5 := below_app hb5 (by assumption); have qb : Blk w5 wr.heap.size 31 [.slice none 0 0, .slice none 0 0, .slice none 0 0, .int .i64 0] := Blk.below (by first | exact Blk.new rfl | exact Blk.drewC5 (Blk.new rfl)) hb5; have H5 := hide (And.intro hd5 (And.intro ho5 qb)); have q0 := qb.cell 0; have q1 := qb.cell 1; have q2 := qb.cell 2; have q3 := qb.cell 3; have qf := qb.frozen; simp only [List.getElem?_cons_succ, List.getElem?_cons_zero] at q0 q1 q2 q3; clear qb hd5 ho5 hb5)
                          | (refine (HAP.out [sb, ex] (fun z hz => Or.inl hz) _ (by assumption) (by exact fun z hz => HMM.out.1 z hz)).mono ?_; rintro e w5 ⟨A4, c4, V4, B4, d4, C4, D4, e4, rfl, hd5, ho5, hb5⟩; have hb5q : Below wr.heap.size wr w5 := below_app hb5 (by assumption); have H5 := hide (And.intro hd5 ho5); clear hd5 ho5 hb5)))
          refine lexg_both (by (first | assumption | exact rr.drew | exact below_al (by assumption) _ | exact (below_al rr _).drew)) (fun hS1 => ?_)
          refine lexg_more 0 [(2, 6), (2, 7), (2, 8), (1, 9), (3, 10), (2, 11)] #[true, true, true, true, true, true, true, true, true, true, true, true] (by kernel_rfl) (by decide) (by kernel_rfl) (by kernel_rfl) (fun _ _ _ _ _ h => h) (fun _ => by assumption) ?_
          simp only [List.map_cons, List.map_nil, List.getElem?_toArray, List.getElem?_cons_succ, List.getElem?_cons_zero]
          (apply lexg_pure (by rfl); (focus (intro w; go_simp; (try with_reducible rfl); done)); simp only [Act.put, List.setIfInBounds_toArray, List.set_cons_zero, List.set_cons_succ])
          (apply lexg_pure (by rfl); (focus (intro w; go_simp; (try with_reducible rfl); done)); simp only [Act.put, List.setIfInBounds_toArray, List.set_cons_zero, List.set_cons_succ])
          (apply lexg_pure (by rfl); (focus (intro w; go_simp; (try with_reducible rfl); done)); simp only [Act.put, List.setIfInBounds_toArray, List.set_cons_zero, List.set_cons_succ])
          (refine lexg_eff (by rfl) ?_; go_simp; refine lexg_both (by (first | assumption | exact rr.drew | exact below_al (by assumption) _ | exact (below_al rr _).drew)) (fun hS1 => ?_))
          (refine lexg_effN (by rfl) ?_; go_simp)
          (apply lexg_pure (by rfl); (focus (intro w; go_simp; (try with_reducible rfl); done)); simp only [Act.put, List.setIfInBounds_toArray, List.set_cons_zero, List.set_cons_succ])
          refine lexg_nil (fun _ => wpAnyG_done (by kernel_rfl) ?_ _)
        rotate_left
        focus
          apply lexg_act (by simp only [List.getElem?_toArray, List.getElem?_cons_succ, List.getElem?_cons_zero]; rfl) (by rfl)
          go_simp
          refine lexg_both (by (first | assumption | exact rr.drew | exact below_al (by assumption) _ | exact (below_al rr _).drew)) (fun hS1 => ?_)
          refine lexg_more 0 [(1, 5), (2, 6), (2, 7), (2, 8), (3, 10), (2, 11)] #[true, true, true, true, true, true, true, true, true, true, true, true] (by kernel_rfl) (by decide) (by kernel_rfl) (by kernel_rfl) (fun _ _ _ _ _ h => h) (fun _ => by assumption) ?_
          simp only [List.map_cons, List.map_nil, List.getElem?_toArray, List.getElem?_cons_succ, List.getElem?_cons_zero]
          (refine lexg_eff (by rfl) ?_; go_simp; ((go_at_call 10; first
                          | (refine (HAP.out (wr.heap.size :: [sb, ex]) (fun z hz => (List.mem_cons.1 hz).elim (fun e => Or.inr (Nat.le_of_eq e.symm)) Or.inl) _ (by assumption) (fun z hz => by have h1 := HMM.out.1; simp only [drew_size, alloc_size]; rcases List.mem_cons.1 hz with e | hz <;> first | omega | (have := h1 z hz; omega))).mono ?_; rintro e w5 ⟨A4, c4, V4, B4, d4, C4, D4, e4, rfl, hd5, ho5, hb5⟩; have hb5q : Below wr.heap.size wr w5 := below_app hb5 (by assumption); have qb : Blk w5 wr.heap.size 31 [.slice none 0 0, .slice none 0 0, .slice none 0 0, .int .i64 0] := Blk.below (by first | exact Blk.new rfl | exact Blk.drewC5 (Blk.new rfl)) hb5; have H5 := hide (And.intro hd5 (And.intro ho5 qb)); have q0 := qb.cell 0; have q1 := qb.cell 1; have q2 := qb.cell 2; have q3 := qb.cell 3; have qf := qb.frozen; simp only [List.getElem?_cons_succ, List.getElem?_cons_zero] at q0 q1 q2 q3; clear qb hd5 ho5 hb5)
                          | (refine (HAP.out [sb, ex] (fun z hz => Or.inl hz) _ (by assumption) (by exact fun z hz => HMM.out.1 z hz)).mono ?_; rintro e w5 ⟨A4, c4, V4, B4, d4, C4, D4, e4, rfl, hd5, ho5, hb5⟩; have hb5q : Below wr.heap.size wr w5 := below_app hb5 (by assumption); have H5 := hide (And.intro hd5 ho5); clear hd5 ho5 hb5))); refine lexg_both (by (first | assumption | exact rr.drew | exact below_al (by assumption) _ | exact (below_al rr _).drew)) (fun hS1 => ?_))
          (apply lexg_pure (by rfl); (focus (intro w; go_simp; (try with_reducible rfl); done)); simp only [Act.put, List.setIfInBounds_toArray, List.set_cons_zero, List.set_cons_succ])
          (apply lexg_pure (by rfl); (focus (intro w; go_simp; (try with_reducible rfl); done)); simp only [Act.put, List.setIfInBounds_toArray, List.set_cons_zero, List.set_cons_succ])
          (apply lexg_pure (by rfl); (focus (intro w; go_simp; (try with_reducible rfl); done)); simp only [Act.put, List.setIfInBounds_toArray, List.set_cons_zero, List.set_cons_succ])
          (refine lexg_effN (by rfl) ?_; go_simp)
          (apply lexg_pure (by rfl); (focus (intro w; go_simp; (try with_reducible rfl); done)); simp only [Act.put, List.setIfInBounds_toArray, List.set_cons_zero, List.set_cons_succ])
          refine lexg_nil (fun _ => wpAnyG_done (by kernel_rfl) ?_ _)
        rotate_left
        · skip
          rename_i hunm
          clear hunm
          obtain ⟨w6, hw6⟩ : ∃ w6, w5.alloc (.cells #[.slice A4 16 c4, .slice B4 V4.length d4, .slice D4 C4.length e4, .int .i64 S'.nx] 31) = w6 := ⟨_, rfl⟩
          obtain ⟨by_, hby⟩ : ∃ by_, w5.heap.size = by_ := ⟨_, rfl⟩
          have hX : DM w6 [sb, ex] ⟨A4, c4, V4, B4, d4, C4, D4, e4⟩ S' ∧ OutA [sb, ex] ⟨A4, c4, V4, B4, d4, C4, D4, e4⟩ ∧ Blk w6 by_ 31 [.slice A4 16 c4, .slice B4 V4.length d4, .slice D4 C4.length e4, .int .i64 S'.nx] ∧ Below wr.heap.size wr w6 := by
            subst hw6
            subst hby
            exact ⟨H5.out.1.below ((Below.refl _ _).alloc (Nat.le_refl _) _), H5.out.2, Blk.new rfl, below_al hb5q _⟩
          have HX := hide hX
          rw [hw6, hby]
          clear hX hw6 hby hb5q hS0 hS1 x0 x1 x2 x3 rr g0 g1 g2 g3 g4 g5 g6 g7
          (try clear q0 q1 q2 q3 qf)
          have y0 := HX.out.2.2.1.cell 0
          have y1 := HX.out.2.2.1.cell 1
          have y2 := HX.out.2.2.1.cell 2
          have y3 := HX.out.2.2.1.cell 3
          have HE6 := hide (HD.out.2.2.below HX.out.2.2.2)
          have e0 := HE6.out.cell 0
          have e1 := HE6.out.cell 1
          have e2 := HE6.out.cell 2
          have e3 := HE6.out.cell 3
          have ef := HE6.out.frozen
          simp only [DV.cells, List.getElem?_cons_succ, List.getElem?_cons_zero] at y0 y1 y2 y3 e0 e1 e2 e3
          obtain ⟨w7, hw7⟩ : ∃ w7, (((w6.setCell ⟨ex, 0, none⟩ (.slice A4 16 c4)).setCell ⟨ex, 1, none⟩ (.slice B4 V4.length d4)).setCell ⟨ex, 2, none⟩ (.slice D4 C4.length e4)).setCell ⟨ex, 3, none⟩ (.int .i64 S'.nx) = w7 := ⟨_, rfl⟩
          have hc7 : Chg [ex] w6 w7 := hw7 ▸ chg4 w6 ex _ _ _ _
          have hE7 : Blk w7 ex 31 [.slice A4 16 c4, .slice B4 V4.length d4, .slice D4 C4.length e4, .int .i64 S'.nx] := hw7 ▸ (((HE6.out.set 0 (.slice A4 16 c4)).set 1 (.slice B4 V4.length d4)).set 2 (.slice D4 C4.length e4)).set 3 (.int .i64 S'.nx)
          have hD7 := HX.out.1.chg HX.out.2.1 hc7 (fun z hz => by rw [List.mem_singleton.1 hz]; simp)
          have hV7 : VSK [ex] w7 sb S k := (HVS.out.below HX.out.2.2.2).chg hc7 (fun z hz => by
            rw [List.mem_singleton.1 hz]
            exact ⟨List.mem_singleton.2 rfl, HMM.out.2.symm, _, _, HE6.out⟩)
          have hB7 : Below W.heap.size W w7 := Chg.onto (HBR.out.trans (HX.out.2.2.2.mono HBR.out.size)) (Nat.le_trans HBR.out.size HX.out.2.2.2.size) hc7 (fun z hz => by rw [List.mem_singleton.1 hz]; exact HNE.out.2)
          have H7 := hide (And.intro hE7 (And.intro hD7 (And.intro hV7 hB7)))
          have HW7 := hide hw7
          clear hw7 hc7 hE7 hD7 hV7 hB7
          go_upto_region 11 with fail
          rw [HW7.out]
          clear y0 y1 y2 y3 e0 e1 e2 e3 ef
          have k0' := HRU.out w7 H7.out.2.2.2 0 (by omega)
          have k1' := HRU.out w7 H7.out.2.2.2 1 (by omega)
          have k2' := HRU.out w7 H7.out.2.2.2 2 (by omega)
          have k3' := HRU.out w7 H7.out.2.2.2 3 (by omega)
          have k4' := HRU.out w7 H7.out.2.2.2 4 (by omega)
          have k5' := HRU.out w7 H7.out.2.2.2 5 (by omega)
          have k6' := HRU.out w7 H7.out.2.2.2 6 (by omega)
          have k7' := HRU.out w7 H7.out.2.2.2 7 (by omega)
          simp only [Cmd.cells, List.getElem?_cons_succ, List.getElem?_cons_zero, Nat.add_zero] at k0' k1' k2' k3' k4' k5' k6' k7'
          have HVC := hide (hVA.out w7 H7.out.2.2.1)
          unfold Cmd.val Cmd.cells at HVC
          simp only [] at HVC
          go_wp2_with fail
          refine HVC.out.mono ?_
          rintro e w8 ⟨z, rfl, hz, hc8, hv8⟩
          subst hz
          have hE8 := H7.out.1.chg hc8 (by simp; exact HMM.out.2.symm)
          have hD8 := H7.out.2.1.chg HX.out.2.1 hc8 (fun z hz => by rw [List.mem_singleton.1 hz]; simp)
          have hB8 : Below W.heap.size W w8 := Chg.onto H7.out.2.2.2 H7.out.2.2.2.size hc8 (fun z hz => by rw [List.mem_singleton.1 hz]; exact HSB.out)
          have HSH := hide (dshows_calls w8 sb (k + 1) [sb, ex] ⟨A4, c4, V4, B4, d4, C4, D4, e4⟩ S' hv8.vs (by omega) hD8 HVI2.out)
          unfold DV.val DV.cells at HSH
          simp only [] at HSH
          have H8 := hide (And.intro hE8 (And.intro hD8 (And.intro hv8 hB8)))
          have e0 := hE8.cell 0
          have e1 := hE8.cell 1
          have e2 := hE8.cell 2
          have e3 := hE8.cell 3
          simp only [List.getElem?_cons_succ, List.getElem?_cons_zero] at e0 e1 e2 e3
          clear hc8 hv8 hE8 hD8 hB8 k0' k1' k2' k3' k4' k5' k6' k7' HVC
          go_wp2_with fail
          refine HSH.out.mono ?_
          rintro e w9 ⟨rfl, hb9⟩
          have H9 := hide (And.intro (H8.out.1.below hb9) (And.intro (H8.out.2.1.below hb9) (And.intro (H8.out.2.2.1.below hb9) (H8.out.2.2.2.trans (hb9.mono H8.out.2.2.2.size)))))
          clear hb9 e0 e1 e2 e3 HSH
          go_wp2
          go_roundw
          case rel => exact ⟨k + 1, S', ⟨A4, c4, V4, B4, d4, C4, D4, e4⟩, by omega, by go_num, rfl, H9.out.2.2.1, HVI2.out, H9.out.2.1, HX.out.2.1, H9.out.1, H9.out.2.2.2⟩
          case measure => simp [intOf]; omega
        · skip
          rename_i hunm
          clear hunm
          obtain ⟨w6, hw6⟩ : ∃ w6, (((w5.setCell ⟨wr.heap.size, 0, none⟩ (.slice A4 16 c4)).setCell ⟨wr.heap.size, 1, none⟩ (.slice B4 V4.length d4)).setCell ⟨wr.heap.size, 2, none⟩ (.slice D4 C4.length e4)).setCell ⟨wr.heap.size, 3, none⟩ (.int .i64 S'.nx) = w6 := ⟨_, rfl⟩
          obtain ⟨by_, hby⟩ : ∃ by_, wr.heap.size = by_ := ⟨_, rfl⟩
          have hX : DM w6 [sb, ex] ⟨A4, c4, V4, B4, d4, C4, D4, e4⟩ S' ∧ OutA [sb, ex] ⟨A4, c4, V4, B4, d4, C4, D4, e4⟩ ∧ Blk w6 by_ 31 [.slice A4 16 c4, .slice B4 V4.length d4, .slice D4 C4.length e4, .int .i64 S'.nx] ∧ Below wr.heap.size wr w6 := by
            subst hw6
            subst hby
            exact plX H5.out.1 H5.out.2.1 H5.out.2.2 hb5q _ _ _ _
          have HX := hide hX
          rw [hw6, hby]
          clear hX hw6 hby hb5q hS0 hS1 x0 x1 x2 x3 rr g0 g1 g2 g3 g4 g5 g6 g7
          (try clear q0 q1 q2 q3 qf)
          have y0 := HX.out.2.2.1.cell 0
          have y1 := HX.out.2.2.1.cell 1
          have y2 := HX.out.2.2.1.cell 2
          have y3 := HX.out.2.2.1.cell 3
          have HE6 := hide (HD.out.2.2.below HX.out.2.2.2)
          have e0 := HE6.out.cell 0
          have e1 := HE6.out.cell 1
          have e2 := HE6.out.cell 2
          have e3 := HE6.out.cell 3
          have ef := HE6.out.frozen
          simp only [DV.cells, List.getElem?_cons_succ, List.getElem?_cons_zero] at y0 y1 y2 y3 e0 e1 e2 e3
          obtain ⟨w7, hw7⟩ : ∃ w7, (((w6.setCell ⟨ex, 0, none⟩ (.slice A4 16 c4)).setCell ⟨ex, 1, none⟩ (.slice B4 V4.length d4)).setCell ⟨ex, 2, none⟩ (.slice D4 C4.length e4)).setCell ⟨ex, 3, none⟩ (.int .i64 S'.nx) = w7 := ⟨_, rfl⟩
          have hc7 : Chg [ex] w6 w7 := hw7 ▸ chg4 w6 ex _ _ _ _
          have hE7 : Blk w7 ex 31 [.slice A4 16 c4, .slice B4 V4.length d4, .slice D4 C4.length e4, .int .i64 S'.nx] := hw7 ▸ (((HE6.out.set 0 (.slice A4 16 c4)).set 1 (.slice B4 V4.length d4)).set 2 (.slice D4 C4.length e4)).set 3 (.int .i64 S'.nx)
          have hD7 := HX.out.1.chg HX.out.2.1 hc7 (fun z hz => by rw [List.mem_singleton.1 hz]; simp)
          have hV7 : VSK [ex] w7 sb S k := (HVS.out.below HX.out.2.2.2).chg hc7 (fun z hz => by
            rw [List.mem_singleton.1 hz]
            exact ⟨List.mem_singleton.2 rfl, HMM.out.2.symm, _, _, HE6.out⟩)
          have hB7 : Below W.heap.size W w7 := Chg.onto (HBR.out.trans (HX.out.2.2.2.mono HBR.out.size)) (Nat.le_trans HBR.out.size HX.out.2.2.2.size) hc7 (fun z hz => by rw [List.mem_singleton.1 hz]; exact HNE.out.2)
          have H7 := hide (And.intro hE7 (And.intro hD7 (And.intro hV7 hB7)))
          have HW7 := hide hw7
          clear hw7 hc7 hE7 hD7 hV7 hB7
          go_upto_region 11 with fail
          rw [HW7.out]
          clear y0 y1 y2 y3 e0 e1 e2 e3 ef
          have k0' := HRU.out w7 H7.out.2.2.2 0 (by omega)
          have k1' := HRU.out w7 H7.out.2.2.2 1 (by omega)
          have k2' := HRU.out w7 H7.out.2.2.2 2 (by omega)
          have k3' := HRU.out w7 H7.out.2.2.2 3 (by omega)
          have k4' := HRU.out w7 H7.out.2.2.2 4 (by omega)
          have k5' := HRU.out w7 H7.out.2.2.2 5 (by omega)
          have k6' := HRU.out w7 H7.out.2.2.2 6 (by omega)
          have k7' := HRU.out w7 H7.out.2.2.2 7 (by omega)
          simp only [Cmd.cells, List.getElem?_cons_succ, List.getElem?_cons_zero, Nat.add_zero] at k0' k1' k2' k3' k4' k5' k6' k7'
          have HVC := hide (hVA.out w7 H7.out.2.2.1)
          unfold Cmd.val Cmd.cells at HVC
          simp only [] at HVC
          go_wp2_with fail
          refine HVC.out.mono ?_
          rintro e w8 ⟨z, rfl, hz, hc8, hv8⟩
          subst hz
          have hE8 := H7.out.1.chg hc8 (by simp; exact HMM.out.2.symm)
          have hD8 := H7.out.2.1.chg HX.out.2.1 hc8 (fun z hz => by rw [List.mem_singleton.1 hz]; simp)
          have hB8 : Below W.heap.size W w8 := Chg.onto H7.out.2.2.2 H7.out.2.2.2.size hc8 (fun z hz => by rw [List.mem_singleton.1 hz]; exact HSB.out)
          have HSH := hide (dshows_calls w8 sb (k + 1) [sb, ex] ⟨A4, c4, V4, B4, d4, C4, D4, e4⟩ S' hv8.vs (by omega) hD8 HVI2.out)
          unfold DV.val DV.cells at HSH
          simp only [] at HSH
          have H8 := hide (And.intro hE8 (And.intro hD8 (And.intro hv8 hB8)))
          have e0 := hE8.cell 0
          have e1 := hE8.cell 1
          have e2 := hE8.cell 2
          have e3 := hE8.cell 3
          simp only [List.getElem?_cons_succ, List.getElem?_cons_zero] at e0 e1 e2 e3
          clear hc8 hv8 hE8 hD8 hB8 k0' k1' k2' k3' k4' k5' k6' k7' HVC
          go_wp2_with fail
          refine HSH.out.mono ?_
          rintro e w9 ⟨rfl, hb9⟩
          have H9 := hide (And.intro (H8.out.1.below hb9) (And.intro (H8.out.2.1.below hb9) (And.intro (H8.out.2.2.1.below hb9) (H8.out.2.2.2.trans (hb9.mono H8.out.2.2.2.size)))))
          clear hb9 e0 e1 e2 e3 HSH
          go_wp2
          go_roundw
          case rel => exact ⟨k + 1, S', ⟨A4, c4, V4, B4, d4, C4, D4, e4⟩, by omega, by go_num, rfl, H9.out.2.2.1, HVI2.out, H9.out.2.1, HX.out.2.1, H9.out.1, H9.out.2.2.2⟩
          case measure => simp [intOf]; omega
      · have i1 : ¬ (k : Int) < cs.length := by omega
        have hf1 : fd Vo.id S.vs (-1) = none := fd_none.2 (fun v hv => by have := HVS.out.vs.ok.vsa v hv; omega)
        have hf2 : fd Ck.id S.cs 0 = none := fd_none.2 (fun c hc => by have := HVS.out.vs.ok.csa c hc; omega)
        have hVN := HVS.out.vs.volume (id := -1) (by unfold i64ok; omega)
        rw [hf1] at hVN
        have HVN := hide hVN
        have HF2 := hide hf2
        clear hf1 hf2 hVN
        go_wp2_with fail
        refine HVN.out.mono ?_
        rintro e w4 ⟨⟨⟨vid, vbl, ⟨vr, vw, vl, vb⟩, vver, vch⟩, yA, yc⟩, rfl, _, _, _, hb4⟩
        have HB4 := hide (HBR.out.trans (hb4.mono HBR.out.size))
        have HV4 := hide (HVS.out.vs.below hb4)
        clear hb4 HVN
        simp only [VoM.val, VoM.cells, Option.isSome_none]
        obtain ⟨w5, hw5⟩ : ∃ w5, w4.alloc (.cells #[.int .i64 vid, .int .i64 vbl, .int .i64 vr, .int .i64 vw, .int .i64 vl, .int .i64 vb, .int .i64 vver, .slice yA vch.length yc] 43) = w5 := ⟨_, rfl⟩
        have hb5 : Below w4.heap.size w4 w5 := hw5 ▸ (Below.refl _ _).alloc (Nat.le_refl _) _
        have HB5 := hide (HB4.out.trans (hb5.mono HB4.out.size))
        have hCN := (HV4.out.below hb5).chunk (id := 0) (by unfold i64ok; omega)
        rw [HF2.out] at hCN
        have HCN := hide hCN
        have HW5 := hide hw5
        clear hb5 hCN hw5
        go_wp2_with fail
        rw [HW5.out]
        refine HCN.out.mono ?_
        rintro e w6 ⟨⟨⟨cid, cvol, cep, cme, cjo⟩, zA, zc, zB, zd⟩, rfl, _, _, _, _, _, hb6⟩
        have HB6 := hide (HB5.out.trans (hb6.mono HB5.out.size))
        clear hb6 HCN
        simp only [CkM.val, CkM.cells, Option.isSome_none]
        go_wp2_with fail
        refine (awake18_calls _).mono ?_
        rintro e w8 ⟨rfl, hb8⟩
        have hb7 := below_al HB6.out (.cells #[.int .i64 cid, .int .i64 cvol, .int .i64 cep, .slice zA cme.length zc, .slice zB cjo.length zd] 47)
        have HF := hide (hb7.trans (hb8.mono hb7.size))
        clear hb7 hb8
        go_wp2
        go_ret
        exact ⟨rfl, HF.out⟩
end Go.Proofs.YtcgecalbgkkinaaGreat
