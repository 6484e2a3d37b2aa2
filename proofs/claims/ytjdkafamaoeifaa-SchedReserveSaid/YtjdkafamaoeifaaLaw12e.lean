/- The law SchedReserve of layer 12: for every input it answers true. No conditions. -/
import Derived.Test.YtjdkafamaoeifaaGrid
namespace Go.Proofs.Ytjdkafamaoeifaa
open Go.ChangeShapes Go.WideShapes Go.ChangeAt Go.RowKit Go.Proofs Go.Joins Go.Maps
set_option linter.unusedVariables false
set_option linter.unusedSimpArgs false

/-- the state of SchedReserve: rows for ticks below t, k picks tried at the tag T, at most m of each flow picked so far -/
structure ResSt (W w : World) (bc ba ps : Nat) (pl : List Pol) (n : Int) (C : Nat → Clk) (Q : Nat → List It) (cnt : Nat → Int) (rows : Nat → Nat → Int) (t : Nat) (T k m : Int) : Prop where
  s : Sch W [(bc, 43, cntA cnt), (ba, 44, gridA rows)] w ps (XL (pg pl) C Q pl.length)
  res : Res pl n C T k
  c : Cnt pl C cnt rows t
  q : ∀ j, j < pl.length → QOk (Q j)
  bd : ∀ j, 0 ≤ cnt j ∧ cnt j ≤ m
  rb : ∀ a j, 0 ≤ rows a j ∧ rows a j ≤ 2000
theorem QOk.ne {q : List It} (h : QOk q) : q ≠ [] := by
  intro e
  have := h.1.1
  rw [e] at this
  simp at this
theorem Res.none {pl : List Pol} {n : Int} {C : Nat → Clk} {T k : Int} (h : pl.length = 0) (k' : Int) (hr : Res pl n C T k) : Res pl n C T k' := ⟨hr.lo, Or.inr fun j hj => absurd hj (by omega)⟩
theorem admits_facts {n : Int} {pl : List Pol} (h : admits n pl = true) : (∀ j, j < pl.length → right (pg pl j).r (pg pl j).w (pg pl j).l (pg pl j).b = true) ∧ load pl ≤ n * 16777216 := by
  simp only [admits, Bool.and_eq_true] at h
  refine ⟨fun j hj => ?_, of_decide_eq_true h.2⟩
  rw [pg_get hj]
  exact List.all_eq_true.1 h.1.2 _ (List.getElem_mem hj)
theorem ResSt.start {W wr : World} {ps : Nat} {pl : List Pol} {n : Int} {C : Nat → Clk} (h : Sch W [] wr ps (XL (pg pl) C (fun _ => its 3) pl.length)) (hf : Filled pl C pl.length) :
    ResSt W ((wr.alloc (.cells (cntA fun _ => 0) 43)).alloc (.cells (gridA fun _ _ => 0) 44)) wr.heap.size (wr.heap.size + 1) ps pl n C (fun _ => its 3) (fun _ => 0) (fun _ _ => 0) 1 0 n 0 := by
  have h1 := h.new (b := wr.heap.size) (t := 43) (cs := cntA fun _ => 0) rfl
  have h2 := h1.new (b := wr.heap.size + 1) (t := 44) (cs := gridA fun _ _ => 0) (by simp)
  refine ⟨h2.sub (fun p hp => ?_), Res.start fun j hj => (hf j hj).1.2, ⟨fun a ha j hj => ?_⟩, fun j hj => QOk.its (by decide) (by decide), fun j => by simp, fun a j => by simp⟩
  · rcases List.mem_cons.1 hp with rfl | hp
    · exact List.mem_cons_of_mem _ (List.mem_cons_self ..)
    · rw [List.mem_singleton.1 hp]; exact List.mem_cons_self ..
  · have : a = 0 := by omega
    subst this
    rw [(hf j hj).1.2]
    have := space_bd (pg pl j).r
    unfold sp
    simp
    omega
theorem ResSt.row {W w : World} {bc ba ps : Nat} {pl : List Pol} {n : Int} {C : Nat → Clk} {Q : Nat → List It} {cnt : Nat → Int} {rows : Nat → Nat → Int} {t : Nat} {k m : Int} (h : ResSt W w bc ba ps pl n C Q cnt rows t (65536 * (t : Int)) k m)
    (hb : W.heap.size ≤ ba) (hne : bc ≠ ba) (ht : t < 81) (hk : n ≤ k) (hm : m ≤ 2000) :
    ResSt W ((((((w.setCell ⟨ba, t * 6, none⟩ (.int .i64 (cnt 0))).setCell ⟨ba, t * 6 + 1, none⟩ (.int .i64 (cnt 1))).setCell ⟨ba, t * 6 + 2, none⟩ (.int .i64 (cnt 2))).setCell ⟨ba, t * 6 + 3, none⟩ (.int .i64 (cnt 3))).setCell ⟨ba, t * 6 + 4, none⟩ (.int .i64 (cnt 4))).setCell ⟨ba, t * 6 + 5, none⟩ (.int .i64 (cnt 5)))
      bc ba ps pl n C Q cnt (upW rows t cnt) (t + 1) (65536 * (t : Int)) n m := by
  obtain ⟨s1, s2, s3, s4, s5, s6⟩ := h
  have hd : ∀ p ∈ [(bc, 43, cntA cnt)], p.1 ≠ ba := fun p hp => by rw [List.mem_singleton.1 hp]; exact hne
  have h1 : Sch W [(ba, 44, gridA rows), (bc, 43, cntA cnt)] w ps (XL (pg pl) C Q pl.length) := s1.sub fun p hp => by
    simp only [List.mem_cons, List.not_mem_nil, or_false] at hp ⊢
    exact hp.symm
  have h2 := (((((h1.set hb hd (t * 6) (.int .i64 (cnt 0))).set hb hd (t * 6 + 1) (.int .i64 (cnt 1))).set hb hd (t * 6 + 2) (.int .i64 (cnt 2))).set hb hd (t * 6 + 3) (.int .i64 (cnt 3))).set hb hd (t * 6 + 4) (.int .i64 (cnt 4))).set hb hd (t * 6 + 5) (.int .i64 (cnt 5))
  rw [gridA_row rows cnt ht] at h2
  refine ⟨h2.sub fun p hp => ?_, s2.more hk, s3.row s2 rfl, s4, s5, fun a j => ?_⟩
  · simp only [List.mem_cons, List.not_mem_nil, or_false] at hp ⊢
    exact hp.symm
  · by_cases e : a = t
    · subst e; rw [upW_same]; have := s5 j; omega
    · rw [upW_other e]; exact s6 a j
theorem ResSt.drewN {W w : World} {bc ba ps : Nat} {pl : List Pol} {n : Int} {C : Nat → Clk} {Q : Nat → List It} {cnt : Nat → Int} {rows : Nat → Nat → Int} {t : Nat} {T k m : Int} (h : ResSt W w bc ba ps pl n C Q cnt rows t T k m) (q : Nat) : ResSt W (w.drewN q) bc ba ps pl n C Q cnt rows t T k m :=
  ⟨h.s.drewN q, h.res, h.c, h.q, h.bd, h.rb⟩
set_option maxHeartbeats 8000000 in
set_option maxRecDepth 100000 in
/-- THE WALK of SchedReserve: whatever comes in, it answers true, and nothing that was there turns. -/
theorem schedReserve_walk {H : Type} {enc : TypeId × Value → H} (W : World) (base : Nat) (v0 v1 v2 v3 : Value) (d0 d1 d2 d3 : DataW H) (p0 p1 p2 p3 : List MemPlace)
    (ok0 : Value.okWide Try.prog W .any base 22 v0) (h0 : DataW.Trod enc Try.prog W 0 (fun _ => true) true 22 v0 d0 p0)
    (ok1 : Value.okWide Try.prog W .any base 5 v1) (h1 : DataW.Trod enc Try.prog W 0 (fun _ => true) true 5 v1 d1 p1)
    (ok2 : Value.okWide Try.prog W .any base 23 v2) (h2 : DataW.Trod enc Try.prog W 0 (fun _ => true) true 23 v2 d2 p2)
    (ok3 : Value.okWide Try.prog W .any base 5 v3) (h3 : DataW.Trod enc Try.prog W 0 (fun _ => true) true 5 v3 d3 p3) :
    Calls Try.prog 4 #[v0, v1, v2, v3] W fun e w' => e = .returned (.bool true) ∧ Below W.heap.size W w' := by
  obtain ⟨A0, c0, pl, rfl, l0, m0, R0⟩ := open_pols ok0 h0
  obtain ⟨pk, rfl, rfl, rfl, wpk⟩ := open_int Try.underlying5 ok1 h1
  obtain ⟨A2, c2, xs, rfl, l2, m2, fw, R2⟩ := open_intsR Try.underlying23 Try.underlying5 (by kernel_rfl) ok2 h2
  obtain ⟨tk, rfl, rfl, rfl, wtk⟩ := open_int Try.underlying5 ok3 h3
  clear ok0 h0 ok1 h1 ok2 h2 ok3 h3
  unfold maxLen at m0 m2
  obtain ⟨p0, p1⟩ := bounds_u8 wpk
  obtain ⟨q0, q1⟩ := bounds_u8 wtk
  obtain ⟨n, hn⟩ : ∃ n, 1 + pk % 8 = n := ⟨_, rfl⟩
  have n1 : 1 ≤ n := by omega
  have n8 : n ≤ 8 := by omega
  have HR0 := hide R0
  have HR2 := hide R2
  have HFW := hide fw
  clear R0 R2 fw
  by_cases z0 : pl.length ≤ 6
  · have hz0 : ¬ (6 < (pl.length : Int)) := by omega
    by_cases z2 : xs.length ≤ 80
    · have hz2 : ¬ (80 < (xs.length : Int)) := by omega
      have HAD := hide (rAdmits_calls n pl A0 c0 W HR0.out)
      cases had : admits n pl
      · go_enter Try.func4, Try.ntmps4
        go_wp2_with fail
        refine HAD.out.mono ?_
        rintro e w1 ⟨rfl, hb1⟩
        rw [had]
        go_wp2_with fail
        refine (awake12_calls _).mono ?_
        rintro e wa ⟨rfl, hba⟩
        go_wp2
        go_ret
        exact ⟨rfl, hb1.trans (hba.mono hb1.size)⟩
      · obtain ⟨hR, hLd⟩ := admits_facts had
        go_enter Try.func4, Try.ntmps4
        go_wp2_with fail
        refine HAD.out.mono ?_
        rintro e w1 ⟨rfl, hb1⟩
        rw [had]
        have HN := hide (snew_s ((Inv.refl W).below hb1))
        go_wp2_with fail
        refine HN.out.mono ?_
        rintro e w2 ⟨ps, rfl, h2⟩
        have H1 := hide h2
        clear h2 HN hb1 had HAD
        go_wp2_with fail
        go_loopw [11] (fun i wr => ∃ (k : Nat) (C : Nat → Clk), k ≤ pl.length ∧ i = .int .i64 k ∧ Filled pl C k ∧ (∀ j, j < k → (pg pl j).l = 0) ∧ Sch W [] wr ps (XL (pg pl) C (fun _ => its 3) k)) (fun i _ => pl.length - (intOf i).toNat)
        case atStart => exact ⟨0, fun _ => ⟨0, 0, 0⟩, by omega, rfl, fun j hj => absurd hj (by omega), fun j hj => absurd hj (by omega), H1.out⟩
        case round =>
          obtain ⟨k, C, hk, rfl, hfl, hl0, hs⟩ := hrel
          have HF := hide hfl
          have HS := hide hs
          have HL0 := hide hl0
          clear hfl hs hl0
          by_cases hlt : k < pl.length
          · obtain ⟨b, o, rfl, hbB, hcell⟩ := HR0.out.at_ (by omega)
            have hb := HS.out.base
            obtain ⟨q, hq⟩ : ∃ q, pl[k] = q := ⟨_, rfl⟩
            have hpg : pg pl k = q := by rw [pg_get hlt, hq]
            have hrt := hR k hlt
            rw [hpg] at hrt
            have d0 : wr.cell? ⟨b, o + k * 4, none⟩ = some (.int .i64 q.r) := (hb.cell (p := ⟨b, o + k * 4, none⟩) hbB).trans (by rw [← hq]; exact hcell _ _ (polCells_get pl k 0 hlt (by omega)))
            have d1 : wr.cell? ⟨b, o + k * 4 + 1, none⟩ = some (.int .i64 q.w) := (hb.cell (p := ⟨b, o + k * 4 + 1, none⟩) hbB).trans (by rw [← hq]; exact hcell _ _ (polCells_get pl k 1 hlt (by omega)))
            have d2 : wr.cell? ⟨b, o + k * 4 + 2, none⟩ = some (.int .i64 q.l) := (hb.cell (p := ⟨b, o + k * 4 + 2, none⟩) hbB).trans (by rw [← hq]; exact hcell _ _ (polCells_get pl k 2 hlt (by omega)))
            have d3 : wr.cell? ⟨b, o + k * 4 + 3, none⟩ = some (.int .i64 q.b) := (hb.cell (p := ⟨b, o + k * 4 + 3, none⟩) hbB).trans (by rw [← hq]; exact hcell _ _ (polCells_get pl k 3 hlt (by omega)))
            have i1 : (k : Int) < pl.length := by omega
            have HPG := hide hpg
            have HRT := hide hrt
            clear hcell hq hpg hrt
            obtain ⟨qr, qw, ql, qb⟩ := q
            dsimp only at d0 d1 d2 d3
            by_cases hl : ql = 0
            · subst hl
              have HC := hide (set_new_s (k : Int) 1 ⟨qr, qw, 0, qb⟩ HS.out (by rw [XL_length]; omega) XL_no (by omega) (by omega) (by decide) HRT.out)
              go_wp2_with fail
              refine HC.out.mono ?_
              rintro e w3 ⟨rfl, h3⟩
              have hlast : (XL (pg pl) C (fun _ => its 3) k ++ [(⟨(k : Int), 1, ⟨qr, qw, 0, qb⟩, ⟨0, 0, 0⟩, []⟩ : Fl)])[k]'(by simp [XL_length]) = ⟨(k : Int), 1, ⟨qr, qw, 0, qb⟩, ⟨0, 0, 0⟩, []⟩ := by
                rw [List.getElem_append_right (by simp [XL_length])]
                simp [XL_length]
              have HFILL := hide (fill_calls k ⟨(k : Int), 1, ⟨qr, qw, 0, qb⟩, ⟨0, 0, 0⟩, []⟩ (k : Int) 0 h3 (by simp [XL_length]; omega) (by simp [XL_length]) hlast rfl rfl)
              clear h3 hlast HC d0 d1 d2 d3
              go_wp2_with fail
              refine HFILL.out.mono ?_
              rintro e w4 ⟨rfl, h4⟩
              have h4' : ∃ C', Filled pl C' (k + 1) ∧ Sch W [] w4 ps (XL (pg pl) C' (fun _ => its 3) (k + 1)) := by
                refine ⟨upW C k (wake ⟨0, 0, 0⟩ (at_ 0) (leastP (XL (pg pl) C (fun _ => its 3) k ++ [(⟨(k : Int), 1, ⟨qr, qw, 0, qb⟩, ⟨0, 0, 0⟩, []⟩ : Fl)]))), fun j hj => ?_, ?_⟩
                · by_cases e : j = k
                  · subst e
                    rw [upW_same, HPG.out]
                    exact ⟨⟨rfl, rfl⟩, HRT.out⟩
                  · rw [upW_other e]
                    exact HF.out j (by omega)
                · have e : (XL (pg pl) C (fun _ => its 3) k ++ [(⟨(k : Int), 1, ⟨qr, qw, 0, qb⟩, ⟨0, 0, 0⟩, []⟩ : Fl)]).set k ⟨(k : Int), 1, ⟨qr, qw, 0, qb⟩, wake ⟨0, 0, 0⟩ (at_ 0) (leastP (XL (pg pl) C (fun _ => its 3) k ++ [(⟨(k : Int), 1, ⟨qr, qw, 0, qb⟩, ⟨0, 0, 0⟩, []⟩ : Fl)])), its 3⟩ =
                      XL (pg pl) (upW C k (wake ⟨0, 0, 0⟩ (at_ 0) (leastP (XL (pg pl) C (fun _ => its 3) k ++ [(⟨(k : Int), 1, ⟨qr, qw, 0, qb⟩, ⟨0, 0, 0⟩, []⟩ : Fl)])))) (fun _ => its 3) (k + 1) := by
                    rw [List.set_append_right _ _ (by simp [XL_length]), XL_length, Nat.sub_self, List.set_cons_zero, XL_succ]
                    congr 1
                    · exact XL_congr fun i hi => ⟨by rw [upW_other (by omega)], rfl⟩
                    · simp [fL, upW, HPG.out]
                  rw [← e]
                  exact h4
              have H4 := hide h4'
              clear h4 h4' HFILL
              go_wp2
              obtain ⟨C', g1, g2⟩ := H4.out
              go_roundw
              case rel => exact ⟨k + 1, C', by omega, by go_num, g1, fun j hj => by
                by_cases e : j = k
                · subst e; rw [HPG.out]
                · exact HL0.out j (by omega), g2⟩
              case measure => simp [intOf]; omega
            · have bI := HS.out.base
              go_wp2_with fail
              refine (awake12_calls _).mono ?_
              rintro e wa ⟨rfl, hba⟩
              go_wp2
              go_ret
              exact ⟨rfl, bI.trans (hba.mono bI.size)⟩
          · have e2 : k = pl.length := by omega
            subst e2
            have hst := ResSt.start (n := n) HS.out HF.out
            rw [grid_zero] at hst
            obtain ⟨bc, hbc⟩ : ∃ bc, wr.heap.size = bc := ⟨_, rfl⟩
            have hWc : W.heap.size ≤ bc := by rw [← hbc]; exact HS.out.base.size
            rw [hbc] at hst
            have HST := hide hst
            have HWC := hide hWc
            have HRR := hide hR
            have HLD := hide hLd
            clear HF HS hst hWc hR hLd
            go_wp2_with fail
            go_loopw [14, 15, 16, 17, 18, 19, 20, 21, 22, 23] (fun tv _ _ _ _ _ _ _ _ _ wr => ∃ (t : Nat) (C : Nat → Clk) (Q : Nat → List It) (cnt : Nat → Int) (rows : Nat → Nat → Int), 1 ≤ t ∧ (t : Int) ≤ tk % 81 + 1 ∧ tv = .int .i64 t ∧ ResSt W wr bc (bc + 1) ps pl n C Q cnt rows t (65536 * ((t : Int) - 1)) n (12 * ((t : Int) - 1))) (fun tv _ _ _ _ _ _ _ _ _ _ => 82 - (intOf tv).toNat)
            case atStart => exact ⟨1, C, _, _, _, by omega, by omega, rfl, HST.out⟩
            case round =>
              obtain ⟨t, C, Q, cnt, rows, ht1, ht2, rfl, hs⟩ := hrel
              have HS := hide hs
              clear hs HST
              by_cases htl : (t : Int) ≤ tk % 81
              · have hs2 : ResSt W wr bc (bc + 1) ps pl n C Q cnt rows t (65536 * (t : Int)) 0 (12 * ((t : Int) - 1)) := by
                  obtain ⟨s1, s2, s3, s4, s5, s6⟩ := HS.out
                  refine ⟨s1, ?_, s3, s4, s5, s6⟩
                  have := s2.next (Int.le_refl _) HLD.out
                  rw [show 65536 * ((t : Int) - 1) + 65536 = 65536 * t by omega] at this
                  exact this
                have HS2 := hide hs2
                clear hs2 HS
                by_cases htm : t < xs.length
                · obtain ⟨bA, o, rfl, hbA, hcell⟩ := HR2.out.at_ (by omega)
                  have hcx : W.cell? ⟨bA, o + t, none⟩ = some (.int .u8 xs[t]) := hcell t _ (by simp [htm])
                  have hwx := bounds_u8 (HFW.out _ (List.getElem_mem htm))
                  obtain ⟨x, hx⟩ : ∃ x, xs[t] = x := ⟨_, rfl⟩
                  rw [hx] at hcx hwx
                  obtain ⟨x0, x1⟩ := hwx
                  have hcw : wr.cell? ⟨bA, o + t, none⟩ = some (.int .u8 x) := (HS2.out.s.base.cell (p := ⟨bA, o + t, none⟩) hbA).trans hcx
                  have j1 : (t : Int) < xs.length := by omega
                  obtain ⟨K, hK⟩ : ∃ K, n + x % 4 = K := ⟨_, rfl⟩
                  have hK1 : n ≤ K := by omega
                  have hK2 : K ≤ 11 := by omega
                  clear hcell hcx hx
                  go_wp2_with fail
                  clear hK
                  go_loopw [16, 17, 18, 19, 20] (fun jv _ _ _ _ wr => ∃ (k : Nat) (C : Nat → Clk) (Q : Nat → List It) (cnt : Nat → Int), (k : Int) ≤ K ∧ jv = .int .i64 k ∧ ResSt W wr bc (bc + 1) ps pl n C Q cnt rows t (65536 * (t : Int)) k (12 * ((t : Int) - 1) + k)) (fun jv _ _ _ _ _ => 12 - (intOf jv).toNat)
                  case atStart => exact ⟨0, C, Q, cnt, by omega, rfl, by
                    have := HS2.out
                    rw [show (12 * ((t : Int) - 1)) = 12 * ((t : Int) - 1) + ((0 : Nat) : Int) by omega] at this
                    exact this⟩
                  case round =>
                    obtain ⟨k, C, Q, cnt, hk, rfl, hs⟩ := hrel
                    have HS3 := hide hs
                    clear hs HS2
                    by_cases hkl : (k : Int) < K
                    · have HPK := hide (pick_s (t : Int) HS3.out.s (by rw [XL_length]; omega))
                      go_wp2_with fail
                      refine HPK.out.mono ?_
                      rintro e w3 (⟨rfl, hnone, h3⟩ | ⟨i, phase, f, y, rest, hp, ⟨hi, hf⟩, hqf, rfl, h3⟩)
                      · have h4 : ResSt W (w3.alloc (.cells #[.int .i64 0, .int .i64 0, .int .i64 0] 36)) bc (bc + 1) ps pl n C Q cnt rows t (65536 * (t : Int)) ((k + 1 : Nat) : Int) (12 * ((t : Int) - 1) + ((k + 1 : Nat) : Int)) := by
                          obtain ⟨s1, s2, s3, s4, s5, s6⟩ := HS3.out
                          have hz := none_up (pl := pl) (C := C) (Q := Q) hnone (fun j hj => (s4 j hj).ne) HRR.out HL0.out
                          exact ⟨h3.alloc _, s2.none hz _, s3, s4, fun j => by have := s5 j; omega, s6⟩
                        have H4 := hide h4
                        clear h3 h4 HPK hnone
                        go_wp2
                        go_roundw
                        case rel => exact ⟨k + 1, C, Q, cnt, by omega, by go_num, H4.out⟩
                        case measure => simp [intOf]; omega
                      · have hin : i < pl.length := by rw [XL_length] at hi; exact hi
                        have hi6 : i < 6 := by omega
                        rw [XL_get] at hf
                        subst hf
                        have hqi : Q i = y :: rest := hqf
                        have hst := (HS3.out.q i hin).step hqi
                        have hat : at_ (t : Int) = 65536 * (t : Int) := at_small (by omega) (by omega)
                        have hp' : Picks (XL (pg pl) C Q pl.length) (65536 * (t : Int)) i phase := by rw [← hat]; exact hp
                        obtain ⟨g1, g2, _⟩ := HS3.out.res.pick (by omega) hin hp' hst.2.2.2.1 hst.2.2.2.2 (fun j hj => (HS3.out.q j hj).ne) HRR.out HL0.out
                        have h4 : Sch W [(bc, 43, cntA cnt), (bc + 1, 44, gridA rows)] w3 ps (XL (pg pl) (upW C i (charge (pg pl i) (C i) (65536 * (t : Int)) phase y.delta y.rho)) (upW Q i rest) pl.length) := by
                          rw [← XL_set, ← hat]; exact h3
                        have d0 : w3.cell? ⟨bc, i, none⟩ = some (.int .i64 (cnt i)) := (h4.inv.cell (List.Mem.head _) i).trans (cntA_get cnt hi6)
                        have d1 : w3.frozen? ⟨bc, i, none⟩ = false := h4.inv.frozen (List.Mem.head _) i
                        have hbl : bc < w3.heap.size := h4.inv.lt (List.Mem.head _)
                        have hcb := HS3.out.bd i
                        have hcw1 : IntKind.i64.wrap (cnt i + 1) = cnt i + 1 := IntWalk.i64_in _ (by omega)
                        have h6 : Sch W [(bc, 43, cntA (upW cnt i (cnt i + 1))), (bc + 1, 44, gridA rows)] ((w3.setCell ⟨bc, i, none⟩ (.int .i64 (cnt i + 1))).alloc (.cells #[.int .i64 y.name, .int .i64 y.delta, .int .i64 y.rho] 36)) ps (XL (pg pl) (upW C i (charge (pg pl i) (C i) (65536 * (t : Int)) phase y.delta y.rho)) (upW Q i rest) pl.length) := by
                          have := h4.set HWC.out (by simp) i (.int .i64 (cnt i + 1))
                          rw [cntA_set cnt hi6] at this
                          exact this.alloc _
                        have HPU := hide (push_more_s i ⟨(i : Int), 1, pg pl i, charge (pg pl i) (C i) (65536 * (t : Int)) phase y.delta y.rho, rest⟩ (i : Int) (t : Int) ⟨0, 0, 0⟩ h6 (by rw [XL_length]; omega) (by rw [XL_length]; exact hin) (by rw [XL_get]; simp [fL, upW]) rfl hst.2.1 hst.2.2.1)
                        have HST := hide hst
                        have HG := hide (And.intro g1 g2)
                        have i6 : (i : Int) < 6 := by omega
                        have nb1 : ¬ (bc = w3.heap.size) := by omega
                        have nb2 : ¬ (w3.heap.size = bc) := by omega
                        rw [show (fL (pg pl) C Q i).id = (i : Int) from rfl]
                        clear h4 h6 hst g1 g2 hp hp' hi hqf h3 HPK hqi hcb
                        go_wp2_with fail
                        refine HPU.out.mono ?_
                        rintro e w7 ⟨rfl, h7⟩
                        have h7' : ResSt W w7 bc (bc + 1) ps pl n (upW C i (charge (pg pl i) (C i) (65536 * (t : Int)) phase y.delta y.rho)) (upW Q i (rest ++ [⟨0, 0, 0⟩])) (upW cnt i (cnt i + 1)) rows t (65536 * (t : Int)) ((k + 1 : Nat) : Int) (12 * ((t : Int) - 1) + ((k + 1 : Nat) : Int)) := by
                          have e1 := XL_set (p := pg pl) (C := upW C i (charge (pg pl i) (C i) (65536 * (t : Int)) phase y.delta y.rho)) (Q := upW Q i rest) (n := pl.length) (j := i) (charge (pg pl i) (C i) (65536 * (t : Int)) phase y.delta y.rho) (rest ++ [⟨0, 0, 0⟩])
                          have e2 : XL (pg pl) (upW (upW C i (charge (pg pl i) (C i) (65536 * (t : Int)) phase y.delta y.rho)) i (charge (pg pl i) (C i) (65536 * (t : Int)) phase y.delta y.rho)) (upW (upW Q i rest) i (rest ++ [⟨0, 0, 0⟩])) pl.length = XL (pg pl) (upW C i (charge (pg pl i) (C i) (65536 * (t : Int)) phase y.delta y.rho)) (upW Q i (rest ++ [⟨0, 0, 0⟩])) pl.length :=
                            XL_congr fun a ha => by
                              by_cases e : a = i
                              · subst e; simp [upW]
                              · simp [upW, e]
                          rw [e1, e2] at h7
                          obtain ⟨s1, s2, s3, s4, s5, s6⟩ := HS3.out
                          refine ⟨h7, HG.out.1, s3.pick HG.out.2, fun j hj => ?_, fun j => ?_, s6⟩
                          · by_cases e : j = i
                            · subst e; rw [upW_same]; exact HST.out.1
                            · rw [upW_other e]; exact s4 j hj
                          · by_cases e : j = i
                            · subst e; rw [upW_same]; have := s5 j; omega
                            · rw [upW_other e]; have := s5 j; omega
                        have H7 := hide h7'
                        clear h7 h7' HPU
                        go_wp2
                        go_roundw
                        case rel => exact ⟨k + 1, _, _, _, by omega, by go_num, H7.out⟩
                        case measure => simp [intOf]; omega
                    · have e9 : (k : Int) = K := by omega
                      have hsz : bc + 1 < wr.heap.size := HS3.out.s.inv.lt (List.Mem.tail _ (List.Mem.head _))
                      have k0 : wr.cell? ⟨bc, 0, none⟩ = some (.int .i64 (cnt 0)) := HS3.out.s.inv.cell (List.Mem.head _) 0
                      have k1 : wr.cell? ⟨bc, 1, none⟩ = some (.int .i64 (cnt 1)) := HS3.out.s.inv.cell (List.Mem.head _) 1
                      have k2 : wr.cell? ⟨bc, 2, none⟩ = some (.int .i64 (cnt 2)) := HS3.out.s.inv.cell (List.Mem.head _) 2
                      have k3 : wr.cell? ⟨bc, 3, none⟩ = some (.int .i64 (cnt 3)) := HS3.out.s.inv.cell (List.Mem.head _) 3
                      have k4 : wr.cell? ⟨bc, 4, none⟩ = some (.int .i64 (cnt 4)) := HS3.out.s.inv.cell (List.Mem.head _) 4
                      have k5 : wr.cell? ⟨bc, 5, none⟩ = some (.int .i64 (cnt 5)) := HS3.out.s.inv.cell (List.Mem.head _) 5
                      have htn : t < 81 := by omega
                      have t81 : (t : Int) < 81 := by omega
                      have g0 : wr.cell? ⟨bc + 1, t * 6, none⟩ = some (.int .i64 (rows t 0)) := (HS3.out.s.inv.cell (List.Mem.tail _ (List.Mem.head _)) (t * 6)).trans (gridA_get rows htn (by decide : 0 < 6))
                      have g1 : wr.cell? ⟨bc + 1, t * 6 + 1, none⟩ = some (.int .i64 (rows t 1)) := (HS3.out.s.inv.cell (List.Mem.tail _ (List.Mem.head _)) (t * 6 + 1)).trans (gridA_get rows htn (by decide : 1 < 6))
                      have g2 : wr.cell? ⟨bc + 1, t * 6 + 2, none⟩ = some (.int .i64 (rows t 2)) := (HS3.out.s.inv.cell (List.Mem.tail _ (List.Mem.head _)) (t * 6 + 2)).trans (gridA_get rows htn (by decide : 2 < 6))
                      have g3 : wr.cell? ⟨bc + 1, t * 6 + 3, none⟩ = some (.int .i64 (rows t 3)) := (HS3.out.s.inv.cell (List.Mem.tail _ (List.Mem.head _)) (t * 6 + 3)).trans (gridA_get rows htn (by decide : 3 < 6))
                      have g4 : wr.cell? ⟨bc + 1, t * 6 + 4, none⟩ = some (.int .i64 (rows t 4)) := (HS3.out.s.inv.cell (List.Mem.tail _ (List.Mem.head _)) (t * 6 + 4)).trans (gridA_get rows htn (by decide : 4 < 6))
                      have g5 : wr.cell? ⟨bc + 1, t * 6 + 5, none⟩ = some (.int .i64 (rows t 5)) := (HS3.out.s.inv.cell (List.Mem.tail _ (List.Mem.head _)) (t * 6 + 5)).trans (gridA_get rows htn (by decide : 5 < 6))
                      have y0 : wr.frozen? ⟨bc + 1, t * 6, none⟩ = false := HS3.out.s.inv.frozen (List.Mem.tail _ (List.Mem.head _)) _
                      have y1 : wr.frozen? ⟨bc + 1, t * 6 + 1, none⟩ = false := HS3.out.s.inv.frozen (List.Mem.tail _ (List.Mem.head _)) _
                      have y2 : wr.frozen? ⟨bc + 1, t * 6 + 2, none⟩ = false := HS3.out.s.inv.frozen (List.Mem.tail _ (List.Mem.head _)) _
                      have y3 : wr.frozen? ⟨bc + 1, t * 6 + 3, none⟩ = false := HS3.out.s.inv.frozen (List.Mem.tail _ (List.Mem.head _)) _
                      have y4 : wr.frozen? ⟨bc + 1, t * 6 + 4, none⟩ = false := HS3.out.s.inv.frozen (List.Mem.tail _ (List.Mem.head _)) _
                      have y5 : wr.frozen? ⟨bc + 1, t * 6 + 5, none⟩ = false := HS3.out.s.inv.frozen (List.Mem.tail _ (List.Mem.head _)) _
                      go_wp2_with fail
                      have hrow := HS3.out.row (by have := HWC.out; omega) (by omega) htn (by omega) (by omega)
                      obtain ⟨wx, hwx⟩ : ∃ wx, ((((((wr.setCell ⟨bc + 1, t * 6, none⟩ (.int .i64 (cnt 0))).setCell ⟨bc + 1, t * 6 + 1, none⟩ (.int .i64 (cnt 1))).setCell ⟨bc + 1, t * 6 + 2, none⟩ (.int .i64 (cnt 2))).setCell ⟨bc + 1, t * 6 + 3, none⟩ (.int .i64 (cnt 3))).setCell ⟨bc + 1, t * 6 + 4, none⟩ (.int .i64 (cnt 4))).setCell ⟨bc + 1, t * 6 + 5, none⟩ (.int .i64 (cnt 5))) = wx := ⟨_, rfl⟩
                      rw [hwx] at hrow
                      rw [hwx]
                      have HRES := hide HS3.out.res
                      have HCNT := hide HS3.out.c
                      have HBD := hide HS3.out.bd
                      have HRB := hide HS3.out.rb
                      have HROW := hide hrow
                      have hkn : n ≤ (k : Int) := by omega
                      have HKN := hide hkn
                      clear k0 k1 k2 k3 k4 k5 g0 g1 g2 g3 g4 g5 y0 y1 y2 y3 y4 y5 hrow hwx hsz HS3 hkn
                      go_loopw [21, 22, 23] (fun iv _ _ w4 => ∃ i q : Nat, i ≤ pl.length ∧ iv = .int .i64 i ∧ w4 = wx.drewN q) (fun iv _ _ _ => pl.length - (intOf iv).toNat)
                      case atStart => exact ⟨0, 0, by omega, rfl, rfl⟩
                      case round =>
                        obtain ⟨i, q0, hi, rfl, rfl⟩ := hrel
                        by_cases hil : i < pl.length
                        · obtain ⟨b0, o0, rfl, hb0, hcell0⟩ := HR0.out.at_ (by omega)
                          have hbs := HROW.out.s.base
                          have hi6 : i < 6 := by omega
                          have i6 : (i : Int) < 6 := by omega
                          obtain ⟨P, hP⟩ : ∃ P, pg pl i = P := ⟨_, rfl⟩
                          have hP2 : pl[i] = P := by rw [← hP, pg_get hil]
                          have d2 : wx.cell? ⟨b0, o0 + i * 4, none⟩ = some (.int .i64 P.r) := (hbs.cell (p := ⟨b0, o0 + i * 4, none⟩) hb0).trans (by rw [← hP2]; exact hcell0 _ _ (polCells_get pl i 0 hil (by omega)))
                          have hrt := HRR.out i hil
                          rw [hP] at hrt
                          have r2 := right_iff.1 hrt
                          have sb := space_bd P.r
                          have i1 : (i : Int) < pl.length := by omega
                          have ci : wx.cell? ⟨bc + 1, t * 6 + i, none⟩ = some (.int .i64 (cnt i)) := by
                            have := (HROW.out.s.inv.cell (List.Mem.tail _ (List.Mem.head _)) (t * 6 + i)).trans (gridA_get (upW rows t cnt) htn hi6)
                            rw [upW_same] at this
                            exact this
                          have cb := HBD.out i
                          have HHP := hide hP
                          clear hcell0 hP hP2 hrt
                          go_wp2_with fail
                          with_reducible refine (rSpace_calls _ _).mono ?_
                          rintro e w5 ⟨rfl, rfl⟩
                          by_cases hw : 0 < space P.r
                          · have hr1 : 1 ≤ P.r := by
                              rcases Int.lt_or_le 0 P.r with h | h
                              · omega
                              · rw [space_zero h] at hw; omega
                            go_wp2_with fail
                            go_loopw [23] (fun av w4 => ∃ a q : Nat, a ≤ t ∧ av = .int .i64 a ∧ w4 = wx.drewN q) (fun av _ => t - (intOf av).toNat)
                            case atStart => exact ⟨0, q0, by omega, rfl, rfl⟩
                            case round =>
                              obtain ⟨a, q1, ha, rfl, rfl⟩ := hrel
                              by_cases hal : a < t
                              · have i2 : (a : Int) < t := by omega
                                have a81 : (a : Int) < 81 := by omega
                                have ca : wx.cell? ⟨bc + 1, a * 6 + i, none⟩ = some (.int .i64 (rows a i)) := by
                                  have := (HROW.out.s.inv.cell (List.Mem.tail _ (List.Mem.head _)) (a * 6 + i)).trans (gridA_get (upW rows t cnt) (show a < 81 by omega) hi6)
                                  rw [upW_other (by omega)] at this
                                  exact this
                                have rb := HRB.out a i
                                have hok := HCNT.out.ok HRES.out HKN.out rfl z0 hal hil (by rw [HHP.out]; exact hr1) (by rw [HHP.out]; omega)
                                rw [show sp pl i = space P.r by unfold sp; rw [HHP.out]] at hok
                                have hn0 : 0 ≤ 65536 * ((t : Int) - a) := by omega
                                have q0' : 0 ≤ 65536 * ((t : Int) - a) / space P.r := Int.ediv_nonneg hn0 (by omega)
                                have q1' : 65536 * ((t : Int) - a) / space P.r ≤ 65536 * ((t : Int) - a) := Int.ediv_le_self _ hn0
                                have hz : (space P.r == 0) = false := by simp; omega
                                have e1 : IntKind.i64.wrap (cnt i - rows a i) = cnt i - rows a i := IntWalk.i64_in _ (by omega)
                                have e3 : IntKind.i64.wrap ((t : Int) - a) = (t : Int) - a := IntWalk.i64_in _ (by omega)
                                have e4 : IntKind.i64.wrap (65536 * ((t : Int) - a)) = 65536 * ((t : Int) - a) := IntWalk.i64_in _ (by omega)
                                have e5 : (65536 * ((t : Int) - a)).tdiv (space P.r) = 65536 * ((t : Int) - a) / space P.r := Int.tdiv_eq_ediv_of_nonneg hn0
                                have e6 : IntKind.i64.wrap (65536 * ((t : Int) - a) / space P.r) = 65536 * ((t : Int) - a) / space P.r := IntWalk.i64_in _ (by omega)
                                have e7 : IntKind.i64.wrap (65536 * ((t : Int) - a) / space P.r - pl.length) = 65536 * ((t : Int) - a) / space P.r - pl.length := IntWalk.i64_in _ (by omega)
                                have e8 : IntKind.i64.wrap (65536 * ((t : Int) - a) / space P.r - pl.length - 3) = 65536 * ((t : Int) - a) / space P.r - pl.length - 3 := IntWalk.i64_in _ (by omega)
                                have hd : ¬ (cnt i - rows a i < 65536 * ((t : Int) - a) / space P.r - pl.length - 3) := by omega
                                clear hok
                                go_wp2_with fail
                                go_quiet (fail)
                                clear e1 e3 e4 e5 e6 e7 e8
                                go_wp2
                                go_roundw
                                case rel => exact ⟨a + 1, _, by omega, by go_num, rfl⟩
                                case measure => simp [intOf]; omega
                              · have e : a = t := by omega
                                subst e
                                go_wp2
                                go_roundw
                                case rel => exact ⟨i + 1, q1, by omega, by go_num, rfl⟩
                                case measure => simp [intOf]; omega
                          · have t0 : (0 : Int) < t := by omega
                            go_wp2_with fail
                            go_loopw [23] (fun av w4 => av = .int .i64 0 ∧ w4 = wx.drewN q0) (fun _ _ => 0)
                            case atStart => exact ⟨rfl, rfl⟩
                            case round =>
                              obtain ⟨rfl, rfl⟩ := hrel
                              go_wp2
                              go_roundw
                              case rel => exact ⟨i + 1, q0, by omega, by go_num, rfl⟩
                              case measure => simp [intOf]; omega
                        · have e6 : i = pl.length := by omega
                          subst e6
                          have HFIN := hide (HROW.out.drewN q0)
                          clear HROW HRES HCNT HBD HRB
                          go_wp2
                          go_roundw
                          case rel => exact ⟨t + 1, C, Q, cnt, _, by omega, by omega, by go_num, by
                            have := HFIN.out
                            obtain ⟨s1, s2, s3, s4, s5, s6⟩ := this
                            exact ⟨s1, by rw [show ((t + 1 : Nat) : Int) - 1 = t by omega]; exact s2, s3, s4, fun j => by have := s5 j; omega, s6⟩⟩
                          case measure => simp [intOf]; omega
                · have j1 : ¬ ((t : Int) < xs.length) := by omega
                  have hK1 : n ≤ n := by omega
                  have hK2 : n ≤ 11 := by omega
                  go_wp2_with fail
                  go_loopw [16, 17, 18, 19, 20] (fun jv _ _ _ _ wr => ∃ (k : Nat) (C : Nat → Clk) (Q : Nat → List It) (cnt : Nat → Int), (k : Int) ≤ n ∧ jv = .int .i64 k ∧ ResSt W wr bc (bc + 1) ps pl n C Q cnt rows t (65536 * (t : Int)) k (12 * ((t : Int) - 1) + k)) (fun jv _ _ _ _ _ => 12 - (intOf jv).toNat)
                  case atStart => exact ⟨0, C, Q, cnt, by omega, rfl, by
                    have := HS2.out
                    rw [show (12 * ((t : Int) - 1)) = 12 * ((t : Int) - 1) + ((0 : Nat) : Int) by omega] at this
                    exact this⟩
                  case round =>
                    obtain ⟨k, C, Q, cnt, hk, rfl, hs⟩ := hrel
                    have HS3 := hide hs
                    clear hs HS2
                    by_cases hkl : (k : Int) < n
                    · have HPK := hide (pick_s (t : Int) HS3.out.s (by rw [XL_length]; omega))
                      go_wp2_with fail
                      refine HPK.out.mono ?_
                      rintro e w3 (⟨rfl, hnone, h3⟩ | ⟨i, phase, f, y, rest, hp, ⟨hi, hf⟩, hqf, rfl, h3⟩)
                      · have h4 : ResSt W (w3.alloc (.cells #[.int .i64 0, .int .i64 0, .int .i64 0] 36)) bc (bc + 1) ps pl n C Q cnt rows t (65536 * (t : Int)) ((k + 1 : Nat) : Int) (12 * ((t : Int) - 1) + ((k + 1 : Nat) : Int)) := by
                          obtain ⟨s1, s2, s3, s4, s5, s6⟩ := HS3.out
                          have hz := none_up (pl := pl) (C := C) (Q := Q) hnone (fun j hj => (s4 j hj).ne) HRR.out HL0.out
                          exact ⟨h3.alloc _, s2.none hz _, s3, s4, fun j => by have := s5 j; omega, s6⟩
                        have H4 := hide h4
                        clear h3 h4 HPK hnone
                        go_wp2
                        go_roundw
                        case rel => exact ⟨k + 1, C, Q, cnt, by omega, by go_num, H4.out⟩
                        case measure => simp [intOf]; omega
                      · have hin : i < pl.length := by rw [XL_length] at hi; exact hi
                        have hi6 : i < 6 := by omega
                        rw [XL_get] at hf
                        subst hf
                        have hqi : Q i = y :: rest := hqf
                        have hst := (HS3.out.q i hin).step hqi
                        have hat : at_ (t : Int) = 65536 * (t : Int) := at_small (by omega) (by omega)
                        have hp' : Picks (XL (pg pl) C Q pl.length) (65536 * (t : Int)) i phase := by rw [← hat]; exact hp
                        obtain ⟨g1, g2, _⟩ := HS3.out.res.pick (by omega) hin hp' hst.2.2.2.1 hst.2.2.2.2 (fun j hj => (HS3.out.q j hj).ne) HRR.out HL0.out
                        have h4 : Sch W [(bc, 43, cntA cnt), (bc + 1, 44, gridA rows)] w3 ps (XL (pg pl) (upW C i (charge (pg pl i) (C i) (65536 * (t : Int)) phase y.delta y.rho)) (upW Q i rest) pl.length) := by
                          rw [← XL_set, ← hat]; exact h3
                        have d0 : w3.cell? ⟨bc, i, none⟩ = some (.int .i64 (cnt i)) := (h4.inv.cell (List.Mem.head _) i).trans (cntA_get cnt hi6)
                        have d1 : w3.frozen? ⟨bc, i, none⟩ = false := h4.inv.frozen (List.Mem.head _) i
                        have hbl : bc < w3.heap.size := h4.inv.lt (List.Mem.head _)
                        have hcb := HS3.out.bd i
                        have hcw1 : IntKind.i64.wrap (cnt i + 1) = cnt i + 1 := IntWalk.i64_in _ (by omega)
                        have h6 : Sch W [(bc, 43, cntA (upW cnt i (cnt i + 1))), (bc + 1, 44, gridA rows)] ((w3.setCell ⟨bc, i, none⟩ (.int .i64 (cnt i + 1))).alloc (.cells #[.int .i64 y.name, .int .i64 y.delta, .int .i64 y.rho] 36)) ps (XL (pg pl) (upW C i (charge (pg pl i) (C i) (65536 * (t : Int)) phase y.delta y.rho)) (upW Q i rest) pl.length) := by
                          have := h4.set HWC.out (by simp) i (.int .i64 (cnt i + 1))
                          rw [cntA_set cnt hi6] at this
                          exact this.alloc _
                        have HPU := hide (push_more_s i ⟨(i : Int), 1, pg pl i, charge (pg pl i) (C i) (65536 * (t : Int)) phase y.delta y.rho, rest⟩ (i : Int) (t : Int) ⟨0, 0, 0⟩ h6 (by rw [XL_length]; omega) (by rw [XL_length]; exact hin) (by rw [XL_get]; simp [fL, upW]) rfl hst.2.1 hst.2.2.1)
                        have HST := hide hst
                        have HG := hide (And.intro g1 g2)
                        have i6 : (i : Int) < 6 := by omega
                        have nb1 : ¬ (bc = w3.heap.size) := by omega
                        have nb2 : ¬ (w3.heap.size = bc) := by omega
                        rw [show (fL (pg pl) C Q i).id = (i : Int) from rfl]
                        clear h4 h6 hst g1 g2 hp hp' hi hqf h3 HPK hqi hcb
                        go_wp2_with fail
                        refine HPU.out.mono ?_
                        rintro e w7 ⟨rfl, h7⟩
                        have h7' : ResSt W w7 bc (bc + 1) ps pl n (upW C i (charge (pg pl i) (C i) (65536 * (t : Int)) phase y.delta y.rho)) (upW Q i (rest ++ [⟨0, 0, 0⟩])) (upW cnt i (cnt i + 1)) rows t (65536 * (t : Int)) ((k + 1 : Nat) : Int) (12 * ((t : Int) - 1) + ((k + 1 : Nat) : Int)) := by
                          have e1 := XL_set (p := pg pl) (C := upW C i (charge (pg pl i) (C i) (65536 * (t : Int)) phase y.delta y.rho)) (Q := upW Q i rest) (n := pl.length) (j := i) (charge (pg pl i) (C i) (65536 * (t : Int)) phase y.delta y.rho) (rest ++ [⟨0, 0, 0⟩])
                          have e2 : XL (pg pl) (upW (upW C i (charge (pg pl i) (C i) (65536 * (t : Int)) phase y.delta y.rho)) i (charge (pg pl i) (C i) (65536 * (t : Int)) phase y.delta y.rho)) (upW (upW Q i rest) i (rest ++ [⟨0, 0, 0⟩])) pl.length = XL (pg pl) (upW C i (charge (pg pl i) (C i) (65536 * (t : Int)) phase y.delta y.rho)) (upW Q i (rest ++ [⟨0, 0, 0⟩])) pl.length :=
                            XL_congr fun a ha => by
                              by_cases e : a = i
                              · subst e; simp [upW]
                              · simp [upW, e]
                          rw [e1, e2] at h7
                          obtain ⟨s1, s2, s3, s4, s5, s6⟩ := HS3.out
                          refine ⟨h7, HG.out.1, s3.pick HG.out.2, fun j hj => ?_, fun j => ?_, s6⟩
                          · by_cases e : j = i
                            · subst e; rw [upW_same]; exact HST.out.1
                            · rw [upW_other e]; exact s4 j hj
                          · by_cases e : j = i
                            · subst e; rw [upW_same]; have := s5 j; omega
                            · rw [upW_other e]; have := s5 j; omega
                        have H7 := hide h7'
                        clear h7 h7' HPU
                        go_wp2
                        go_roundw
                        case rel => exact ⟨k + 1, _, _, _, by omega, by go_num, H7.out⟩
                        case measure => simp [intOf]; omega
                    · have e9 : (k : Int) = n := by omega
                      have hsz : bc + 1 < wr.heap.size := HS3.out.s.inv.lt (List.Mem.tail _ (List.Mem.head _))
                      have k0 : wr.cell? ⟨bc, 0, none⟩ = some (.int .i64 (cnt 0)) := HS3.out.s.inv.cell (List.Mem.head _) 0
                      have k1 : wr.cell? ⟨bc, 1, none⟩ = some (.int .i64 (cnt 1)) := HS3.out.s.inv.cell (List.Mem.head _) 1
                      have k2 : wr.cell? ⟨bc, 2, none⟩ = some (.int .i64 (cnt 2)) := HS3.out.s.inv.cell (List.Mem.head _) 2
                      have k3 : wr.cell? ⟨bc, 3, none⟩ = some (.int .i64 (cnt 3)) := HS3.out.s.inv.cell (List.Mem.head _) 3
                      have k4 : wr.cell? ⟨bc, 4, none⟩ = some (.int .i64 (cnt 4)) := HS3.out.s.inv.cell (List.Mem.head _) 4
                      have k5 : wr.cell? ⟨bc, 5, none⟩ = some (.int .i64 (cnt 5)) := HS3.out.s.inv.cell (List.Mem.head _) 5
                      have htn : t < 81 := by omega
                      have t81 : (t : Int) < 81 := by omega
                      have g0 : wr.cell? ⟨bc + 1, t * 6, none⟩ = some (.int .i64 (rows t 0)) := (HS3.out.s.inv.cell (List.Mem.tail _ (List.Mem.head _)) (t * 6)).trans (gridA_get rows htn (by decide : 0 < 6))
                      have g1 : wr.cell? ⟨bc + 1, t * 6 + 1, none⟩ = some (.int .i64 (rows t 1)) := (HS3.out.s.inv.cell (List.Mem.tail _ (List.Mem.head _)) (t * 6 + 1)).trans (gridA_get rows htn (by decide : 1 < 6))
                      have g2 : wr.cell? ⟨bc + 1, t * 6 + 2, none⟩ = some (.int .i64 (rows t 2)) := (HS3.out.s.inv.cell (List.Mem.tail _ (List.Mem.head _)) (t * 6 + 2)).trans (gridA_get rows htn (by decide : 2 < 6))
                      have g3 : wr.cell? ⟨bc + 1, t * 6 + 3, none⟩ = some (.int .i64 (rows t 3)) := (HS3.out.s.inv.cell (List.Mem.tail _ (List.Mem.head _)) (t * 6 + 3)).trans (gridA_get rows htn (by decide : 3 < 6))
                      have g4 : wr.cell? ⟨bc + 1, t * 6 + 4, none⟩ = some (.int .i64 (rows t 4)) := (HS3.out.s.inv.cell (List.Mem.tail _ (List.Mem.head _)) (t * 6 + 4)).trans (gridA_get rows htn (by decide : 4 < 6))
                      have g5 : wr.cell? ⟨bc + 1, t * 6 + 5, none⟩ = some (.int .i64 (rows t 5)) := (HS3.out.s.inv.cell (List.Mem.tail _ (List.Mem.head _)) (t * 6 + 5)).trans (gridA_get rows htn (by decide : 5 < 6))
                      have y0 : wr.frozen? ⟨bc + 1, t * 6, none⟩ = false := HS3.out.s.inv.frozen (List.Mem.tail _ (List.Mem.head _)) _
                      have y1 : wr.frozen? ⟨bc + 1, t * 6 + 1, none⟩ = false := HS3.out.s.inv.frozen (List.Mem.tail _ (List.Mem.head _)) _
                      have y2 : wr.frozen? ⟨bc + 1, t * 6 + 2, none⟩ = false := HS3.out.s.inv.frozen (List.Mem.tail _ (List.Mem.head _)) _
                      have y3 : wr.frozen? ⟨bc + 1, t * 6 + 3, none⟩ = false := HS3.out.s.inv.frozen (List.Mem.tail _ (List.Mem.head _)) _
                      have y4 : wr.frozen? ⟨bc + 1, t * 6 + 4, none⟩ = false := HS3.out.s.inv.frozen (List.Mem.tail _ (List.Mem.head _)) _
                      have y5 : wr.frozen? ⟨bc + 1, t * 6 + 5, none⟩ = false := HS3.out.s.inv.frozen (List.Mem.tail _ (List.Mem.head _)) _
                      go_wp2_with fail
                      have hrow := HS3.out.row (by have := HWC.out; omega) (by omega) htn (by omega) (by omega)
                      obtain ⟨wx, hwx⟩ : ∃ wx, ((((((wr.setCell ⟨bc + 1, t * 6, none⟩ (.int .i64 (cnt 0))).setCell ⟨bc + 1, t * 6 + 1, none⟩ (.int .i64 (cnt 1))).setCell ⟨bc + 1, t * 6 + 2, none⟩ (.int .i64 (cnt 2))).setCell ⟨bc + 1, t * 6 + 3, none⟩ (.int .i64 (cnt 3))).setCell ⟨bc + 1, t * 6 + 4, none⟩ (.int .i64 (cnt 4))).setCell ⟨bc + 1, t * 6 + 5, none⟩ (.int .i64 (cnt 5))) = wx := ⟨_, rfl⟩
                      rw [hwx] at hrow
                      rw [hwx]
                      have HRES := hide HS3.out.res
                      have HCNT := hide HS3.out.c
                      have HBD := hide HS3.out.bd
                      have HRB := hide HS3.out.rb
                      have HROW := hide hrow
                      have hkn : n ≤ (k : Int) := by omega
                      have HKN := hide hkn
                      clear k0 k1 k2 k3 k4 k5 g0 g1 g2 g3 g4 g5 y0 y1 y2 y3 y4 y5 hrow hwx hsz HS3 hkn
                      go_loopw [21, 22, 23] (fun iv _ _ w4 => ∃ i q : Nat, i ≤ pl.length ∧ iv = .int .i64 i ∧ w4 = wx.drewN q) (fun iv _ _ _ => pl.length - (intOf iv).toNat)
                      case atStart => exact ⟨0, 0, by omega, rfl, rfl⟩
                      case round =>
                        obtain ⟨i, q0, hi, rfl, rfl⟩ := hrel
                        by_cases hil : i < pl.length
                        · obtain ⟨b0, o0, rfl, hb0, hcell0⟩ := HR0.out.at_ (by omega)
                          have hbs := HROW.out.s.base
                          have hi6 : i < 6 := by omega
                          have i6 : (i : Int) < 6 := by omega
                          obtain ⟨P, hP⟩ : ∃ P, pg pl i = P := ⟨_, rfl⟩
                          have hP2 : pl[i] = P := by rw [← hP, pg_get hil]
                          have d2 : wx.cell? ⟨b0, o0 + i * 4, none⟩ = some (.int .i64 P.r) := (hbs.cell (p := ⟨b0, o0 + i * 4, none⟩) hb0).trans (by rw [← hP2]; exact hcell0 _ _ (polCells_get pl i 0 hil (by omega)))
                          have hrt := HRR.out i hil
                          rw [hP] at hrt
                          have r2 := right_iff.1 hrt
                          have sb := space_bd P.r
                          have i1 : (i : Int) < pl.length := by omega
                          have ci : wx.cell? ⟨bc + 1, t * 6 + i, none⟩ = some (.int .i64 (cnt i)) := by
                            have := (HROW.out.s.inv.cell (List.Mem.tail _ (List.Mem.head _)) (t * 6 + i)).trans (gridA_get (upW rows t cnt) htn hi6)
                            rw [upW_same] at this
                            exact this
                          have cb := HBD.out i
                          have HHP := hide hP
                          clear hcell0 hP hP2 hrt
                          go_wp2_with fail
                          with_reducible refine (rSpace_calls _ _).mono ?_
                          rintro e w5 ⟨rfl, rfl⟩
                          by_cases hw : 0 < space P.r
                          · have hr1 : 1 ≤ P.r := by
                              rcases Int.lt_or_le 0 P.r with h | h
                              · omega
                              · rw [space_zero h] at hw; omega
                            go_wp2_with fail
                            go_loopw [23] (fun av w4 => ∃ a q : Nat, a ≤ t ∧ av = .int .i64 a ∧ w4 = wx.drewN q) (fun av _ => t - (intOf av).toNat)
                            case atStart => exact ⟨0, q0, by omega, rfl, rfl⟩
                            case round =>
                              obtain ⟨a, q1, ha, rfl, rfl⟩ := hrel
                              by_cases hal : a < t
                              · have i2 : (a : Int) < t := by omega
                                have a81 : (a : Int) < 81 := by omega
                                have ca : wx.cell? ⟨bc + 1, a * 6 + i, none⟩ = some (.int .i64 (rows a i)) := by
                                  have := (HROW.out.s.inv.cell (List.Mem.tail _ (List.Mem.head _)) (a * 6 + i)).trans (gridA_get (upW rows t cnt) (show a < 81 by omega) hi6)
                                  rw [upW_other (by omega)] at this
                                  exact this
                                have rb := HRB.out a i
                                have hok := HCNT.out.ok HRES.out HKN.out rfl z0 hal hil (by rw [HHP.out]; exact hr1) (by rw [HHP.out]; omega)
                                rw [show sp pl i = space P.r by unfold sp; rw [HHP.out]] at hok
                                have hn0 : 0 ≤ 65536 * ((t : Int) - a) := by omega
                                have q0' : 0 ≤ 65536 * ((t : Int) - a) / space P.r := Int.ediv_nonneg hn0 (by omega)
                                have q1' : 65536 * ((t : Int) - a) / space P.r ≤ 65536 * ((t : Int) - a) := Int.ediv_le_self _ hn0
                                have hz : (space P.r == 0) = false := by simp; omega
                                have e1 : IntKind.i64.wrap (cnt i - rows a i) = cnt i - rows a i := IntWalk.i64_in _ (by omega)
                                have e3 : IntKind.i64.wrap ((t : Int) - a) = (t : Int) - a := IntWalk.i64_in _ (by omega)
                                have e4 : IntKind.i64.wrap (65536 * ((t : Int) - a)) = 65536 * ((t : Int) - a) := IntWalk.i64_in _ (by omega)
                                have e5 : (65536 * ((t : Int) - a)).tdiv (space P.r) = 65536 * ((t : Int) - a) / space P.r := Int.tdiv_eq_ediv_of_nonneg hn0
                                have e6 : IntKind.i64.wrap (65536 * ((t : Int) - a) / space P.r) = 65536 * ((t : Int) - a) / space P.r := IntWalk.i64_in _ (by omega)
                                have e7 : IntKind.i64.wrap (65536 * ((t : Int) - a) / space P.r - pl.length) = 65536 * ((t : Int) - a) / space P.r - pl.length := IntWalk.i64_in _ (by omega)
                                have e8 : IntKind.i64.wrap (65536 * ((t : Int) - a) / space P.r - pl.length - 3) = 65536 * ((t : Int) - a) / space P.r - pl.length - 3 := IntWalk.i64_in _ (by omega)
                                have hd : ¬ (cnt i - rows a i < 65536 * ((t : Int) - a) / space P.r - pl.length - 3) := by omega
                                clear hok
                                go_wp2_with fail
                                go_quiet (fail)
                                clear e1 e3 e4 e5 e6 e7 e8
                                go_wp2
                                go_roundw
                                case rel => exact ⟨a + 1, _, by omega, by go_num, rfl⟩
                                case measure => simp [intOf]; omega
                              · have e : a = t := by omega
                                subst e
                                go_wp2
                                go_roundw
                                case rel => exact ⟨i + 1, q1, by omega, by go_num, rfl⟩
                                case measure => simp [intOf]; omega
                          · have t0 : (0 : Int) < t := by omega
                            go_wp2_with fail
                            go_loopw [23] (fun av w4 => av = .int .i64 0 ∧ w4 = wx.drewN q0) (fun _ _ => 0)
                            case atStart => exact ⟨rfl, rfl⟩
                            case round =>
                              obtain ⟨rfl, rfl⟩ := hrel
                              go_wp2
                              go_roundw
                              case rel => exact ⟨i + 1, q0, by omega, by go_num, rfl⟩
                              case measure => simp [intOf]; omega
                        · have e6 : i = pl.length := by omega
                          subst e6
                          have HFIN := hide (HROW.out.drewN q0)
                          clear HROW HRES HCNT HBD HRB
                          go_wp2
                          go_roundw
                          case rel => exact ⟨t + 1, C, Q, cnt, _, by omega, by omega, by go_num, by
                            have := HFIN.out
                            obtain ⟨s1, s2, s3, s4, s5, s6⟩ := this
                            exact ⟨s1, by rw [show ((t + 1 : Nat) : Int) - 1 = t by omega]; exact s2, s3, s4, fun j => by have := s5 j; omega, s6⟩⟩
                          case measure => simp [intOf]; omega
              · have bI := HS.out.s.base
                clear HS
                go_wp2_with fail
                refine (awake12_calls _).mono ?_
                rintro e wa ⟨rfl, hba⟩
                go_wp2
                go_ret
                exact ⟨rfl, bI.trans (hba.mono bI.size)⟩
    · have hz2 : (80 : Int) < xs.length := by omega
      go_enter Try.func4, Try.ntmps4
      go_wp2_with fail
      have bI := Below.refl W.heap.size W
      refine (awake12_calls _).mono ?_
      rintro e wa ⟨rfl, hba⟩
      go_wp2
      go_ret
      exact ⟨rfl, bI.trans (hba.mono bI.size)⟩
  · have hz0 : (6 : Int) < pl.length := by omega
    by_cases z2 : (80 : Int) < xs.length
    all_goals
      go_enter Try.func4, Try.ntmps4
      go_wp2_with fail
      have bI := Below.refl W.heap.size W
      refine (awake12_calls _).mono ?_
      rintro e wa ⟨rfl, hba⟩
      go_wp2
      go_ret
      exact ⟨rfl, bI.trans (hba.mono bI.size)⟩
end Go.Proofs.Ytjdkafamaoeifaa
