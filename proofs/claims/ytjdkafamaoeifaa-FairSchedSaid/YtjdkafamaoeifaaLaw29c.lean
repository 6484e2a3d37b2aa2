/- The law FairSched of layer 29: for every input it answers true. No conditions. -/
import Derived.Test.YtjdkafamaoeifaaGot
import Derived.Test.YtjdkafamaoeifaaPlace2
namespace Go.Proofs.Ytjdkafamaoeifaa
open Go.ChangeShapes Go.WideShapes Go.ChangeAt Go.RowKit Go.Proofs Go.Joins Go.Maps
set_option linter.unusedVariables false
set_option linter.unusedSimpArgs false

def two : List It := [⟨0, 0, 0⟩, ⟨0, 0, 0⟩]
theorem QOk.two : QOk two := ⟨by decide, fun x hx => by
  simp only [Go.Proofs.Ytjdkafamaoeifaa.two, List.mem_cons, List.not_mem_nil, or_false] at hx
  rcases hx with rfl | rfl <;> exact ⟨rfl, rfl⟩⟩
theorem admits_facts9 {n : Int} {pl : List Pol} (h : admits n pl = true) : (∀ j, j < pl.length → right (pg pl j).r (pg pl j).w (pg pl j).l (pg pl j).b = true) ∧ load pl ≤ n * 16777216 := by
  simp only [admits, Bool.and_eq_true] at h
  refine ⟨fun j hj => ?_, of_decide_eq_true h.2⟩
  rw [pg_get hj]
  exact List.all_eq_true.1 h.1.2 _ (List.getElem_mem hj)
set_option maxHeartbeats 8000000 in
set_option maxRecDepth 100000 in
/-- THE WALK of FairSched: whatever comes in, it answers true, and nothing that was there turns. -/
theorem fairSched_walk {H : Type} {enc : TypeId × Value → H} (W : World) (base : Nat) (v0 v1 v2 : Value) (d0 d1 d2 : DataW H) (p0 p1 p2 : List MemPlace)
    (ok0 : Value.okWide Try.prog W .any base 22 v0) (h0 : DataW.Trod enc Try.prog W 0 (fun _ => true) true 22 v0 d0 p0)
    (ok1 : Value.okWide Try.prog W .any base 5 v1) (h1 : DataW.Trod enc Try.prog W 0 (fun _ => true) true 5 v1 d1 p1)
    (ok2 : Value.okWide Try.prog W .any base 5 v2) (h2 : DataW.Trod enc Try.prog W 0 (fun _ => true) true 5 v2 d2 p2) :
    Calls Try.prog 8 #[v0, v1, v2] W fun e w' => e = .returned (.bool true) ∧ Below W.heap.size W w' := by
  obtain ⟨A0, c0, pl, rfl, l0, m0, R0⟩ := open_pols ok0 h0
  obtain ⟨pk, rfl, rfl, rfl, wpk⟩ := open_int Try.underlying5 ok1 h1
  obtain ⟨tk, rfl, rfl, rfl, wtk⟩ := open_int Try.underlying5 ok2 h2
  clear ok0 h0 ok1 h1 ok2 h2
  unfold maxLen at m0
  obtain ⟨p0, p1⟩ := bounds_u8 wpk
  obtain ⟨q0, q1⟩ := bounds_u8 wtk
  obtain ⟨n, hn⟩ : ∃ n, 1 + pk % 8 = n := ⟨_, rfl⟩
  have n1 : 1 ≤ n := by omega
  have n8 : n ≤ 8 := by omega
  have HR0 := hide R0
  clear R0
  by_cases z0 : pl.length ≤ 5
  · have hz0 : ¬ (5 < (pl.length : Int)) := by omega
    have HAD := hide (rAdmits_calls n pl A0 c0 W HR0.out)
    cases had : admits n pl
    · go_enter Try.func8, Try.ntmps8
      go_wp2_with fail
      refine HAD.out.mono ?_
      rintro e w1 ⟨rfl, hb1⟩
      rw [had]
      go_wp2_with fail
      refine (awake29_calls _).mono ?_
      rintro e wa ⟨rfl, hba⟩
      go_wp2
      go_ret
      exact ⟨rfl, hb1.trans (hba.mono hb1.size)⟩
    · obtain ⟨hR, hLd⟩ := admits_facts9 had
      go_enter Try.func8, Try.ntmps8
      go_wp2_with fail
      refine HAD.out.mono ?_
      rintro e w1 ⟨rfl, hb1⟩
      rw [had]
      have HN := hide (snew_s ((Inv.refl W).below hb1))
      go_wp2_with fail
      refine HN.out.mono ?_
      rintro e w2 ⟨ps, rfl, h2⟩
      have H1 := hide h2
      have HRR := hide hR
      have HLD := hide hLd
      clear h2 HN hb1 had HAD hR hLd
      go_wp2_with fail
      go_loopw [9, 10] (fun bv i wr => ∃ (k : Nat) (C : Nat → Clk) (b : Bool), k ≤ pl.length ∧ i = .int .i64 k ∧ bv = .bool b ∧ Filled pl C k ∧ (b = false → ∀ j, j < k → (pg pl j).l = 0) ∧ Sch W [] wr ps (XL (pg pl) C (fun _ => two) k)) (fun _ i _ => pl.length - (intOf i).toNat)
      case atStart => exact ⟨0, fun _ => ⟨0, 0, 0⟩, false, by omega, rfl, rfl, fun j hj => absurd hj (by omega), fun _ j hj => absurd hj (by omega), H1.out⟩
      case round =>
        obtain ⟨k, C, b, hk, rfl, rfl, hfl, hl0, hs⟩ := hrel
        have HF := hide hfl
        have HS := hide hs
        have HL0 := hide hl0
        clear hfl hs hl0
        by_cases hlt : k < pl.length
        · obtain ⟨bA, o, rfl, hbB, hcell⟩ := HR0.out.at_ (by omega)
          have hb := HS.out.base
          obtain ⟨q, hq⟩ : ∃ q, pl[k] = q := ⟨_, rfl⟩
          have hpg : pg pl k = q := by rw [pg_get hlt, hq]
          have hrt := HRR.out k hlt
          rw [hpg] at hrt
          have r2 := right_iff.1 hrt
          have d0 : wr.cell? ⟨bA, o + k * 4, none⟩ = some (.int .i64 q.r) := (hb.cell (p := ⟨bA, o + k * 4, none⟩) hbB).trans (by rw [← hq]; exact hcell _ _ (polCells_get pl k 0 hlt (by omega)))
          have d1 : wr.cell? ⟨bA, o + k * 4 + 1, none⟩ = some (.int .i64 q.w) := (hb.cell (p := ⟨bA, o + k * 4 + 1, none⟩) hbB).trans (by rw [← hq]; exact hcell _ _ (polCells_get pl k 1 hlt (by omega)))
          have d2 : wr.cell? ⟨bA, o + k * 4 + 2, none⟩ = some (.int .i64 q.l) := (hb.cell (p := ⟨bA, o + k * 4 + 2, none⟩) hbB).trans (by rw [← hq]; exact hcell _ _ (polCells_get pl k 2 hlt (by omega)))
          have d3 : wr.cell? ⟨bA, o + k * 4 + 3, none⟩ = some (.int .i64 q.b) := (hb.cell (p := ⟨bA, o + k * 4 + 3, none⟩) hbB).trans (by rw [← hq]; exact hcell _ _ (polCells_get pl k 3 hlt (by omega)))
          have i1 : (k : Int) < pl.length := by omega
          have hl9 : 0 ≤ q.l := r2.2.2.1
          have HPG := hide hpg
          have HRT := hide hrt
          clear hcell hq hpg hrt r2
          cases b
          · by_cases hl : 0 < q.l
            · have HBN : Hid (true = false → ∀ j, j < k + 1 → (pg pl j).l = 0) := hide (fun e => by cases e)
              -- the flow k, the policy q; 'limits' stands at @bv@
              have HC := hide (set_new_s (k : Int) 1 q HS.out (by rw [XL_length]; omega) XL_no (by omega) (by omega) (by decide) HRT.out)
              go_wp2_with fail
              refine HC.out.mono ?_
              rintro e w3 ⟨rfl, h3⟩
              have hlast : (XL (pg pl) C (fun _ => two) k ++ [(⟨(k : Int), 1, q, ⟨0, 0, 0⟩, []⟩ : Fl)])[k]'(by simp [XL_length]) = ⟨(k : Int), 1, q, ⟨0, 0, 0⟩, []⟩ := by
                rw [List.getElem_append_right (by simp [XL_length])]
                simp [XL_length]
              have HP1 := hide (push_first_s k ⟨(k : Int), 1, q, ⟨0, 0, 0⟩, []⟩ (k : Int) 0 ⟨0, 0, 0⟩ h3 (by simp [XL_length]; omega) (by simp [XL_length]) hlast rfl rfl)
              clear h3 hlast HC d0 d1 d2 d3
              go_wp2_with fail
              refine HP1.out.mono ?_
              rintro e w4 ⟨rfl, h4⟩
              obtain ⟨c, hc⟩ : ∃ c, wake ⟨0, 0, 0⟩ (at_ 0) (leastP (XL (pg pl) C (fun _ => two) k ++ [(⟨(k : Int), 1, q, ⟨0, 0, 0⟩, []⟩ : Fl)])) = c := ⟨_, rfl⟩
              have hc1 : c.l = 0 ∧ c.r = 0 := by rw [← hc]; exact ⟨rfl, rfl⟩
              have e1 : ∀ qq, (XL (pg pl) C (fun _ => two) k ++ [(⟨(k : Int), 1, q, ⟨0, 0, 0⟩, []⟩ : Fl)]).set k ⟨(k : Int), 1, q, c, qq⟩ = XL (pg pl) C (fun _ => two) k ++ [(⟨(k : Int), 1, q, c, qq⟩ : Fl)] := fun qq => by
                rw [List.set_append_right _ _ (by simp [XL_length]), XL_length, Nat.sub_self, List.set_cons_zero]
              have h4' : Sch W [] w4 ps (XL (pg pl) C (fun _ => two) k ++ [(⟨(k : Int), 1, q, c, [⟨0, 0, 0⟩]⟩ : Fl)]) := by
                rw [← e1, ← hc]
                exact h4
              have hlast2 : (XL (pg pl) C (fun _ => two) k ++ [(⟨(k : Int), 1, q, c, [⟨0, 0, 0⟩]⟩ : Fl)])[k]'(by simp [XL_length]) = ⟨(k : Int), 1, q, c, [⟨0, 0, 0⟩]⟩ := by
                rw [List.getElem_append_right (by simp [XL_length])]
                simp [XL_length]
              have HP2 := hide (push_more_s k ⟨(k : Int), 1, q, c, [⟨0, 0, 0⟩]⟩ (k : Int) 0 ⟨0, 0, 0⟩ h4' (by simp [XL_length]; omega) (by simp [XL_length]) hlast2 rfl (by simp) (by simp))
              have HC1 := hide hc1
              clear h4 h4' hlast2 HP1 hc e1 hc1
              go_wp2_with fail
              refine HP2.out.mono ?_
              rintro e w5 ⟨rfl, h5⟩
              have h5' : Filled pl (upW C k c) (k + 1) ∧ Sch W [] w5 ps (XL (pg pl) (upW C k c) (fun _ => two) (k + 1)) := by
                refine ⟨fun j hj => ?_, ?_⟩
                · by_cases e : j = k
                  · subst e
                    rw [upW_same, HPG.out]
                    exact ⟨HC1.out, HRT.out⟩
                  · rw [upW_other e]
                    exact HF.out j (by omega)
                · have e : (XL (pg pl) C (fun _ => two) k ++ [(⟨(k : Int), 1, q, c, [⟨0, 0, 0⟩]⟩ : Fl)]).set k ⟨(k : Int), 1, q, c, [⟨0, 0, 0⟩] ++ [⟨0, 0, 0⟩]⟩ = XL (pg pl) (upW C k c) (fun _ => two) (k + 1) := by
                    rw [List.set_append_right _ _ (by simp [XL_length]), XL_length, Nat.sub_self, List.set_cons_zero, XL_succ]
                    congr 1
                    · exact XL_congr fun i hi => ⟨by rw [upW_other (by omega)], rfl⟩
                    · simp [fL, upW, HPG.out, two]
                  rw [← e]
                  exact h5
              have H5 := hide h5'
              clear h5 h5' HP2
              go_wp2
              go_roundw
              case rel => exact ⟨k + 1, _, true, by omega, by go_num, rfl, H5.out.1, HBN.out, H5.out.2⟩
              case measure => simp [intOf]; omega
            · have hl0' : q.l = 0 := by omega
              have HBN : Hid (∀ j, j < k + 1 → (pg pl j).l = 0) := hide (fun j hj => by
                by_cases e2 : j = k
                · subst e2; rw [HPG.out]; exact hl0'
                · exact HL0.out rfl j (by omega))
              clear hl0'
              -- the flow k, the policy q; 'limits' stands at @bv@
              have HC := hide (set_new_s (k : Int) 1 q HS.out (by rw [XL_length]; omega) XL_no (by omega) (by omega) (by decide) HRT.out)
              go_wp2_with fail
              refine HC.out.mono ?_
              rintro e w3 ⟨rfl, h3⟩
              have hlast : (XL (pg pl) C (fun _ => two) k ++ [(⟨(k : Int), 1, q, ⟨0, 0, 0⟩, []⟩ : Fl)])[k]'(by simp [XL_length]) = ⟨(k : Int), 1, q, ⟨0, 0, 0⟩, []⟩ := by
                rw [List.getElem_append_right (by simp [XL_length])]
                simp [XL_length]
              have HP1 := hide (push_first_s k ⟨(k : Int), 1, q, ⟨0, 0, 0⟩, []⟩ (k : Int) 0 ⟨0, 0, 0⟩ h3 (by simp [XL_length]; omega) (by simp [XL_length]) hlast rfl rfl)
              clear h3 hlast HC d0 d1 d2 d3
              go_wp2_with fail
              refine HP1.out.mono ?_
              rintro e w4 ⟨rfl, h4⟩
              obtain ⟨c, hc⟩ : ∃ c, wake ⟨0, 0, 0⟩ (at_ 0) (leastP (XL (pg pl) C (fun _ => two) k ++ [(⟨(k : Int), 1, q, ⟨0, 0, 0⟩, []⟩ : Fl)])) = c := ⟨_, rfl⟩
              have hc1 : c.l = 0 ∧ c.r = 0 := by rw [← hc]; exact ⟨rfl, rfl⟩
              have e1 : ∀ qq, (XL (pg pl) C (fun _ => two) k ++ [(⟨(k : Int), 1, q, ⟨0, 0, 0⟩, []⟩ : Fl)]).set k ⟨(k : Int), 1, q, c, qq⟩ = XL (pg pl) C (fun _ => two) k ++ [(⟨(k : Int), 1, q, c, qq⟩ : Fl)] := fun qq => by
                rw [List.set_append_right _ _ (by simp [XL_length]), XL_length, Nat.sub_self, List.set_cons_zero]
              have h4' : Sch W [] w4 ps (XL (pg pl) C (fun _ => two) k ++ [(⟨(k : Int), 1, q, c, [⟨0, 0, 0⟩]⟩ : Fl)]) := by
                rw [← e1, ← hc]
                exact h4
              have hlast2 : (XL (pg pl) C (fun _ => two) k ++ [(⟨(k : Int), 1, q, c, [⟨0, 0, 0⟩]⟩ : Fl)])[k]'(by simp [XL_length]) = ⟨(k : Int), 1, q, c, [⟨0, 0, 0⟩]⟩ := by
                rw [List.getElem_append_right (by simp [XL_length])]
                simp [XL_length]
              have HP2 := hide (push_more_s k ⟨(k : Int), 1, q, c, [⟨0, 0, 0⟩]⟩ (k : Int) 0 ⟨0, 0, 0⟩ h4' (by simp [XL_length]; omega) (by simp [XL_length]) hlast2 rfl (by simp) (by simp))
              have HC1 := hide hc1
              clear h4 h4' hlast2 HP1 hc e1 hc1
              go_wp2_with fail
              refine HP2.out.mono ?_
              rintro e w5 ⟨rfl, h5⟩
              have h5' : Filled pl (upW C k c) (k + 1) ∧ Sch W [] w5 ps (XL (pg pl) (upW C k c) (fun _ => two) (k + 1)) := by
                refine ⟨fun j hj => ?_, ?_⟩
                · by_cases e : j = k
                  · subst e
                    rw [upW_same, HPG.out]
                    exact ⟨HC1.out, HRT.out⟩
                  · rw [upW_other e]
                    exact HF.out j (by omega)
                · have e : (XL (pg pl) C (fun _ => two) k ++ [(⟨(k : Int), 1, q, c, [⟨0, 0, 0⟩]⟩ : Fl)]).set k ⟨(k : Int), 1, q, c, [⟨0, 0, 0⟩] ++ [⟨0, 0, 0⟩]⟩ = XL (pg pl) (upW C k c) (fun _ => two) (k + 1) := by
                    rw [List.set_append_right _ _ (by simp [XL_length]), XL_length, Nat.sub_self, List.set_cons_zero, XL_succ]
                    congr 1
                    · exact XL_congr fun i hi => ⟨by rw [upW_other (by omega)], rfl⟩
                    · simp [fL, upW, HPG.out, two]
                  rw [← e]
                  exact h5
              have H5 := hide h5'
              clear h5 h5' HP2
              go_wp2
              go_roundw
              case rel => exact ⟨k + 1, _, false, by omega, by go_num, rfl, H5.out.1, (fun _ => HBN.out), H5.out.2⟩
              case measure => simp [intOf]; omega
          · have HBN : Hid (true = false → ∀ j, j < k + 1 → (pg pl j).l = 0) := hide (fun e => by cases e)
            -- the flow k, the policy q; 'limits' stands at @bv@
            have HC := hide (set_new_s (k : Int) 1 q HS.out (by rw [XL_length]; omega) XL_no (by omega) (by omega) (by decide) HRT.out)
            go_wp2_with fail
            refine HC.out.mono ?_
            rintro e w3 ⟨rfl, h3⟩
            have hlast : (XL (pg pl) C (fun _ => two) k ++ [(⟨(k : Int), 1, q, ⟨0, 0, 0⟩, []⟩ : Fl)])[k]'(by simp [XL_length]) = ⟨(k : Int), 1, q, ⟨0, 0, 0⟩, []⟩ := by
              rw [List.getElem_append_right (by simp [XL_length])]
              simp [XL_length]
            have HP1 := hide (push_first_s k ⟨(k : Int), 1, q, ⟨0, 0, 0⟩, []⟩ (k : Int) 0 ⟨0, 0, 0⟩ h3 (by simp [XL_length]; omega) (by simp [XL_length]) hlast rfl rfl)
            clear h3 hlast HC d0 d1 d2 d3
            go_wp2_with fail
            refine HP1.out.mono ?_
            rintro e w4 ⟨rfl, h4⟩
            obtain ⟨c, hc⟩ : ∃ c, wake ⟨0, 0, 0⟩ (at_ 0) (leastP (XL (pg pl) C (fun _ => two) k ++ [(⟨(k : Int), 1, q, ⟨0, 0, 0⟩, []⟩ : Fl)])) = c := ⟨_, rfl⟩
            have hc1 : c.l = 0 ∧ c.r = 0 := by rw [← hc]; exact ⟨rfl, rfl⟩
            have e1 : ∀ qq, (XL (pg pl) C (fun _ => two) k ++ [(⟨(k : Int), 1, q, ⟨0, 0, 0⟩, []⟩ : Fl)]).set k ⟨(k : Int), 1, q, c, qq⟩ = XL (pg pl) C (fun _ => two) k ++ [(⟨(k : Int), 1, q, c, qq⟩ : Fl)] := fun qq => by
              rw [List.set_append_right _ _ (by simp [XL_length]), XL_length, Nat.sub_self, List.set_cons_zero]
            have h4' : Sch W [] w4 ps (XL (pg pl) C (fun _ => two) k ++ [(⟨(k : Int), 1, q, c, [⟨0, 0, 0⟩]⟩ : Fl)]) := by
              rw [← e1, ← hc]
              exact h4
            have hlast2 : (XL (pg pl) C (fun _ => two) k ++ [(⟨(k : Int), 1, q, c, [⟨0, 0, 0⟩]⟩ : Fl)])[k]'(by simp [XL_length]) = ⟨(k : Int), 1, q, c, [⟨0, 0, 0⟩]⟩ := by
              rw [List.getElem_append_right (by simp [XL_length])]
              simp [XL_length]
            have HP2 := hide (push_more_s k ⟨(k : Int), 1, q, c, [⟨0, 0, 0⟩]⟩ (k : Int) 0 ⟨0, 0, 0⟩ h4' (by simp [XL_length]; omega) (by simp [XL_length]) hlast2 rfl (by simp) (by simp))
            have HC1 := hide hc1
            clear h4 h4' hlast2 HP1 hc e1 hc1
            go_wp2_with fail
            refine HP2.out.mono ?_
            rintro e w5 ⟨rfl, h5⟩
            have h5' : Filled pl (upW C k c) (k + 1) ∧ Sch W [] w5 ps (XL (pg pl) (upW C k c) (fun _ => two) (k + 1)) := by
              refine ⟨fun j hj => ?_, ?_⟩
              · by_cases e : j = k
                · subst e
                  rw [upW_same, HPG.out]
                  exact ⟨HC1.out, HRT.out⟩
                · rw [upW_other e]
                  exact HF.out j (by omega)
              · have e : (XL (pg pl) C (fun _ => two) k ++ [(⟨(k : Int), 1, q, c, [⟨0, 0, 0⟩]⟩ : Fl)]).set k ⟨(k : Int), 1, q, c, [⟨0, 0, 0⟩] ++ [⟨0, 0, 0⟩]⟩ = XL (pg pl) (upW C k c) (fun _ => two) (k + 1) := by
                  rw [List.set_append_right _ _ (by simp [XL_length]), XL_length, Nat.sub_self, List.set_cons_zero, XL_succ]
                  congr 1
                  · exact XL_congr fun i hi => ⟨by rw [upW_other (by omega)], rfl⟩
                  · simp [fL, upW, HPG.out, two]
                rw [← e]
                exact h5
            have H5 := hide h5'
            clear h5 h5' HP2
            go_wp2
            go_roundw
            case rel => exact ⟨k + 1, _, true, by omega, by go_num, rfl, H5.out.1, HBN.out, H5.out.2⟩
            case measure => simp [intOf]; omega
        · have e2 : k = pl.length := by omega
          subst e2
          obtain ⟨i0, hi0, hz0', hz1, hz2⟩ := info_parts Try.infoLd
          have HST := hide (GotSt.start HS.out)
          have HFA := hide (Fair.start (n := n) HF.out (fun j _ => QOk.two) HL0.out)
          clear HF HS HL0
          go_wp2_with fail
          go_loopw [11, 12, 13, 14, 15, 16, 17] (fun gv tv _ _ _ _ _ wr => ∃ (s t : Nat) (C : Nat → Clk) (Q : Nat → List It) (g : List Ld), t = s + 1 ∧ (s : Int) ≤ tk % 51 ∧ tv = .int .i64 t ∧ GotSt W wr ps (XL (pg pl) C Q pl.length) gv g ∧ Fair pl n b C Q g t s n (8 * s)) (fun _ tv _ _ _ _ _ _ => 52 - (intOf tv).toNat)
          case atStart => exact ⟨0, 1, C, _, _, rfl, by omega, rfl, HST.out, HFA.out⟩
          case round =>
            obtain ⟨s, t, C, Q, g, hts, hs1, rfl, hs, hfa⟩ := hrel
            obtain ⟨A, cp, hsv, hsc, hmx, hob, _, hrd⟩ := own_view hs.row
            have HS := hide (hsv ▸ hs)
            have HFA2 := hide hfa
            subst hsv
            have HTS := hide hts
            have t51 : (t : Int) ≤ 51 := by omega
            clear HST HFA hs hfa hrd hsc hts hob hmx
            by_cases htl : (t : Int) ≤ tk % 51
            · have h2 : Fair pl n b C Q g t t 0 (8 * s + 0) := by
                have h := HFA2.out
                have hts := HTS.out
                subst hts
                exact h.tick HLD.out
              have H2 := hide h2
              clear h2 HFA2
              go_wp2_with fail
              go_loopw [11, 13, 14, 15, 16, 17] (fun gv kv _ _ _ _ wr => ∃ (k : Nat) (C : Nat → Clk) (Q : Nat → List It) (g : List Ld), (k : Int) ≤ n ∧ kv = .int .i64 k ∧ GotSt W wr ps (XL (pg pl) C Q pl.length) gv g ∧ Fair pl n b C Q g t t k (8 * s + k)) (fun _ kv _ _ _ _ _ => 9 - (intOf kv).toNat)
              case atStart => exact ⟨0, C, Q, g, by omega, rfl, HS.out, H2.out⟩
              case round =>
                obtain ⟨k, C, Q, g, hk, rfl, hs, hfa⟩ := hrel
                obtain ⟨A, cp, hsv, hsc, hmx, hob, _, hrd⟩ := own_view hs.row
                have HS3 := hide (hsv ▸ hs)
                have HF3 := hide hfa
                subst hsv
                clear HS H2 hs hfa hrd hsc hob hmx
                by_cases hkl : (k : Int) < n
                · have HPK := hide (pick_g (t : Int) HS3.out (by rw [XL_length]; omega))
                  go_wp2_with fail
                  refine HPK.out.mono ?_
                  rintro e w3 (⟨rfl, hnone, h3⟩ | ⟨i, phase, f, y, rest, hp, ⟨hi, hf⟩, hqf, rfl, h3⟩)
                  · have H3 := hide (h3.below ((Below.refl w3.heap.size w3).alloc (Nat.le_refl _) (.cells #[.int .i64 0, .int .i64 0, .int .i64 0] 36)))
                    have HN3 := hide ((HF3.out.none hnone).more (Nat.le_succ _))
                    clear h3 HPK hnone
                    go_wp2
                    go_roundw
                    case rel => exact ⟨k + 1, C, Q, g, by omega, by go_num, H3.out, HN3.out⟩
                    case measure => simp [intOf]; omega
                  · have hin : i < pl.length := by rw [XL_length] at hi; exact hi
                    rw [XL_get] at hf
                    subst hf
                    have hqi : Q i = y :: rest := hqf
                    have hfp := HF3.out.pick hin (by omega) hp hqi
                    have hst := (HF3.out.lim.q i hin).step hqi
                    have hlen := HF3.out.len
                    have h4 : GotSt W w3 ps (XL (pg pl) (upW C i (charge (pg pl i) (C i) (at_ (t : Int)) phase y.delta y.rho)) (upW Q i rest) pl.length) (.slice A g.length cp) g := by
                      rw [← XL_set]; exact h3
                    have HOWN := hide h4.row
                    have h5 := (h4.below ((Below.refl w3.heap.size w3).alloc (Nat.le_refl _) (.cells #[.int .i64 y.name, .int .i64 y.delta, .int .i64 y.rho] 36)))
                    have h6 := h5.below ((Below.refl _ _).alloc (Nat.le_refl _) (.cells #[.int .i64 (i : Int), .int .i64 (t : Int)] 57))
                    have HH := hide (And.intro hfp (And.intro h6 hst))
                    have hg8 : g.length ≤ 1000 := by have := HTS.out; omega
                    rw [show (fL (pg pl) C Q i).id = (i : Int) from rfl]
                    clear hfp h4 h5 h6 hst hqi hp hi hqf h3 HPK hlen
                    go_wp2_with (at_builtin; refine app_law rfl _ _ 55 rfl 57 i0 _ 2 16 Try.underlying55 hi0 hz0' hz1 hz2 rfl (by decide) (.slice A g.length cp) g.length (ldCells g) rfl ((HOWN.out.alloc _).alloc _) (w3.heap.size + 1) 1 1 [.int .i64 (i : Int), .int .i64 (t : Int)] rfl (Blk.new (by simp)) rfl ?c1 (by decide) ?c3 ?c4 ?_)
                    case c1 => intro u hu; simp only [List.mem_cons, List.not_mem_nil, or_false] at hu; rcases hu with rfl | rfl <;> rfl
                    case c3 => unfold maxLen; omega
                    case c4 => omega
                    intro gb cap2 w4 hown2 hch hor hlt2
                    obtain ⟨hfp, h6, hst⟩ := HH.out
                    have hP := GotSt.push (x := ⟨(i : Int), (t : Int)⟩) h6 hown2 hch (fun z hz => by
                      have : gb = z := by simpa using hz
                      subst this
                      exact hor.imp id (fun e => by rw [e]; simp))
                    have HPU := hide (push_more_g i ⟨(i : Int), 1, pg pl i, charge (pg pl i) (C i) (at_ (t : Int)) phase y.delta y.rho, rest⟩ (i : Int) (t : Int) ⟨0, 0, 0⟩ hP (by rw [XL_length]; omega) (by rw [XL_length]; exact hin) (by rw [XL_get]; simp [fL, upW]) rfl hst.2.1 hst.2.2.1)
                    have HFP := hide hfp
                    clear hfp h6 hst hch hor hlt2 hown2 hP HH
                    go_wp2_with fail
                    refine HPU.out.mono ?_
                    rintro e w7 ⟨rfl, h7⟩
                    have h7' : GotSt W w7 ps (XL (pg pl) (upW C i (charge (pg pl i) (C i) (at_ (t : Int)) phase y.delta y.rho)) (upW Q i (rest ++ [⟨0, 0, 0⟩])) pl.length) (.slice (some ⟨gb, 0, none⟩) (g.length + 1) cap2) (g ++ [⟨(i : Int), (t : Int)⟩]) := by
                      have e1 := XL_set (p := pg pl) (C := upW C i (charge (pg pl i) (C i) (at_ (t : Int)) phase y.delta y.rho)) (Q := upW Q i rest) (n := pl.length) (j := i) (charge (pg pl i) (C i) (at_ (t : Int)) phase y.delta y.rho) (rest ++ [⟨0, 0, 0⟩])
                      have e2 : XL (pg pl) (upW (upW C i (charge (pg pl i) (C i) (at_ (t : Int)) phase y.delta y.rho)) i (charge (pg pl i) (C i) (at_ (t : Int)) phase y.delta y.rho)) (upW (upW Q i rest) i (rest ++ [⟨0, 0, 0⟩])) pl.length = XL (pg pl) (upW C i (charge (pg pl i) (C i) (at_ (t : Int)) phase y.delta y.rho)) (upW Q i (rest ++ [⟨0, 0, 0⟩])) pl.length :=
                        XL_congr fun a ha => by
                          by_cases e : a = i
                          · subst e; simp [upW]
                          · simp [upW, e]
                      rw [← e2, ← e1]
                      exact h7
                    have H7 := hide h7'
                    clear h7 h7' HPU
                    go_wp2
                    go_roundw
                    case rel => exact ⟨k + 1, _, _, _, by omega, by go_num, H7.out, HFP.out⟩
                    case measure => simp [intOf]; omega
                · have hkn : n ≤ (k : Int) := by omega
                  have h9 : Fair pl n b C Q g (t + 1) t n (8 * t) := (HF3.out.done hkn).more (by have := HTS.out; omega)
                  have H9 := hide h9
                  clear h9
                  go_wp2
                  go_roundw
                  case rel => exact ⟨t, t + 1, C, Q, g, rfl, by omega, by go_num, HS3.out, H9.out⟩
                  case measure => simp [intOf]; omega
            · have htk : tk % 51 = (s : Int) := by have := HTS.out; omega
              have hs50 : s ≤ 50 := by omega
              have hts2 : ¬ ((t : Int) ≤ (s : Int)) := by have := HTS.out; omega
              have hfa : Fair pl n b C Q g (s + 1) s n (8 * s) := by
                have := HFA2.out
                rw [HTS.out] at this
                exact this
              have HFA3 := hide hfa
              clear HFA2 hfa htl
              go_wp2_with fail
              go_loopw [18, 19] (fun iv _ w4 => ∃ i : Nat, i ≤ pl.length ∧ iv = .int .i64 i ∧ GotSt W w4 ps (XL (pg pl) C Q pl.length) (.slice A g.length cp) g) (fun iv _ _ => pl.length - (intOf iv).toNat)
              case atStart => exact ⟨0, by omega, rfl, HS.out⟩
              case round =>
                obtain ⟨i, hi, rfl, hs⟩ := hrel
                have HS4 := hide hs
                clear hs
                by_cases hil : i < pl.length
                · obtain ⟨bA, o, rfl, hbB, hcell⟩ := HR0.out.at_ (by omega)
                  have hb := HS4.out.base
                  obtain ⟨q, hq⟩ : ∃ q, pl[i] = q := ⟨_, rfl⟩
                  have hpg : pg pl i = q := by rw [pg_get hil, hq]
                  have hrt := HRR.out i hil
                  rw [hpg] at hrt
                  have r2 := right_iff.1 hrt
                  have rc : ∀ w', Below W.heap.size W w' → w'.cell? ⟨bA, o + i * 4, none⟩ = some (.int .i64 q.r) ∧ w'.cell? ⟨bA, o + i * 4 + 1, none⟩ = some (.int .i64 q.w) ∧ w'.cell? ⟨bA, o + i * 4 + 2, none⟩ = some (.int .i64 q.l) ∧ w'.cell? ⟨bA, o + i * 4 + 3, none⟩ = some (.int .i64 q.b) := fun w' hb =>
                    ⟨(hb.cell (p := ⟨bA, o + i * 4, none⟩) hbB).trans (by rw [← hq]; exact hcell _ _ (polCells_get pl i 0 hil (by omega))),
                      (hb.cell (p := ⟨bA, o + i * 4 + 1, none⟩) hbB).trans (by rw [← hq]; exact hcell _ _ (polCells_get pl i 1 hil (by omega))),
                      (hb.cell (p := ⟨bA, o + i * 4 + 2, none⟩) hbB).trans (by rw [← hq]; exact hcell _ _ (polCells_get pl i 2 hil (by omega))),
                      (hb.cell (p := ⟨bA, o + i * 4 + 3, none⟩) hbB).trans (by rw [← hq]; exact hcell _ _ (polCells_get pl i 3 hil (by omega)))⟩
                  obtain ⟨d0, d1, d2, d3⟩ := rc wr hb
                  have i1 : (i : Int) < pl.length := by omega
                  have hov := HFA3.out.over (by omega) hil
                  rw [hpg] at hov
                  have hrd := HS4.out.row
                  obtain ⟨A1, cp1, hsv, hx1, hx2, hx3, hx4, hrd2⟩ := own_view hrd
                  clear hx1 hx2 hx3 hx4
                  injection hsv with ea eb ec
                  subst ea ec
                  have hrds := hrd2 wr.heap.size (fun z hz => own_lt hrd hz)
                  have hle : g.length ≤ 1000 := by have := HFA3.out.len; omega
                  have HOV := hide (over_calls g (i : Int) q A cp wr hrds (by omega) (fun x hx => by
                    obtain ⟨y, hy, rfl⟩ := List.mem_map.1 hx
                    have := HFA3.out.gl y (List.mem_filter.1 hy).1
                    omega))
                  have HOVF := hide hov
                  have HPG := hide hpg
                  have HRT := hide hrt
                  have HRC := hide rc
                  clear hcell hq hpg hrt hov hrd hrds hrd2 rc
                  go_wp2_with fail
                  refine HOV.out.mono ?_
                  rintro e w5 ⟨rfl, hb5⟩
                  rw [HOVF.out]
                  have HS5 := hide (HS4.out.below hb5)
                  clear hb5 d0 d1 d2 d3 HOV HS4 hb
                  go_wp2_with fail
                  go_loopw [19] (fun fv w4 => ∃ a : Nat, a ≤ 60 ∧ fv = .int .i64 a ∧ GotSt W w4 ps (XL (pg pl) C Q pl.length) (.slice A g.length cp) g) (fun fv _ => 60 - (intOf fv).toNat)
                  case atStart => exact ⟨0, by omega, rfl, HS5.out⟩
                  case round =>
                    obtain ⟨a, ha, rfl, hs⟩ := hrel
                    have HS6 := hide hs
                    clear hs
                    by_cases has : a < s
                    · have i2 : (a : Int) < s := by omega
                      cases hbb : b
                      · obtain ⟨d0, d1, d2, d3⟩ := HRC.out wr HS6.out.base
                        have hrd := HS6.out.row
                        obtain ⟨A1, cp1, hsv, hx1, hx2, hx3, hx4, hrd2⟩ := own_view hrd
                        clear hx1 hx2 hx3 hx4
                        injection hsv with ea eb ec
                        subst ea ec
                        have hrds := hrd2 wr.heap.size (fun z hz => own_lt hrd hz)
                        have hun : Calls Try.prog 23 #[.slice A g.length cp, .int .i64 (i : Int), .agg #[.int .i64 q.r, .int .i64 q.w, .int .i64 q.l, .int .i64 q.b], .int .i64 (pl.length : Int), .int .i64 (a : Int), .int .i64 (s : Int)] wr fun e w' => e = .returned (.bool false) ∧ Below wr.heap.size wr w' := by
                          by_cases hr0 : q.r = 0
                          · exact under_none g (i : Int) q (pl.length : Int) (a : Int) (s : Int) A cp wr HRT.out hr0
                          · refine under_some g (i : Int) q (pl.length : Int) (a : Int) (s : Int) A cp wr HRT.out (by omega) hrds (by omega) (by omega) (by omega) (by omega) (by omega) (by omega) ?_
                            have := HFA3.out.under hbb (by omega) hil has (by rw [HPG.out]; omega)
                            rw [HPG.out] at this
                            exact this
                        have HUN := hide hun
                        clear hrd hrds hrd2 hun
                        go_wp2_with fail
                        refine HUN.out.mono ?_
                        rintro e w7 ⟨rfl, hb7⟩
                        have HS7 := hide (HS6.out.below hb7)
                        clear hb7 d0 d1 d2 d3 HUN
                        go_wp2
                        go_roundw
                        case rel => exact ⟨a + 7, by omega, by go_num, HS7.out⟩
                        case measure => simp [intOf]; omega
                      · go_wp2
                        go_roundw
                        case rel => exact ⟨a + 7, by omega, by go_num, HS6.out⟩
                        case measure => simp [intOf]; omega
                    · have i2 : ¬ ((a : Int) < s) := by omega
                      go_wp2
                      go_roundw
                      case rel => exact ⟨i + 1, by omega, by go_num, HS6.out⟩
                      case measure => simp [intOf]; omega
                · have e6 : i = pl.length := by omega
                  subst e6
                  have bI := HS4.out.base
                  go_wp2_with fail
                  refine (awake29_calls _).mono ?_
                  rintro e wa ⟨rfl, hba⟩
                  go_wp2
                  go_ret
                  exact ⟨rfl, bI.trans (hba.mono bI.size)⟩
  · have hz0 : (5 : Int) < pl.length := by omega
    go_enter Try.func8, Try.ntmps8
    go_wp2_with fail
    have bI := Below.refl W.heap.size W
    refine (awake29_calls _).mono ?_
    rintro e wa ⟨rfl, hba⟩
    go_wp2
    go_ret
    exact ⟨rfl, bI.trans (hba.mono bI.size)⟩
end Go.Proofs.Ytjdkafamaoeifaa
