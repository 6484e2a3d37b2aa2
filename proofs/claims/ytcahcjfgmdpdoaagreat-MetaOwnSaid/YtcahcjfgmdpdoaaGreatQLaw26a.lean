/- One text of: Law26a. -/
import Derived.Test.YtcahcjfgmdpdoaaGreatQMC
import Derived.Test.YtcahcjfgmdpdoaaGreatQSR
set_option maxHeartbeats 8000000
set_option maxRecDepth 100000
namespace Go.Proofs.YtcahcjfgmdpdoaaGreat
open Go.ChangeShapes Go.WideShapes Go.ChangeAt Go.RowKit Go.Proofs Go.Maps
set_option linter.unusedVariables false
set_option linter.unusedSimpArgs false

def nw3 : Vst := ⟨[(1, 9)], [], [], 1⟩
def nq0 : Cmd := ⟨1, 1, 9, 0, ⟨0, 0, 0, 0⟩⟩
theorem nw_c : nw0.apply nq0 = (nw3, 0) := by
 have h : nw0.act nq0 = (nw3, 0) := by simp [Vst.act, Vst.server, ins, nw0, nw3, nq0]
 have h2 : nw3.admits = true := by decide
 unfold Vst.apply; simp only [h, h2]
 rfl
theorem nq0_p : nq0.plain := by
 intro n hn
 simp only [nq0, Cmd.nums, List.mem_cons, List.not_mem_nil, or_false] at hn
 omega
theorem nw3_ok : VBy nw3 ∧ VIn nw3 := by
 have h := VBy.start.apply VOk.start nq0; have h2 := VIn.start.apply VOk.start nq0; rw [show (⟨[], [], [], 1⟩ : Vst).apply nq0 = (nw3, 0) from nw_c] at h h2
 exact ⟨h, h2⟩
section
variable {W w w' : World} {mb b n k tb tb2 : Nat} {S : Vst} {K : List Nat}
theorem VS.bytes_calls (h : VS w b S n) (hs : SerOk S) (hn : n ≤ 60) : Calls Tryz.prog 13 #[.pointer (some ⟨b, 0, none⟩)] w fun e w' => ∃ A c, e = .returned (.slice A S.bytes.length c) ∧ OwnB w w' A c S.bytes ∧ Below w.heap.size w w' := by
 obtain ⟨h0, no, m1, m2, m3, V, C, h⟩ := h
 exact vbytes_calls w no b m1 m2 m3 S V C h (h0.byt hs hn)
theorem VS.hard (h : VS w b S n) : HardL w [b] ∧ ∃ t cs, Blk w b t cs := by
 obtain ⟨h0, no, m1, m2, m3, V, C, h⟩ := h
 exact ⟨HardL.cons (h.blk.hard (by decide) (by decide)) (fun g hg => by cases hg), _, _, h.blk⟩
structure OW (W w : World) (mb tb tb2 k : Nat) : Prop where
 ms : ∃ sb Z R, MS W w mb sb [tb] 7 Z nw3 R 21 ∧ R 9999 = none
 was : VSK [tb] w tb2 nw3 21
 st : ∃ S, VS w tb S (21 + k)
theorem OW.step (h : OW W w mb tb tb2 k) (hne : tb ≠ tb2) (hW : W.heap.size ≤ tb) (hk : k ≤ 20) (q : Cmd) (hq : q.ok) :
  Calls Tryz.prog 10 #[.pointer (some ⟨tb, 0, none⟩), q.val] w fun e w' => ∃ z, e = .returned (.int .i64 z) ∧ OW W w' mb tb tb2 (k + 1) := by
 obtain ⟨⟨sb, Z, R, hm, hR⟩, hw, S, hs⟩ := h
 refine (vapply_calls w tb _ S q hs (by omega) hq).mono fun e w' ha => ⟨_, ha.ret, ⟨⟨sb, Z, R, hm.other ha.chg hs.hard.1 (fun x hx => by rw [List.mem_singleton.1 hx]; exact hW), hR⟩, hw.chg ha.chg (fun x hx => by
  rw [List.mem_singleton.1 hx]
  exact ⟨by simp, hne, hs.hard.2⟩), _, ha.vs⟩⟩
end
theorem metaOwn_walk {H : Type} {enc : TypeId × Value → H} (W : World) (base : Nat) (v0 : Value) (d0 : DataW H) (p0 : List MemPlace)
  (ok0 : Value.okWide Tryz.prog W .any base 22 v0) (h0 : DataW.Trod enc Tryz.prog W 0 (fun _ => true) true 22 v0 d0 p0) :
  Calls Tryz.prog 3 #[v0] W fun e w' => e = .returned (.bool true) ∧ Below W.heap.size W w' := by
 obtain ⟨A, c, l, rfl, hlc, hcm, hok, hr⟩ := open_cmds ok0 h0; have r0 := Below.refl W.heap.size W; have HR := hide hr; have HOKS := hide hok; clear ok0 h0 hlc hcm hok hr
 by_cases hlen : l.length ≤ 20
 ·have l20 : (l.length : Int) ≤ 20 := by omega
  have HLEN := hide hlen; clear hlen r0; have HDN := dnew_calls 512 (by omega) (by omega) W; rw [show ((512 : Nat) : Int) = 512 from rfl] at HDN; have HDN := hide HDN
  go_enter Tryz.func3, Tryz.ntmps3
  go_wp2_with fail
  with_reducible refine HDN.out.mono ?_
  rintro e w1 ⟨d, F, rfl, hdz1, hF1, hb1⟩; obtain ⟨w2, hw2⟩ : ∃ x, w1.alloc (.cells #[.int .i64 0] 3) = x := ⟨_, rfl⟩; obtain ⟨xb, hxb⟩ : ∃ x, w1.heap.size = x := ⟨_, rfl⟩
  have hb12 : Below w1.heap.size w1 w2 := hw2 ▸ belowL (Below.refl _ _) _
  have bX : Blk w2 xb 3 [.int .i64 0] := by rw [← hw2, ← hxb]; exact Blk.new rfl
  have HM := hide (mmade_calls (W := W) (c := 1) (hdz1.below hb12) hF1 (belowA hb12 hb1) (sl_zero bX (fun hx => by have := hdz1.lt _ hx; omega))); have HW := hd2 hw2 hxb; clear hdz1 hF1 hb1 hw2 hxb hb12 bX HDN; go_wp2_with fail; rw [HW.out.1, HW.out.2]
  with_reducible refine HM.out.mono ?_
  rintro e w3 ⟨mb, rfl, sb, hms⟩; have HX : Hid (MX W w3 mb 0) := hide ⟨sb, hms⟩; clear hms HM HW; go_wp2
  go_loopw [4, 20, 21, 22, 23, 24, 25] (fun iv _ _ _ _ _ _ wr => ∃ (i : Nat), i ≤ 20 ∧ iv = .int .i64 i ∧ Hid (MX W wr mb i)) (fun iv _ _ _ _ _ _ _ => 20 - (intOf iv).toNat)
  case atStart => exact ⟨0, Nat.zero_le _, rfl, HX⟩
  case round =>
   obtain ⟨i, hi, rfl, hI⟩ := hrel; clear HX
   by_cases hlt : i < 20
   ·have i1 : (i : Int) < 20 := by omega
    have HT := hide (mtickX_calls hI.out (by omega)); clear hI; go_wp2_with fail
    with_reducible refine HT.out.mono ?_
    rintro e w4 ⟨rfl, hx⟩; have HX2 := hide hx; clear hx HT; go_wp2
    go_roundw
    case rel => exact ⟨i + 1, by omega, by go_num, HX2⟩
    case measure => simp [intOf]; omega
   ·have i1 : ¬ (i : Int) < 20 := by omega
    obtain rfl : i = 20 := by omega
    obtain ⟨sb, hms⟩ := hI.out; have hms : MS W wr mb sb [] 7 [(1, 0, bi [])] nw0 (fun _ => none) 20 := hms; have HD := mdo_calls hms (by simp) (by simp) (ZX_ok 20).1 (by omega) nq0 nq0_p nq0_p.len; unfold DOT at HD; rw [nw_c] at HD; unfold Cmd.val Cmd.cells nq0 at HD; have HD := hide HD; clear hI hms hlt hi i1; rw [show ((20 : Nat) : Int) = 20 from rfl]; go_wp2_with fail
    with_reducible refine HD.out.mono ?_
    rintro e w4 ⟨rfl, hms⟩; have hser : SerOk nw3 := nw3_ok.1.ser hms.ok nw3_ok.2 (by omega); have HS1 := hide (hms.state_calls hser (by omega) [] (by simp)); have HMS := hide hms; have HSER := hide hser; have HLN := hide (hms.ok.byt hser (by omega)).len; clear hms HD hser; go_wp2_with fail
    with_reducible refine HS1.out.mono ?_
    rintro e w5 ⟨tb, rfl, hvs, htb, hb5⟩; have hm5 := HMS.out.beside hb5 htb hvs.vs.lt; have HS2 := hide (hm5.state_calls HSER.out (by omega) [tb] (fun x hx => by rw [List.mem_singleton.1 hx]; exact hvs.vs.lt)); have H5 := hd3 hm5 hvs (Nat.le_trans HMS.out.world.size htb); clear hm5 hvs htb hb5 HS1 HMS; go_wp2_with fail
    with_reducible refine HS2.out.mono ?_
    rintro e w6 ⟨tb2, rfl, hvs2, htb2, hb6⟩; have HT : Hid (tb ≠ tb2 ∧ W.heap.size ≤ tb) := hide ⟨by have := H5.out.2.1.vs.lt; omega, H5.out.2.2⟩; have HO : Hid (OW W w6 mb tb tb2 0) := hide ⟨⟨sb, _, _, H5.out.1.below hb6, by unfold updV; rw [if_neg (by simp)]⟩, hvs2, _, H5.out.2.1.vs.below hb6⟩; clear hvs2 htb2 hb6 H5 HS2; go_wp2
    go_loopw [2, 7, 39, 40, 41, 42, 43, 44, 45, 46, 47, 48, 49, 50, 51, 52, 53, 54, 55, 56, 57, 58, 59, 60, 61, 62, 63, 64, 65] (fun _ iv _ _ _ _ _ _ _ _ _ _ _ _ _ _ _ _ _ _ _ _ _ _ _ _ _ _ _ wr => ∃ (k : Nat), k ≤ l.length ∧ iv = .int .i64 k ∧ Hid (OW W wr mb tb tb2 k)) (fun _ iv _ _ _ _ _ _ _ _ _ _ _ _ _ _ _ _ _ _ _ _ _ _ _ _ _ _ _ _ => l.length - (intOf iv).toNat)
    case atStart => exact ⟨0, Nat.zero_le _, rfl, HO⟩
    case round =>
     obtain ⟨k, hk, rfl, hI⟩ := hrel; have hkk : k ≤ 20 := Nat.le_trans hk HLEN.out; clear HO; obtain ⟨_, _, _, hmm, _⟩ := hI.out.ms; have HBW := hide hmm.world; clear hmm
     by_cases hlt : k < l.length
     ·have i1 : (k : Int) < l.length := by omega
      obtain ⟨bA, oA, rfl, hbA, hcell⟩ := HR.out.2 (by omega); have HOK := hide (HOKS.out l[k] (List.getElem_mem hlt)); obtain ⟨⟨k0, a0, b0, c0, ⟨q0, q1, q2, q3⟩⟩, hx⟩ : ∃ x, l[k] = x := ⟨_, rfl⟩; rw [hx] at HOK; have e0 := cmdCells_get l k 0 hlt (by omega); have e1 := cmdCells_get l k 1 hlt (by omega); have e2 := cmdCells_get l k 2 hlt (by omega); have e3 := cmdCells_get l k 3 hlt (by omega); have e4 := cmdCells_get l k 4 hlt (by omega); have e5 := cmdCells_get l k 5 hlt (by omega); have e6 := cmdCells_get l k 6 hlt (by omega); have e7 := cmdCells_get l k 7 hlt (by omega); simp only [hx, Cmd.cells, List.getElem?_cons_succ, List.getElem?_cons_zero, Nat.add_zero] at e0 e1 e2 e3 e4 e5 e6 e7; have g0 : wr.cell? ⟨bA, oA + k * 8, none⟩ = some (.int .i64 k0) := (HBW.out.cell (p := ⟨bA, oA + k * 8, none⟩) hbA).trans (hcell _ _ e0); have g1 : wr.cell? ⟨bA, oA + k * 8 + 1, none⟩ = some (.int .i64 a0) := (HBW.out.cell (p := ⟨bA, oA + k * 8 + 1, none⟩) hbA).trans (by rw [Nat.add_assoc]; exact hcell _ _ e1); have g2 : wr.cell? ⟨bA, oA + k * 8 + 2, none⟩ = some (.int .i64 b0) := (HBW.out.cell (p := ⟨bA, oA + k * 8 + 2, none⟩) hbA).trans (by rw [Nat.add_assoc]; exact hcell _ _ e2); have g3 : wr.cell? ⟨bA, oA + k * 8 + 3, none⟩ = some (.int .i64 c0) := (HBW.out.cell (p := ⟨bA, oA + k * 8 + 3, none⟩) hbA).trans (by rw [Nat.add_assoc]; exact hcell _ _ e3); have g4 : wr.cell? ⟨bA, oA + k * 8 + 4, none⟩ = some (.int .i64 q0) := (HBW.out.cell (p := ⟨bA, oA + k * 8 + 4, none⟩) hbA).trans (by rw [Nat.add_assoc]; exact hcell _ _ e4); have g5 : wr.cell? ⟨bA, oA + k * 8 + 5, none⟩ = some (.int .i64 q1) := (HBW.out.cell (p := ⟨bA, oA + k * 8 + 5, none⟩) hbA).trans (by rw [Nat.add_assoc]; exact hcell _ _ e5); have g6 : wr.cell? ⟨bA, oA + k * 8 + 6, none⟩ = some (.int .i64 q2) := (HBW.out.cell (p := ⟨bA, oA + k * 8 + 6, none⟩) hbA).trans (by rw [Nat.add_assoc]; exact hcell _ _ e6); have g7 : wr.cell? ⟨bA, oA + k * 8 + 7, none⟩ = some (.int .i64 q3) := (HBW.out.cell (p := ⟨bA, oA + k * 8 + 7, none⟩) hbA).trans (by rw [Nat.add_assoc]; exact hcell _ _ e7); clear hx e0 e1 e2 e3 e4 e5 e6 e7 hcell HR HOKS hbA hk
      by_cases b64 : 64 < b0
      ·by_cases b512 : b0 ≤ 512
       ·have HA := hide (mawake_calls wr)
        clear hI; go_wp2_with fail
        with_reducible refine HA.out.mono ?_
        rintro e w9 ⟨rfl, hb9⟩; have HB9 := hide (belowA hb9 HBW.out); clear hb9 HA; go_wp2; go_ret
        exact ⟨rfl, HB9.out⟩
       ·skip
        have HA := hide (hI.out.step HT.out.1 HT.out.2 (by omega) ⟨k0, a0, b0, c0, ⟨q0, q1, q2, q3⟩⟩ HOK.out); unfold Cmd.val Cmd.cells at HA; clear hI; go_wp2_with fail
        with_reducible refine HA.out.mono ?_
        rintro e w9 ⟨z, rfl, how⟩; have HO9 := hide how; clear how HA; go_wp2
        go_roundw
        case rel => exact ⟨k + 1, by omega, by go_num, HO9⟩
        case measure => simp [intOf]; omega
      ·skip
       have HA := hide (hI.out.step HT.out.1 HT.out.2 (by omega) ⟨k0, a0, b0, c0, ⟨q0, q1, q2, q3⟩⟩ HOK.out); unfold Cmd.val Cmd.cells at HA; clear hI; go_wp2_with fail
       with_reducible refine HA.out.mono ?_
       rintro e w9 ⟨z, rfl, how⟩; have HO9 := hide how; clear how HA; go_wp2
       go_roundw
       case rel => exact ⟨k + 1, by omega, by go_num, HO9⟩
       case measure => simp [intOf]; omega
     ·have i1 : ¬ (k : Int) < l.length := by omega
      obtain ⟨⟨sb, Z, R, hm, hR⟩, hw, _⟩ := hI.out; have HS := hide (hm.state_calls HSER.out (by omega) [] (by simp)); have H6 := hd3 hm hR hw; clear hI hm hR hw HR HOKS hlt hk; go_wp2_with fail
      with_reducible refine HS.out.mono ?_
      rintro e w7 ⟨tb3, rfl, hv3, _, hb7⟩; have HRE := (H6.out.1.below hb7).result_calls 9999 (by unfold i64ok; omega); rw [H6.out.2.1] at HRE; have HRE := hide HRE; have HB1 := hide (hv3.vs.bytes_calls HSER.out (by omega)); have H7 := hd2 (belowA hb7 HBW.out) (H6.out.2.2.vs.below hb7); clear hv3 hb7 HS H6; go_wp2_with fail
      with_reducible refine HRE.out.mono ?_
      rintro e w8 ⟨rfl, rfl⟩; clear HRE; go_wp2_with fail
      with_reducible refine HB1.out.mono ?_
      rintro e w8 ⟨A1, c1, rfl, ho1, hb8⟩; have HB2 := hide ((H7.out.2.below hb8).bytes_calls HSER.out (by omega)); have H8 := hd2 (belowA hb8 H7.out.1) ho1; clear ho1 hb8 HB1 H7; go_wp2_with fail
      with_reducible refine HB2.out.mono ?_
      rintro e w9 ⟨A2, c2, rfl, ho2, hb9⟩; have hb0 := belowA hb9 H8.out.1; have HSA := sameBytes_calls nw3.bytes nw3.bytes A1 A2 c1 c2 w9 ((H8.out.2.rb (no := []) (by simp)).below hb9).rd (ho2.rb (no := []) (by simp)).rd (by have := HLN.out; omega) (by have := HLN.out; omega); rw [decide_eq_true rfl] at HSA; have HSA := hide HSA; have HB0 := hide hb0; clear hb0 ho2 hb9 H8 HB2; go_wp2_with fail
      with_reducible refine HSA.out.mono ?_
      rintro e w10 ⟨rfl, q, rfl⟩; have hb10 := below_drewN (Below.refl w9.heap.size w9) q; have HA := hide (mawake_calls (w9.drewN q)); have HBX := hide (belowA hb10 HB0.out); clear hb10 HSA HB0; go_wp2_with fail
      with_reducible refine HA.out.mono ?_
      rintro e w11 ⟨rfl, hb11⟩; have HBY := hide (belowA hb11 HBX.out); clear hb11 HA; go_wp2; go_ret
      exact ⟨rfl, HBY.out⟩
 ·have l20 : ¬ (l.length : Int) ≤ 20 := by omega
  have HA := hide (mawake_calls W); clear HR HOKS hlen
  go_enter Tryz.func3, Tryz.ntmps3
  go_wp2_with fail
  with_reducible refine HA.out.mono ?_
  rintro e w1 ⟨rfl, hb1⟩; go_wp2; go_ret
  exact ⟨rfl, hb1⟩
end Go.Proofs.YtcahcjfgmdpdoaaGreat
