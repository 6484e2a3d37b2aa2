/- One text of: Law18g. -/
import Derived.Test.YtcgecalbgkkinaaGreatQDE
import Derived.Test.YtcgecalbgkkinaaGreatQByz
import Derived.Test.YtcgecalbgkkinaaGreatQBase
namespace Go.Proofs.YtcgecalbgkkinaaGreat
open Go.ChangeShapes Go.WideShapes Go.ChangeAt Go.RowKit Go.Joins Go.Deep Go.Maps
set_option linter.unusedVariables false
set_option linter.unusedSimpArgs false
theorem Tryz.laidOut : laidOutB Tryz.prog = true := by kernel_rfl
section
variable {H : Type} {enc : TypeId × Value → H} {P : Program}
theorem trodAll_stays (hl : laidOutB P = true) {W W' : World} {sp : Nat → Bool} : ∀ {ts : List TypeId} {vs : List Value} {ds : List (DataW H)} {ps : List MemPlace},
    (∀ t ∈ ts, P.readableRec t = true ∧ t < P.types.size) → DataW.TrodAll enc P W 0 (fun _ => true) true ts vs ds ps → (∀ p ∈ ps, W.sameAt W' p) → (∀ p ∈ ps, sp p.block = true) →
    DataW.TrodAll enc P W' 0 sp true ts vs ds ps
  | [], vs, ds, ps, _, h, _, _ => by
    obtain ⟨rfl, rfl, rfl⟩ := trodAll_nil h
    exact trodAll_mk0
  | t :: ts, vs, ds, ps, hr, h, hs, hp => by
    obtain ⟨v, vs1, d, ds1, a, b, rfl, rfl, rfl, h1, h2⟩ := trodAll_cons h; have ht := hr t (by simp)
    exact ⟨a, b, WideElems.Trod_stays hl ht.1 ht.2 h1 (fun x hx => hs x (by simp [hx])) (fun x hx => hp x (by simp [hx])),
      trodAll_stays hl (fun t' h' => hr t' (by simp [h'])) h2 (fun x hx => hs x (by simp [hx])) (fun x hx => hp x (by simp [hx])), rfl⟩

theorem law_post {f : Func} {s : ChangeSpec} {W W' : World} {args : Array Value} {ds gs : List (DataW H)} {before : List MemPlace} {tb : TypeId}
    (hl : laidOutB P = true) (hr : ∀ t ∈ f.params.toList, P.readableRec t = true ∧ t < P.types.size) (ht : f.resultTypes = #[tb]) (htb : P.underlying tb = some .bool)
    (hW : DataW.Whole enc P f.params.toList s.vars false W args.toList ds gs before) (hv : s.vars = [])
    (hfn : s.fn H (ds ++ gs) = { results := [.lit (.bool true)], args := ds }) (hb : Below W.heap.size W W') :
    s.post enc P f false true false false W args (.bool true) W' := by
  have hlt : ∀ p ∈ before, p.block < W.heap.size := fun p hp => hW.lt p hp
  have hW2 := hW; obtain ⟨p, q, hA, hV, rfl, hz, hn⟩ := hW2; rw [hv] at hV; obtain ⟨rfl, rfl⟩ := trodVars_none hV; simp only [List.append_nil] at hlt hW
  have hargs : ∀ sp : Nat → Bool, (∀ x ∈ p, sp x.block = true) → DataW.TrodAll enc P W' 0 sp true f.params.toList args.toList ds p := fun sp hsp =>
    trodAll_stays hl hr hA (fun x hx => hb.same (hlt x hx)) hsp
  refine ⟨ds, [], p, [], p, [], hW, ?_, ?_, ?_, ?_, ?_⟩
  · rw [hfn, ht]
    exact trodAll_cons_mk (shut_bool htb true) trodAll_mk0
  · rw [hfn]
    exact hargs _ (fun x hx => by simpa using hlt x hx)
  · rw [hfn, hv]
    exact rfl
  · refine World.keptBut_mono (fun x hx => ⟨hx, ?_⟩) (hb.frame (· ∈ p))
    exact Or.inr (by simpa using hx)
  · intro h
    cases h
end
theorem zA48 {α : Type} (l : List α) (i : Nat) (a : α) : l.toArray.setIfInBounds i a = (l.set i a).toArray := by simp
theorem zB48 {α : Type} (x a : α) (l : List α) : (x :: l).set 0 a = a :: l := rfl
theorem zC48 {α : Type} (x a : α) (l : List α) (n : Nat) : (x :: l).set (n + 1) a = x :: l.set n a := rfl

theorem OutA.more {w : World} {no M : List Nat} {x : DV} {S : Vst} (h : DM w no x S) (ho : OutA no x) (hM : ∀ z ∈ M, z ∈ no ∨ w.heap.size ≤ z) : OutA M x := by
  refine ⟨fun a ha hx => ?_, fun h0 a ha hx => ?_, fun h0 a ha hx => ?_⟩
  · rcases hM _ hx with h1 | h1
    · exact ho.p a ha h1
    · obtain ⟨b, o, e, hb, _⟩ := h.pk.2 (by omega)
      rw [e] at ha
      cases ha
      simp only [] at h1
      omega
  · rcases hM _ hx with h1 | h1
    · exact ho.v h0 a ha h1
    · obtain ⟨b, o, e, hb, _⟩ := h.vo.2 (List.length_pos_iff.2 h0)
      rw [e] at ha
      cases ha
      simp only [] at h1
      omega
  · rcases hM _ hx with h1 | h1
    · exact ho.c h0 a ha h1
    · obtain ⟨b, o, e, hb, _⟩ := h.ck.2 (List.length_pos_iff.2 h0)
      rw [e] at ha
      cases ha
      simp only [] at h1
      omega
theorem OutA.sub {no M : List Nat} {x : DV} (h : OutA M x) (hs : ∀ z ∈ no, z ∈ M) : OutA no x := ⟨fun a ha hx => h.p a ha (hs _ hx), fun h0 a ha hx => h.v h0 a ha (hs _ hx), fun h0 a ha hx => h.c h0 a ha (hs _ hx)⟩
theorem chg4 (w : World) (b : Nat) (A1 A2 A3 z : Value) : Chg [b] w ((((w.setCell ⟨b, 0, none⟩ A1).setCell ⟨b, 1, none⟩ A2).setCell ⟨b, 2, none⟩ A3).setCell ⟨b, 3, none⟩ z) :=
  ((((Chg.refl _ _).setCell (Or.inl (by simp)) _).setCell (Or.inl (by simp)) _).setCell (Or.inl (by simp)) _).setCell (Or.inl (by simp)) _
theorem plX {wr w5 : World} {no : List Nat} {x : DV} {S : Vst} {b : Nat} {B1 B2 B3 B4 : Value} (h : DM w5 (b :: no) x S) (ho : OutA (b :: no) x) (hb : Blk w5 b 31 [B1, B2, B3, B4]) (hw : Below b wr w5) (A1 A2 A3 z : Value) :
    DM ((((w5.setCell ⟨b, 0, none⟩ A1).setCell ⟨b, 1, none⟩ A2).setCell ⟨b, 2, none⟩ A3).setCell ⟨b, 3, none⟩ z) no x S ∧ OutA no x ∧ Blk ((((w5.setCell ⟨b, 0, none⟩ A1).setCell ⟨b, 1, none⟩ A2).setCell ⟨b, 2, none⟩ A3).setCell ⟨b, 3, none⟩ z) b 31 [A1, A2, A3, z] ∧
      Below b wr ((((w5.setCell ⟨b, 0, none⟩ A1).setCell ⟨b, 1, none⟩ A2).setCell ⟨b, 2, none⟩ A3).setCell ⟨b, 3, none⟩ z) := by
  have hc := chg4 w5 b A1 A2 A3 z
  exact ⟨(h.chg ho hc (fun z hz => by rw [List.mem_singleton.1 hz]; exact List.mem_cons_self ..)).sub (fun z hz => List.mem_cons_of_mem _ hz), ho.sub (fun z hz => List.mem_cons_of_mem _ hz), (((hb.set 0 A1).set 1 A2).set 2 A3).set 3 z,
    Chg.onto hw (Nat.le_of_lt hb.lt) hc (fun z hz => by rw [List.mem_singleton.1 hz]; exact Nat.le_refl _)⟩
theorem loadP_byt {b : List Nat} {S : Vst} (h : LdOk b) (e : loadP b = some S) : BytOk S := by
  rw [loadP_eq] at e; unfold ld2 at e
  split at e
  · cases e
  · rename_i V r3 h1
    unfold ld3 at e
    split at e
    · cases e
    · rename_i C r4 h2
      split at e
      · rename_i hf
        injection e with e
        rw [← e]
        exact h V r3 C r4 h1 h2 hf.1
      · cases e
set_option maxHeartbeats 16000000 in
set_option maxRecDepth 100000 in
/-- THE WALK of VolumeBytes: whatever comes in, it answers true, and nothing that was there turns. -/
theorem volumeBytes_walk {H : Type} {enc : TypeId × Value → H} (W : World) (base : Nat) (v0 v1 v2 : Value) (d0 d1 d2 : DataW H) (p0 p1 p2 : List MemPlace)
    (ok0 : Value.okWide Tryz.prog W .any base 22 v0) (h0 : DataW.Trod enc Tryz.prog W 0 (fun _ => true) true 22 v0 d0 p0)
    (ok1 : Value.okWide Tryz.prog W .any base 22 v1) (h1 : DataW.Trod enc Tryz.prog W 0 (fun _ => true) true 22 v1 d1 p1)
    (ok2 : Value.okWide Tryz.prog W .any base 50 v2) (h2 : DataW.Trod enc Tryz.prog W 0 (fun _ => true) true 50 v2 d2 p2) :
    Calls Tryz.prog 5 #[v0, v1, v2] W fun e w' => e = .returned (.bool true) ∧ Below W.heap.size W w' := by
  obtain ⟨Al, cl, cs, rfl, hlen, hcap, hok, hr⟩ := open_cmds ok0 h0; obtain ⟨Am, cm, ms, rfl, hlen2, hcap2, hok2, hr2⟩ := open_cmds ok1 h1; obtain ⟨Ab, cb, Lb, rfl, hlen3, hcap3, hby, hr3⟩ := open_bytes ok2 h2; unfold maxLen at hcap hcap2 hcap3; clear ok0 h0 ok1 h1 ok2 h2; have HGR := hide (great_calls Al cl cs W (by omega) hr); have HGS := hide (fun w' (hb : Below W.heap.size W w') => great_calls Am cm ms w' (by omega) ((hr2.below hb).more hb.size)); have HR := hide hr; have HR2 := hide hr2; have HR3 := hide hr3; have HOK := hide hok; have HOK2 := hide hok2; have HBY := hide hby; clear hr hr2 hr3 hok hok2 hby
  cases hgr : great cs with
  | true =>
    rw [hgr] at HGR; clear hgr
    go_enter Tryz.func5, Tryz.ntmps5
    go_wp2_with fail; refine HGR.out.mono ?_; rintro e w1 ⟨rfl, hb1⟩; have HBA := hide hb1; clear hb1; go_wp2_with fail
    refine (awake18_calls _).mono ?_
    rintro e wz ⟨rfl, hbz⟩; have HF := hide (HBA.out.trans (hbz.mono HBA.out.size)); clear hbz; go_wp2
    go_ret
    exact ⟨rfl, HF.out⟩
  | false =>
    rw [hgr] at HGR
    have HSM : Hid (cs.length ≤ 30) := hide (by
      unfold great at hgr; rw [Bool.or_eq_false_iff] at hgr
      simpa using hgr.2)
    clear hgr
    cases hgs : great ms with
    | true =>
      rw [hgs] at HGS; clear hgs
      go_enter Tryz.func5, Tryz.ntmps5
      go_wp2_with fail; refine HGR.out.mono ?_; rintro e w1 ⟨rfl, hb1⟩; have HB1 := hide hb1; have HG2 := hide (HGS.out w1 hb1); clear hb1; go_wp2_with fail; refine HG2.out.mono ?_; rintro e w2 ⟨rfl, hb2⟩; have HBA := hide (HB1.out.trans (hb2.mono HB1.out.size)); clear hb2 HG2; go_wp2_with fail
      refine (awake18_calls _).mono ?_
      rintro e wz ⟨rfl, hbz⟩; have HF := hide (HBA.out.trans (hbz.mono HBA.out.size)); clear hbz; go_wp2
      go_ret
      exact ⟨rfl, HF.out⟩
    | false =>
      rw [hgs] at HGS
      have HSM2 : Hid (ms.length ≤ 30) := hide (by
        unfold great at hgs; rw [Bool.or_eq_false_iff] at hgs
        simpa using hgs.2)
      clear hgs
      by_cases h200 : 200 < Lb.length
      · have i1 : (200 : Int) < Lb.length := by omega
        go_enter Tryz.func5, Tryz.ntmps5
        go_wp2_with fail; refine HGR.out.mono ?_; rintro e w1 ⟨rfl, hb1⟩; have HB1 := hide hb1; have HG2 := hide (HGS.out w1 hb1); clear hb1; go_wp2_with fail; refine HG2.out.mono ?_; rintro e w2 ⟨rfl, hb2⟩; have HBA := hide (HB1.out.trans (hb2.mono HB1.out.size)); clear hb2 HG2; go_wp2_with fail
        refine (awake18_calls _).mono ?_
        rintro e wz ⟨rfl, hbz⟩; have HF := hide (HBA.out.trans (hbz.mono HBA.out.size)); clear hbz; go_wp2
        go_ret
        exact ⟨rfl, HF.out⟩
      · have i1 : ¬ (200 : Int) < Lb.length := by omega
        go_enter Tryz.func5, Tryz.ntmps5
        go_wp2_with fail; refine HGR.out.mono ?_; rintro e w1 ⟨rfl, hb1⟩; have HB1 := hide hb1; have HG2 := hide (HGS.out w1 hb1); clear hb1; go_wp2_with fail; refine HG2.out.mono ?_; rintro e w0 ⟨rfl, hb0⟩; have HB0 := hide (HB1.out.trans (hb0.mono HB1.out.size)); have HLB := hide h200; clear hb0 HG2 HGR HGS HB1 h200; go_wp2_with fail
        refine (VS.new _).mono ?_
        rintro e w1 ⟨sb, rfl, hv, hb1, hbl⟩; have HB1 := hide (HB0.out.trans (hb1.mono HB0.out.size)); have HV1 := hide hv; have HSB := hide (show W.heap.size ≤ sb from Nat.le_trans HB0.out.size hbl); clear hb1 hbl hv i1; go_wp2_with fail
        refine (dnew_calls _).mono ?_
        rintro e w2 ⟨pb, rfl, hdm, hp1, hp2, hb2⟩; have HB2 := hide (HB1.out.trans (hb2.mono HB1.out.size)); have HV2 := hide (HV1.out.below hb2); have HDM := hide (And.intro hdm (And.intro hp1 hp2)); have HSL := hide HV1.out.lt; clear hb2 hdm hp1 hp2; unfold DV.val DV.cells; simp only [List.length_nil]; go_wp2_with fail; obtain ⟨w3, hw3⟩ : ∃ w3, w2.alloc (.cells #[.slice (some ⟨pb, 0, none⟩) 16 16, .slice none 0 0, .slice none 0 0, .int .i64 1] 31) = w3 := ⟨_, rfl⟩; obtain ⟨ex, hex⟩ : ∃ ex, w2.heap.size = ex := ⟨_, rfl⟩; have hw3b : Below w2.heap.size w2 w3 := hw3 ▸ (Below.refl _ _).alloc (Nat.le_refl _) _
        have hE3 : Blk w3 ex 31 [.slice (some ⟨pb, 0, none⟩) 16 16, .slice none 0 0, .slice none 0 0, .int .i64 1] := by rw [← hw3, ← hex]; exact Blk.new rfl
        have HNE := hide (show sb ≠ ex ∧ W.heap.size ≤ ex from ⟨by have h1 := HSL.out; have h2 := HV2.out.lt; omega, by rw [← hex]; exact HB2.out.size⟩); have hK3 : VSK [ex] w3 sb ⟨[], [], [], 1⟩ 0 := HV2.out.toK hw3b (by omega) (by rw [← hw3, ← hex]; simp); have hD3 : DM w3 [sb, ex] ⟨some ⟨pb, 0, none⟩, 16, [], none, 0, [], none, 0⟩ ⟨[], [], [], 1⟩ := (HDM.out.1 _).below hw3b
        have hO3 : OutA [sb, ex] ⟨some ⟨pb, 0, none⟩, 16, [], none, 0, [], none, 0⟩ := ⟨fun a ha hx => by
          have h1 := HDM.out.2; have h2 := HSL.out
          cases ha
          simp only [List.mem_cons, List.mem_nil_iff, or_false] at hx
          omega, fun h => absurd rfl h, fun h => absurd rfl h⟩
        have HST := hide (And.intro hK3 (And.intro hD3 (And.intro hO3 (And.intro hE3 (HB2.out.trans (hw3b.mono HB2.out.size)))))); rw [hw3, hex]; clear hw3 hex hw3b hE3 hK3 hD3 hO3
        go_loopw [9, 10, 11, 35, 36, 37, 38, 39, 40, 41, 42, 43, 44, 45, 46, 47, 48, 49, 50, 51, 52, 53, 54, 55, 56] (fun i _ _ _ _ _ _ _ _ _ _ _ _ _ _ _ _ _ _ _ _ _ _ _ _ wr => ∃ (k : Nat) (S : Vst) (x : DV), k ≤ cs.length ∧ i = .int .i64 k ∧ VSK [ex] wr sb S k ∧ VIn S ∧ VBy S ∧ DM wr [sb, ex] x S ∧ OutA [sb, ex] x ∧ Blk wr ex 31 (x.cells S.nx) ∧ Below W.heap.size W wr) (fun i _ _ _ _ _ _ _ _ _ _ _ _ _ _ _ _ _ _ _ _ _ _ _ _ _ => cs.length - (intOf i).toNat)
        case atStart => exact ⟨0, ⟨[], [], [], 1⟩, ⟨some ⟨pb, 0, none⟩, 16, [], none, 0, [], none, 0⟩, Nat.zero_le _, rfl, HST.out.1, VIn.start, VBy.start, HST.out.2.1, HST.out.2.2.1, HST.out.2.2.2.1, HST.out.2.2.2.2⟩
        case round =>
          obtain ⟨k, S, x, hk, rfl, hvs, hvi, hvb, hdm, hoa, hex, hbr⟩ := hrel; have HVS := hide hvs; have HVI := hide hvi; have HVB := hide hvb; have HD := hide (And.intro hdm (And.intro hoa hex)); have HBR := hide hbr
          have hk30 : k ≤ 30 := by have := HSM.out; omega
          clear hvs hvi hvb hdm hoa hex hbr
          by_cases hlt : k < cs.length
          · have i1 : (k : Int) < cs.length := by omega
            obtain ⟨bA, oA, eA, hbA, hcell⟩ := HR.out.2 (by omega); obtain ⟨⟨k0, a0, b0, c0, ⟨pr, pw, pl, pb'⟩⟩, hq⟩ : ∃ q, cs[k] = q := ⟨_, rfl⟩
            have hqok : (⟨k0, a0, b0, c0, ⟨pr, pw, pl, pb'⟩⟩ : Cmd).ok := by rw [← hq]; exact HOK.out _ (List.getElem_mem _)
            have HRU : Hid (∀ w', Below W.heap.size W w' → ∀ j, (hj : j < 8) → w'.cell? ⟨bA, oA + k * 8 + j, none⟩ = (Cmd.cells ⟨k0, a0, b0, c0, ⟨pr, pw, pl, pb'⟩⟩)[j]?) := hide (fun w' hb j hj => by
              have h1 := hb.cell (p := ⟨bA, oA + k * 8 + j, none⟩) hbA; rw [h1]; have h2 := cmdCells_get cs k j hlt hj; rw [hq] at h2; have h3 : j < (Cmd.cells ⟨k0, a0, b0, c0, ⟨pr, pw, pl, pb'⟩⟩).length := hj; rw [List.getElem?_eq_getElem h3] at h2 ⊢; have := hcell _ _ h2; rw [← this]
              congr 2
              omega)
            have HQK := hide hqok; obtain ⟨⟨S', er⟩, hR⟩ : ∃ R, S.apply ⟨k0, a0, b0, c0, ⟨pr, pw, pl, pb'⟩⟩ = R := ⟨_, rfl⟩; have hVA := hide (fun w' (h : VSK [ex] w' sb S k) => vapplyK_calls (K := [ex]) w' sb k S ⟨k0, a0, b0, c0, ⟨pr, pw, pl, pb'⟩⟩ h (by omega) hqok); have hVI' := HVI.out.apply HVS.out.vs.ok ⟨k0, a0, b0, c0, ⟨pr, pw, pl, pb'⟩⟩; rw [hR] at hVA hVI'; have HVI2 := hide hVI'
            have HVB2 := hide (show VBy S' by
              have := HVB.out.apply HVS.out.vs.ok ⟨k0, a0, b0, c0, ⟨pr, pw, pl, pb'⟩⟩; rw [hR] at this
              exact this)
            have HRR := hide hR; subst eA; have k0' := HRU.out wr HBR.out 0 (by omega); have k1' := HRU.out wr HBR.out 1 (by omega); have k2' := HRU.out wr HBR.out 2 (by omega); have k3' := HRU.out wr HBR.out 3 (by omega); have k4' := HRU.out wr HBR.out 4 (by omega); have k5' := HRU.out wr HBR.out 5 (by omega); have k6' := HRU.out wr HBR.out 6 (by omega); have k7' := HRU.out wr HBR.out 7 (by omega); simp only [Cmd.cells, List.getElem?_cons_succ, List.getElem?_cons_zero, Nat.add_zero] at k0' k1' k2' k3' k4' k5' k6' k7'; have HVC := hide (hVA.out wr HVS.out); unfold Cmd.val Cmd.cells at HVC; simp only [] at HVC; clear hq hqok hcell hbA hR hVI'; go_wp2_with fail; refine HVC.out.mono ?_; rintro e w4 ⟨z4, rfl, hz4, hc4, hv4⟩; clear hz4
            have HMM : Hid ((∀ z ∈ [sb, ex], z < wr.heap.size) ∧ sb ≠ ex) := hide ⟨fun z hz => by
              have h1 := HVS.out.vs.lt; have h2 := HD.out.2.2.lt; simp only [List.mem_cons, List.mem_nil_iff, or_false] at hz
              rcases hz with rfl | rfl <;> assumption, HNE.out.1⟩
            have hB4 : Below W.heap.size W w4 := Chg.onto HBR.out HBR.out.size hc4 (fun z hz => by rw [List.mem_singleton.1 hz]; exact HSB.out); have hD4 := And.intro (HD.out.1.chg HD.out.2.1 hc4 (fun z hz => by rw [List.mem_singleton.1 hz]; simp)) (And.intro HD.out.2.1 (HD.out.2.2.chg hc4 (by simp; exact HMM.out.2.symm))); have HW4 := hide (And.intro hv4 (And.intro hB4 hD4)); clear k0' k1' k2' k3' k4' k5' k6' k7' HVC hc4 hv4 hB4 hD4; have HV4 := hide HW4.out.1; have HBW := hide HW4.out.2.1; have HDW := hide HW4.out.2.2
            have HMM : Hid ((∀ z ∈ [sb, ex], z < w4.heap.size) ∧ sb ≠ ex) := hide ⟨fun z hz => by
              have h1 := HV4.out.vs.lt; have h2 := HDW.out.2.2.lt; simp only [List.mem_cons, List.mem_nil_iff, or_false] at hz
              rcases hz with rfl | rfl <;> assumption, HNE.out.1⟩
            clear HW4; obtain ⟨Ap, cp, V, Av, cv, C, Ac, cc⟩ := x
            have HAP : Hid (∀ M : List Nat, (∀ z ∈ M, z ∈ [sb, ex] ∨ w4.heap.size ≤ z) → ∀ w', Below w4.heap.size w4 w' → (∀ z ∈ M, z < w'.heap.size) → Calls Tryz.prog 10 #[.agg #[.slice Ap 16 cp, .slice Av V.length cv, .slice Ac C.length cc, .int .i64 S.nx], .agg #[.int .i64 k0, .int .i64 a0, .int .i64 b0, .int .i64 c0, .int .i64 pr, .int .i64 pw, .int .i64 pl, .int .i64 pb']] w' fun e w'' =>
                ∃ A4 c4 V4 B4 d4 C4 D4 e4, e = .returned (.tuple #[.agg #[.slice A4 16 c4, .slice B4 (List.length V4) d4, .slice D4 (List.length C4) e4, .int .i64 S'.nx], .int .i64 er]) ∧ DM w'' M ⟨A4, c4, V4, B4, d4, C4, D4, e4⟩ S' ∧ OutA M ⟨A4, c4, V4, B4, d4, C4, D4, e4⟩ ∧ Below w'.heap.size w' w'') :=
              hide (fun M hM w' hb hMl => by
                have hls := HVS.out.vs.ok.lens (by omega); have hlV := HDW.out.1.lenV; have hlC := HDW.out.1.lenC; simp only [] at hlV hlC; have hn := HVS.out.vs.ok.nx2; have hcl := rise_len (a := 1) (b := S.nx) HVS.out.vs.ok.csr (fun x hx => by have := HVS.out.vs.ok.csa x hx; omega); have hc := dapply_calls w' M ⟨Ap, cp, V, Av, cv, C, Ac, cc⟩ S k ⟨k0, a0, b0, c0, ⟨pr, pw, pl, pb'⟩⟩ ((HDW.out.1.plus hM).below hb) hMl (OutA.more HDW.out.1 HDW.out.2.1 hM) HVS.out.vs.ok HVI.out (by omega) HQK.out (by simp only []; omega) (by simp only []; omega); rw [HRR.out] at hc
                refine hc.mono (fun e w'' hh => ?_)
                obtain ⟨⟨A4, c4, V4, B4, d4, C4, D4, e4⟩, he, hd, ho, hbw⟩ := hh
                exact ⟨A4, c4, V4, B4, d4, C4, D4, e4, he, hd, ho, hbw⟩)
            have rr := Below.refl w4.heap.size w4
            have g := fun j (hj : j < 8) w' (hb : Below w4.heap.size w4 w') => HRU.out w' (HBW.out.trans (hb.mono HBW.out.size)) j hj
            have g0 : ∀ w', Below w4.heap.size w4 w' → w'.cell? ⟨bA, oA + k * 8, none⟩ = some (.int .i64 k0) := g 0 (by omega); have g1 : ∀ w', Below w4.heap.size w4 w' → w'.cell? ⟨bA, oA + k * 8 + 1, none⟩ = some (.int .i64 a0) := g 1 (by omega); have g2 : ∀ w', Below w4.heap.size w4 w' → w'.cell? ⟨bA, oA + k * 8 + 2, none⟩ = some (.int .i64 b0) := g 2 (by omega); have g3 : ∀ w', Below w4.heap.size w4 w' → w'.cell? ⟨bA, oA + k * 8 + 3, none⟩ = some (.int .i64 c0) := g 3 (by omega); have g4 : ∀ w', Below w4.heap.size w4 w' → w'.cell? ⟨bA, oA + k * 8 + 4, none⟩ = some (.int .i64 pr) := g 4 (by omega); have g5 : ∀ w', Below w4.heap.size w4 w' → w'.cell? ⟨bA, oA + k * 8 + 5, none⟩ = some (.int .i64 pw) := g 5 (by omega); have g6 : ∀ w', Below w4.heap.size w4 w' → w'.cell? ⟨bA, oA + k * 8 + 6, none⟩ = some (.int .i64 pl) := g 6 (by omega); have g7 : ∀ w', Below w4.heap.size w4 w' → w'.cell? ⟨bA, oA + k * 8 + 7, none⟩ = some (.int .i64 pb') := g 7 (by omega); have x0 := HDW.out.2.2.rule 0 _ rfl; have x1 := HDW.out.2.2.rule 1 _ rfl; have x2 := HDW.out.2.2.rule 2 _ rfl; have x3 := HDW.out.2.2.rule 3 _ rfl
            (try simp only [] at x0 x1 x2 x3)
            clear g
            go_upto_region 10 with fail
            refine lxR (fun w' => Below w4.heap.size w4 w') [10] 7 [(0, 0), (2, 1), (2, 2), (2, 3), (0, 4)] #[true, true, true, true, true, false, false, false, false, false, false, false] (by kernel_rfl) (by kernel_rfl) (by decide) (by kernel_rfl) (by kernel_rfl) (fun _ _ _ _ _ h => h) (by (first | assumption | exact rr.drew | exact bwA (by assumption) _ | exact (bwA rr _).drew)) (fun hS0 => ?_)
            simp only [List.map_cons, List.map_nil, List.getElem?_toArray, List.getElem?_cons_succ, List.getElem?_cons_zero]
            (apply lxT (by rfl); (focus (intro w hw; (try dsimp only at hw); go_simp; (try with_reducible rfl); done)); simp only [Act.put, zA48, zB48, zC48]); (iterate 3 ((apply lxP (by rfl); (focus (intro w; go_simp; (try with_reducible rfl); done)); simp only [Act.put, zA48, zB48, zC48]))); (apply lxT (by rfl); (focus (intro w hw; (try dsimp only at hw); go_simp; (try with_reducible rfl); done)); simp only [Act.put, zA48, zB48, zC48])
            refine lxN (fun hS2 => ?_)
            refine lexg_fork2 (i := 5) (j := 9) (by kernel_rfl) (by kernel_rfl : _ = #[true, true, true, true, true, true, false, false, false, false, false, false]) (by kernel_rfl : _ = #[true, true, true, true, true, false, false, false, false, true, false, false]) ?_ ?_
            focus
              apply lxA (by simp only [List.getElem?_toArray, List.getElem?_cons_succ, List.getElem?_cons_zero]; rfl) (by rfl)
              go_simp
              ((go_at_call 10; first
                                  | (refine (HAP.out (w4.heap.size :: [sb, ex]) (fun z hz => (List.mem_cons.1 hz).elim (fun e => Or.inr (Nat.le_of_eq e.symm)) Or.inl) _ (by assumption) (fun z hz => by have h1 := HMM.out.1; simp only [drew_size, alloc_size]; rcases List.mem_cons.1 hz with e | hz <;> first | omega | (have := h1 z hz; omega))).mono ?_; rintro e w5 ⟨A4, c4, V4, B4, d4, C4, D4, e4, rfl, hd5, ho5, hb5⟩; have hb5q : Below w4.heap.size w4 w5 := bwP hb5 (by assumption); have qb : Blk w5 w4.heap.size 31 [.slice none 0 0, .slice none 0 0, .slice none 0 0, .int .i64 0] := Blk.below (by first | exact Blk.new rfl | exact Blk.drewC5 (Blk.new rfl)) hb5; have H5 := hide (And.intro hd5 (And.intro ho5 qb)); have q0 := qb.cell 0; have q1 := qb.cell 1; have q2 := qb.cell 2; have q3 := qb.cell 3; have qf := qb.frozen; simp only [List.getElem?_cons_succ, List.getElem?_cons_zero] at q0 q1 q2 q3; clear qb hd5 ho5 hb5)
                                  | (refine (HAP.out [sb, ex] (fun z hz => Or.inl hz) _ (by assumption) (by exact fun z hz => HMM.out.1 z hz)).mono ?_; rintro e w5 ⟨A4, c4, V4, B4, d4, C4, D4, e4, rfl, hd5, ho5, hb5⟩; have hb5q : Below w4.heap.size w4 w5 := bwP hb5 (by assumption); have H5 := hide (And.intro hd5 ho5); clear hd5 ho5 hb5)))
              refine lxB (by (first | assumption | exact rr.drew | exact bwA (by assumption) _ | exact (bwA rr _).drew)) (fun hS1 => ?_)
              refine lxM 0 [(2, 6), (2, 7), (2, 8), (1, 9), (3, 10), (2, 11)] #[true, true, true, true, true, true, true, true, true, true, true, true] (by kernel_rfl) (by decide) (by kernel_rfl) (by kernel_rfl) (fun _ _ _ _ _ h => h) (fun _ => by assumption) ?_
              simp only [List.map_cons, List.map_nil, List.getElem?_toArray, List.getElem?_cons_succ, List.getElem?_cons_zero]
              (iterate 3 ((apply lxP (by rfl); (focus (intro w; go_simp; (try with_reducible rfl); done)); simp only [Act.put, zA48, zB48, zC48]))); (refine lxE (by rfl) ?_; go_simp; refine lxB (by (first | assumption | exact rr.drew | exact bwA (by assumption) _ | exact (bwA rr _).drew)) (fun hS1 => ?_)); (refine lxF (by rfl) ?_; go_simp); (apply lxP (by rfl); (focus (intro w; go_simp; (try with_reducible rfl); done)); simp only [Act.put, zA48, zB48, zC48])
              refine lxN (fun _ => wqD (by kernel_rfl) ?_ _)
            rotate_left
            focus
              apply lxA (by simp only [List.getElem?_toArray, List.getElem?_cons_succ, List.getElem?_cons_zero]; rfl) (by rfl)
              go_simp
              refine lxB (by (first | assumption | exact rr.drew | exact bwA (by assumption) _ | exact (bwA rr _).drew)) (fun hS1 => ?_)
              refine lxM 0 [(1, 5), (2, 6), (2, 7), (2, 8), (3, 10), (2, 11)] #[true, true, true, true, true, true, true, true, true, true, true, true] (by kernel_rfl) (by decide) (by kernel_rfl) (by kernel_rfl) (fun _ _ _ _ _ h => h) (fun _ => by assumption) ?_
              simp only [List.map_cons, List.map_nil, List.getElem?_toArray, List.getElem?_cons_succ, List.getElem?_cons_zero]
              (refine lxE (by rfl) ?_; go_simp; ((go_at_call 10; first
                                  | (refine (HAP.out (w4.heap.size :: [sb, ex]) (fun z hz => (List.mem_cons.1 hz).elim (fun e => Or.inr (Nat.le_of_eq e.symm)) Or.inl) _ (by assumption) (fun z hz => by have h1 := HMM.out.1; simp only [drew_size, alloc_size]; rcases List.mem_cons.1 hz with e | hz <;> first | omega | (have := h1 z hz; omega))).mono ?_; rintro e w5 ⟨A4, c4, V4, B4, d4, C4, D4, e4, rfl, hd5, ho5, hb5⟩; have hb5q : Below w4.heap.size w4 w5 := bwP hb5 (by assumption); have qb : Blk w5 w4.heap.size 31 [.slice none 0 0, .slice none 0 0, .slice none 0 0, .int .i64 0] := Blk.below (by first | exact Blk.new rfl | exact Blk.drewC5 (Blk.new rfl)) hb5; have H5 := hide (And.intro hd5 (And.intro ho5 qb)); have q0 := qb.cell 0; have q1 := qb.cell 1; have q2 := qb.cell 2; have q3 := qb.cell 3; have qf := qb.frozen; simp only [List.getElem?_cons_succ, List.getElem?_cons_zero] at q0 q1 q2 q3; clear qb hd5 ho5 hb5)
                                  | (refine (HAP.out [sb, ex] (fun z hz => Or.inl hz) _ (by assumption) (by exact fun z hz => HMM.out.1 z hz)).mono ?_; rintro e w5 ⟨A4, c4, V4, B4, d4, C4, D4, e4, rfl, hd5, ho5, hb5⟩; have hb5q : Below w4.heap.size w4 w5 := bwP hb5 (by assumption); have H5 := hide (And.intro hd5 ho5); clear hd5 ho5 hb5))); refine lxB (by (first | assumption | exact rr.drew | exact bwA (by assumption) _ | exact (bwA rr _).drew)) (fun hS1 => ?_))
              (iterate 3 ((apply lxP (by rfl); (focus (intro w; go_simp; (try with_reducible rfl); done)); simp only [Act.put, zA48, zB48, zC48]))); (refine lxF (by rfl) ?_; go_simp); (apply lxP (by rfl); (focus (intro w; go_simp; (try with_reducible rfl); done)); simp only [Act.put, zA48, zB48, zC48])
              refine lxN (fun _ => wqD (by kernel_rfl) ?_ _)
            rotate_left
            · skip
              rename_i hunm; clear hunm; obtain ⟨w6, hw6⟩ : ∃ w6, w5.alloc (.cells #[.slice A4 16 c4, .slice B4 V4.length d4, .slice D4 C4.length e4, .int .i64 S'.nx] 31) = w6 := ⟨_, rfl⟩; obtain ⟨by_, hby⟩ : ∃ by_, w5.heap.size = by_ := ⟨_, rfl⟩
              have hX : DM w6 [sb, ex] ⟨A4, c4, V4, B4, d4, C4, D4, e4⟩ S' ∧ OutA [sb, ex] ⟨A4, c4, V4, B4, d4, C4, D4, e4⟩ ∧ Blk w6 by_ 31 [.slice A4 16 c4, .slice B4 V4.length d4, .slice D4 C4.length e4, .int .i64 S'.nx] ∧ Below w4.heap.size w4 w6 := by
                subst hw6; subst hby
                exact ⟨H5.out.1.below ((Below.refl _ _).alloc (Nat.le_refl _) _), H5.out.2, Blk.new rfl, bwA hb5q _⟩
              have HX := hide hX; rw [hw6, hby]; clear hX hw6 hby hb5q hS0 hS1 x0 x1 x2 x3 rr g0 g1 g2 g3 g4 g5 g6 g7
              (try clear q0 q1 q2 q3 qf)
              have y0 := HX.out.2.2.1.cell 0; have y1 := HX.out.2.2.1.cell 1; have y2 := HX.out.2.2.1.cell 2; have y3 := HX.out.2.2.1.cell 3; have HE6 := hide (HDW.out.2.2.below HX.out.2.2.2); have e0 := HE6.out.cell 0; have e1 := HE6.out.cell 1; have e2 := HE6.out.cell 2; have e3 := HE6.out.cell 3; have ef := HE6.out.frozen; simp only [DV.cells, List.getElem?_cons_succ, List.getElem?_cons_zero] at y0 y1 y2 y3 e0 e1 e2 e3; obtain ⟨w7, hw7⟩ : ∃ w7, (((w6.setCell ⟨ex, 0, none⟩ (.slice A4 16 c4)).setCell ⟨ex, 1, none⟩ (.slice B4 V4.length d4)).setCell ⟨ex, 2, none⟩ (.slice D4 C4.length e4)).setCell ⟨ex, 3, none⟩ (.int .i64 S'.nx) = w7 := ⟨_, rfl⟩; have hc7 : Chg [ex] w6 w7 := hw7 ▸ chg4 w6 ex _ _ _ _; have hE7 : Blk w7 ex 31 [.slice A4 16 c4, .slice B4 V4.length d4, .slice D4 C4.length e4, .int .i64 S'.nx] := hw7 ▸ (((HE6.out.set 0 (.slice A4 16 c4)).set 1 (.slice B4 V4.length d4)).set 2 (.slice D4 C4.length e4)).set 3 (.int .i64 S'.nx); have hD7 := HX.out.1.chg HX.out.2.1 hc7 (fun z hz => by rw [List.mem_singleton.1 hz]; simp)
              have hV7 : VSK [ex] w7 sb S' (k + 1) := (HV4.out.below HX.out.2.2.2).chg hc7 (fun z hz => by
                rw [List.mem_singleton.1 hz]
                exact ⟨List.mem_singleton.2 rfl, HMM.out.2.symm, _, _, HE6.out⟩)
              have hB7 : Below W.heap.size W w7 := Chg.onto (HBW.out.trans (HX.out.2.2.2.mono HBW.out.size)) (Nat.le_trans HBW.out.size HX.out.2.2.2.size) hc7 (fun z hz => by rw [List.mem_singleton.1 hz]; exact HNE.out.2); have H7 := hide (And.intro hE7 (And.intro hD7 (And.intro hV7 hB7))); have HW7 := hide hw7; clear hw7 hc7 hE7 hD7 hV7 hB7; go_wp2; rw [HW7.out]; clear y0 y1 y2 y3 e0 e1 e2 e3 ef
              go_roundw
              case rel => exact ⟨k + 1, S', ⟨A4, c4, V4, B4, d4, C4, D4, e4⟩, by omega, by go_num, H7.out.2.2.1, HVI2.out, HVB2.out, H7.out.2.1, HX.out.2.1, H7.out.1, H7.out.2.2.2⟩
              case measure => simp [intOf]; omega
            · skip
              rename_i hunm; clear hunm; obtain ⟨w6, hw6⟩ : ∃ w6, (((w5.setCell ⟨w4.heap.size, 0, none⟩ (.slice A4 16 c4)).setCell ⟨w4.heap.size, 1, none⟩ (.slice B4 V4.length d4)).setCell ⟨w4.heap.size, 2, none⟩ (.slice D4 C4.length e4)).setCell ⟨w4.heap.size, 3, none⟩ (.int .i64 S'.nx) = w6 := ⟨_, rfl⟩; obtain ⟨by_, hby⟩ : ∃ by_, w4.heap.size = by_ := ⟨_, rfl⟩
              have hX : DM w6 [sb, ex] ⟨A4, c4, V4, B4, d4, C4, D4, e4⟩ S' ∧ OutA [sb, ex] ⟨A4, c4, V4, B4, d4, C4, D4, e4⟩ ∧ Blk w6 by_ 31 [.slice A4 16 c4, .slice B4 V4.length d4, .slice D4 C4.length e4, .int .i64 S'.nx] ∧ Below w4.heap.size w4 w6 := by
                subst hw6; subst hby
                exact plX H5.out.1 H5.out.2.1 H5.out.2.2 hb5q _ _ _ _
              have HX := hide hX; rw [hw6, hby]; clear hX hw6 hby hb5q hS0 hS1 x0 x1 x2 x3 rr g0 g1 g2 g3 g4 g5 g6 g7
              (try clear q0 q1 q2 q3 qf)
              have y0 := HX.out.2.2.1.cell 0; have y1 := HX.out.2.2.1.cell 1; have y2 := HX.out.2.2.1.cell 2; have y3 := HX.out.2.2.1.cell 3; have HE6 := hide (HDW.out.2.2.below HX.out.2.2.2); have e0 := HE6.out.cell 0; have e1 := HE6.out.cell 1; have e2 := HE6.out.cell 2; have e3 := HE6.out.cell 3; have ef := HE6.out.frozen; simp only [DV.cells, List.getElem?_cons_succ, List.getElem?_cons_zero] at y0 y1 y2 y3 e0 e1 e2 e3; obtain ⟨w7, hw7⟩ : ∃ w7, (((w6.setCell ⟨ex, 0, none⟩ (.slice A4 16 c4)).setCell ⟨ex, 1, none⟩ (.slice B4 V4.length d4)).setCell ⟨ex, 2, none⟩ (.slice D4 C4.length e4)).setCell ⟨ex, 3, none⟩ (.int .i64 S'.nx) = w7 := ⟨_, rfl⟩; have hc7 : Chg [ex] w6 w7 := hw7 ▸ chg4 w6 ex _ _ _ _; have hE7 : Blk w7 ex 31 [.slice A4 16 c4, .slice B4 V4.length d4, .slice D4 C4.length e4, .int .i64 S'.nx] := hw7 ▸ (((HE6.out.set 0 (.slice A4 16 c4)).set 1 (.slice B4 V4.length d4)).set 2 (.slice D4 C4.length e4)).set 3 (.int .i64 S'.nx); have hD7 := HX.out.1.chg HX.out.2.1 hc7 (fun z hz => by rw [List.mem_singleton.1 hz]; simp)
              have hV7 : VSK [ex] w7 sb S' (k + 1) := (HV4.out.below HX.out.2.2.2).chg hc7 (fun z hz => by
                rw [List.mem_singleton.1 hz]
                exact ⟨List.mem_singleton.2 rfl, HMM.out.2.symm, _, _, HE6.out⟩)
              have hB7 : Below W.heap.size W w7 := Chg.onto (HBW.out.trans (HX.out.2.2.2.mono HBW.out.size)) (Nat.le_trans HBW.out.size HX.out.2.2.2.size) hc7 (fun z hz => by rw [List.mem_singleton.1 hz]; exact HNE.out.2); have H7 := hide (And.intro hE7 (And.intro hD7 (And.intro hV7 hB7))); have HW7 := hide hw7; clear hw7 hc7 hE7 hD7 hV7 hB7; go_wp2; rw [HW7.out]; clear y0 y1 y2 y3 e0 e1 e2 e3 ef
              go_roundw
              case rel => exact ⟨k + 1, S', ⟨A4, c4, V4, B4, d4, C4, D4, e4⟩, by omega, by go_num, H7.out.2.2.1, HVI2.out, HVB2.out, H7.out.2.1, HX.out.2.1, H7.out.1, H7.out.2.2.2⟩
              case measure => simp [intOf]; omega
          · have i1 : ¬ (k : Int) < cs.length := by omega
            have HVK := hide HVS.out; obtain ⟨ok, no1, a1, a2, a3, V1, C1, hvm, hin⟩ := HVK.out; have hse := HVB.out.ser ok HVI.out (by omega); have hbo := ok.byt hse (by omega); have HOKS := hide (And.intro ok (And.intro hse hbo)); have HVM1 := hide hvm; have HBY1 := hide (vbytes_calls wr no1 sb a1 a2 a3 S V1 C1 hvm hbo); clear ok hvm hin hse hbo; go_wp2_with fail; refine HBY1.out.mono ?_; rintro e w5 ⟨A5, c5, rfl, ho5, hb5⟩
            have hex5 : ex < w5.heap.size := by have := HD.out.2.2.lt; have := hb5.size; omega
            have hLD := vload_calls [ex] w5 (by simpa using hex5) A5 c5 S.bytes (ho5.rb (no := []) (by simp)).rd (by have := HOKS.out.2.2.len; omega) (encs_byte _) (ldOk_ser HOKS.out.2.1 HOKS.out.2.2); rw [loadP_ser HOKS.out.2.1] at hLD; have HLD := hide hLD; have HB5 := hide (And.intro hb5 (HBR.out.trans (hb5.mono HBR.out.size))); clear hb5 ho5 hex5 HBY1 hLD; go_wp2_with fail; refine HLD.out.mono ?_; rintro e w6 ⟨hb6, no2, tb, n1, n2, n3, V2, C2, rfl, hvm2, hin2, htb⟩; have HB6 := hide (And.intro (HB5.out.1.trans (hb6.mono HB5.out.1.size)) (HB5.out.2.trans (hb6.mono HB5.out.2.size))); have HVT : Hid (VSK [ex] w6 tb S k) := hide ⟨HOKS.out.1, no2, n1, n2, n3, V2, C2, hvm2, hin2⟩; have HVM2 := hide hvm2; have htb2 : wr.heap.size ≤ tb := Nat.le_trans HB5.out.1.size htb
            have hM : ∀ z ∈ [tb, ex], z ∈ [sb, ex] ∨ wr.heap.size ≤ z := fun z hz => by
              simp only [List.mem_cons, List.mem_nil_iff, or_false] at hz ⊢
              rcases hz with rfl | rfl
              · exact Or.inr htb2
              · exact Or.inl (Or.inr rfl)
            have HDT := hide (And.intro ((HD.out.1.plus hM).below HB6.out.1) (And.intro (OutA.more HD.out.1 HD.out.2.1 hM) (HD.out.2.2.below HB6.out.1))); have HTB := hide (show W.heap.size ≤ tb ∧ tb ≠ ex from ⟨Nat.le_trans HBR.out.size htb2, by have := HD.out.2.2.lt; omega⟩); have HSH := hide (dshows_calls w6 tb k [tb, ex] x S HVT.out.vs (by omega) HDT.out.1 HVI.out); obtain ⟨Ap, cp, V, Av, cv, C, Ac, cc⟩ := x; unfold DV.val DV.cells at HSH; simp only [] at HSH; have e0 := HDT.out.2.2.cell 0; have e1 := HDT.out.2.2.cell 1; have e2 := HDT.out.2.2.cell 2; have e3 := HDT.out.2.2.cell 3; simp only [DV.cells, List.getElem?_cons_succ, List.getElem?_cons_zero] at e0 e1 e2 e3; clear hb6 hvm2 hin2 htb htb2 hM HLD; go_wp2_with fail; refine HSH.out.mono ?_; rintro e w7 ⟨rfl, hb7⟩; have HB7 := hide hb7; have HBYT := hide (vbytes_calls w7 no2 tb n1 n2 n3 S V2 C2 (HVM2.out.below hb7) HOKS.out.2.2); clear hb7 e0 e1 e2 e3 HSH; go_wp2_with fail; refine HBYT.out.mono ?_; rintro e w8 ⟨A8, c8, rfl, ho8, hb8⟩; have HB8 := hide (And.intro hb8 (HB7.out.trans (hb8.mono HB7.out.size))); have HO8 := hide ho8; have HBYS := hide (vbytes_calls w8 no1 sb a1 a2 a3 S V1 C1 ((HVM1.out.below HB6.out.1).below HB8.out.2) HOKS.out.2.2); clear hb8 ho8 HBYT; go_wp2_with fail; refine HBYS.out.mono ?_; rintro e w9 ⟨A9, c9, rfl, ho9, hb9⟩; have HB9 := hide (And.intro hb9 (HB8.out.2.trans (hb9.mono HB8.out.2.size))); have HSA := hide (sameBytes_calls S.bytes S.bytes A8 A9 c8 c9 w9 ((HO8.out.below hb9).rb (no := []) (by simp)).rd (ho9.rb (no := []) (by simp)).rd (by have := HOKS.out.2.2.len; omega) (by have := HOKS.out.2.2.len; omega)); clear hb9 ho9 HBYS HO8; go_wp2_with fail; refine HSA.out.mono ?_; rintro e wA ⟨rfl, nd, rfl⟩; have hbA := (HB9.out.2.trans ((below_drewN (Below.refl _ _) nd).mono HB9.out.2.size)); have HST2 := hide (And.intro (HVT.out.below hbA) (And.intro (HDT.out.1.below hbA) (And.intro HDT.out.2.1 (And.intro (HDT.out.2.2.below hbA) (HB6.out.2.trans (hbA.mono HB6.out.2.size)))))); have HVI1 := hide HVI.out
            have hdt : decide (True) = true := by simp
            (try rw [hdt])
            clear hbA hdt HSA HB9 HB8 HB7 HVM2 HVM1 HDT HVT HB6 HB5 HOKS HVK HVS HD HBR HVI HVB HST; clear i1 hlt; go_wp2_with fail
            go_loopw [14, 15, 16, 83, 84, 85, 86, 87, 88, 89, 90, 91, 92, 93, 94, 95, 96, 97, 98, 99, 100, 101, 102, 103, 104, 105, 106, 107, 108, 109, 110, 111, 112] (fun i _ _ _ _ _ _ _ _ _ _ _ _ _ _ _ _ _ _ _ _ _ _ _ _ _ _ _ _ _ _ _ _ wr => ∃ (q : Nat) (S : Vst) (x : DV), q ≤ ms.length ∧ i = .int .i64 q ∧ VSK [ex] wr tb S (k + q) ∧ VIn S ∧ DM wr [tb, ex] x S ∧ OutA [tb, ex] x ∧ Blk wr ex 31 (x.cells S.nx) ∧ Below W.heap.size W wr) (fun i _ _ _ _ _ _ _ _ _ _ _ _ _ _ _ _ _ _ _ _ _ _ _ _ _ _ _ _ _ _ _ _ _ => ms.length - (intOf i).toNat)
            case atStart => exact ⟨0, S, ⟨Ap, cp, V, Av, cv, C, Ac, cc⟩, Nat.zero_le _, rfl, HST2.out.1, HVI1.out, HST2.out.2.1, HST2.out.2.2.1, HST2.out.2.2.2.1, HST2.out.2.2.2.2⟩
            case round =>
              obtain ⟨q, S, x, hk, rfl, hvs, hvi, hdm, hoa, hex, hbr⟩ := hrel; have HVS := hide hvs; have HVI := hide hvi; have HD := hide (And.intro hdm (And.intro hoa hex)); have HBR := hide hbr
              have hk30' : q ≤ 30 := by have := HSM2.out; omega
              clear hvs hvi hdm hoa hex hbr
              by_cases hlt : q < ms.length
              · have i1 : (q : Int) < ms.length := by omega
                obtain ⟨bA, oA, eA, hbA, hcell⟩ := HR2.out.2 (by omega); obtain ⟨⟨k0, a0, b0, c0, ⟨pr, pw, pl, pb'⟩⟩, hq⟩ : ∃ q1, ms[q] = q1 := ⟨_, rfl⟩
                have hqok : (⟨k0, a0, b0, c0, ⟨pr, pw, pl, pb'⟩⟩ : Cmd).ok := by rw [← hq]; exact HOK2.out _ (List.getElem_mem _)
                have HRU : Hid (∀ w', Below W.heap.size W w' → ∀ j, (hj : j < 8) → w'.cell? ⟨bA, oA + q * 8 + j, none⟩ = (Cmd.cells ⟨k0, a0, b0, c0, ⟨pr, pw, pl, pb'⟩⟩)[j]?) := hide (fun w' hb j hj => by
                  have h1 := hb.cell (p := ⟨bA, oA + q * 8 + j, none⟩) hbA; rw [h1]; have h2 := cmdCells_get ms q j hlt hj; rw [hq] at h2; have h3 : j < (Cmd.cells ⟨k0, a0, b0, c0, ⟨pr, pw, pl, pb'⟩⟩).length := hj; rw [List.getElem?_eq_getElem h3] at h2 ⊢; have := hcell _ _ h2; rw [← this]
                  congr 2
                  omega)
                have HQK := hide hqok; obtain ⟨⟨S', er⟩, hR⟩ : ∃ R, S.apply ⟨k0, a0, b0, c0, ⟨pr, pw, pl, pb'⟩⟩ = R := ⟨_, rfl⟩; have hVA := hide (fun w' (h : VSK [ex] w' tb S (k + q)) => vapplyK_calls (K := [ex]) w' tb (k + q) S ⟨k0, a0, b0, c0, ⟨pr, pw, pl, pb'⟩⟩ h (by omega) hqok); have hVI' := HVI.out.apply HVS.out.vs.ok ⟨k0, a0, b0, c0, ⟨pr, pw, pl, pb'⟩⟩; rw [hR] at hVA hVI'; have HVI2 := hide hVI'; obtain ⟨Ap, cp, V, Av, cv, C, Ac, cc⟩ := x
                have HAP : Hid (∀ M : List Nat, (∀ z ∈ M, z ∈ [tb, ex] ∨ wr.heap.size ≤ z) → ∀ w', Below wr.heap.size wr w' → (∀ z ∈ M, z < w'.heap.size) → Calls Tryz.prog 10 #[.agg #[.slice Ap 16 cp, .slice Av V.length cv, .slice Ac C.length cc, .int .i64 S.nx], .agg #[.int .i64 k0, .int .i64 a0, .int .i64 b0, .int .i64 c0, .int .i64 pr, .int .i64 pw, .int .i64 pl, .int .i64 pb']] w' fun e w'' =>
                    ∃ A4 c4 V4 B4 d4 C4 D4 e4, e = .returned (.tuple #[.agg #[.slice A4 16 c4, .slice B4 (List.length V4) d4, .slice D4 (List.length C4) e4, .int .i64 S'.nx], .int .i64 er]) ∧ DM w'' M ⟨A4, c4, V4, B4, d4, C4, D4, e4⟩ S' ∧ OutA M ⟨A4, c4, V4, B4, d4, C4, D4, e4⟩ ∧ Below w'.heap.size w' w'') :=
                  hide (fun M hM w' hb hMl => by
                    have hls := HVS.out.vs.ok.lens (by omega); have hlV := HD.out.1.lenV; have hlC := HD.out.1.lenC; simp only [] at hlV hlC; have hn := HVS.out.vs.ok.nx2; have hcl := rise_len (a := 1) (b := S.nx) HVS.out.vs.ok.csr (fun x hx => by have := HVS.out.vs.ok.csa x hx; omega); have hc := dapply_calls w' M ⟨Ap, cp, V, Av, cv, C, Ac, cc⟩ S (k + q) ⟨k0, a0, b0, c0, ⟨pr, pw, pl, pb'⟩⟩ ((HD.out.1.plus hM).below hb) hMl (OutA.more HD.out.1 HD.out.2.1 hM) HVS.out.vs.ok HVI.out (by omega) HQK.out (by simp only []; omega) (by simp only []; omega); rw [hR] at hc
                    refine hc.mono (fun e w'' hh => ?_)
                    obtain ⟨⟨A4, c4, V4, B4, d4, C4, D4, e4⟩, he, hd, ho, hbw⟩ := hh
                    exact ⟨A4, c4, V4, B4, d4, C4, D4, e4, he, hd, ho, hbw⟩)
                have rr := Below.refl wr.heap.size wr
                have g := fun j (hj : j < 8) w' (hb : Below wr.heap.size wr w') => HRU.out w' (HBR.out.trans (hb.mono HBR.out.size)) j hj
                have g0 : ∀ w', Below wr.heap.size wr w' → w'.cell? ⟨bA, oA + q * 8, none⟩ = some (.int .i64 k0) := g 0 (by omega); have g1 : ∀ w', Below wr.heap.size wr w' → w'.cell? ⟨bA, oA + q * 8 + 1, none⟩ = some (.int .i64 a0) := g 1 (by omega); have g2 : ∀ w', Below wr.heap.size wr w' → w'.cell? ⟨bA, oA + q * 8 + 2, none⟩ = some (.int .i64 b0) := g 2 (by omega); have g3 : ∀ w', Below wr.heap.size wr w' → w'.cell? ⟨bA, oA + q * 8 + 3, none⟩ = some (.int .i64 c0) := g 3 (by omega); have g4 : ∀ w', Below wr.heap.size wr w' → w'.cell? ⟨bA, oA + q * 8 + 4, none⟩ = some (.int .i64 pr) := g 4 (by omega); have g5 : ∀ w', Below wr.heap.size wr w' → w'.cell? ⟨bA, oA + q * 8 + 5, none⟩ = some (.int .i64 pw) := g 5 (by omega); have g6 : ∀ w', Below wr.heap.size wr w' → w'.cell? ⟨bA, oA + q * 8 + 6, none⟩ = some (.int .i64 pl) := g 6 (by omega); have g7 : ∀ w', Below wr.heap.size wr w' → w'.cell? ⟨bA, oA + q * 8 + 7, none⟩ = some (.int .i64 pb') := g 7 (by omega); have x0 := HD.out.2.2.rule 0 _ rfl; have x1 := HD.out.2.2.rule 1 _ rfl; have x2 := HD.out.2.2.rule 2 _ rfl; have x3 := HD.out.2.2.rule 3 _ rfl
                (try simp only [] at x0 x1 x2 x3)
                have HMM : Hid ((∀ z ∈ [tb, ex], z < wr.heap.size) ∧ tb ≠ ex) := hide ⟨fun z hz => by
                  have h1 := HVS.out.vs.lt; have h2 := HD.out.2.2.lt; simp only [List.mem_cons, List.mem_nil_iff, or_false] at hz
                  rcases hz with rfl | rfl <;> assumption, HTB.out.2⟩
                subst eA; clear hq hqok hcell hbA g hR hVI'
                go_upto_region 18 with fail
                refine lxR (fun w' => Below wr.heap.size wr w') [10] 7 [(0, 0), (2, 1), (2, 2), (2, 3), (0, 4)] #[true, true, true, true, true, false, false, false, false, false, false, false] (by kernel_rfl) (by kernel_rfl) (by decide) (by kernel_rfl) (by kernel_rfl) (fun _ _ _ _ _ h => h) (by (first | assumption | exact rr.drew | exact bwA (by assumption) _ | exact (bwA rr _).drew)) (fun hS0 => ?_)
                simp only [List.map_cons, List.map_nil, List.getElem?_toArray, List.getElem?_cons_succ, List.getElem?_cons_zero]
                (apply lxT (by rfl); (focus (intro w hw; (try dsimp only at hw); go_simp; (try with_reducible rfl); done)); simp only [Act.put, zA48, zB48, zC48]); (iterate 3 ((apply lxP (by rfl); (focus (intro w; go_simp; (try with_reducible rfl); done)); simp only [Act.put, zA48, zB48, zC48]))); (apply lxT (by rfl); (focus (intro w hw; (try dsimp only at hw); go_simp; (try with_reducible rfl); done)); simp only [Act.put, zA48, zB48, zC48])
                refine lxN (fun hS2 => ?_)
                refine lexg_fork2 (i := 5) (j := 9) (by kernel_rfl) (by kernel_rfl : _ = #[true, true, true, true, true, true, false, false, false, false, false, false]) (by kernel_rfl : _ = #[true, true, true, true, true, false, false, false, false, true, false, false]) ?_ ?_
                focus
                  apply lxA (by simp only [List.getElem?_toArray, List.getElem?_cons_succ, List.getElem?_cons_zero]; rfl) (by rfl)
                  go_simp
                  ((go_at_call 10; first
                                          | (refine (HAP.out (wr.heap.size :: [tb, ex]) (fun z hz => (List.mem_cons.1 hz).elim (fun e => Or.inr (Nat.le_of_eq e.symm)) Or.inl) _ (by assumption) (fun z hz => by have h1 := HMM.out.1; simp only [drew_size, alloc_size]; rcases List.mem_cons.1 hz with e | hz <;> first | omega | (have := h1 z hz; omega))).mono ?_; rintro e w5 ⟨A4, c4, V4, B4, d4, C4, D4, e4, rfl, hd5, ho5, hb5⟩; have hb5q : Below wr.heap.size wr w5 := bwP hb5 (by assumption); have qb : Blk w5 wr.heap.size 31 [.slice none 0 0, .slice none 0 0, .slice none 0 0, .int .i64 0] := Blk.below (by first | exact Blk.new rfl | exact Blk.drewC5 (Blk.new rfl)) hb5; have H5 := hide (And.intro hd5 (And.intro ho5 qb)); have q0 := qb.cell 0; have q1 := qb.cell 1; have q2 := qb.cell 2; have q3 := qb.cell 3; have qf := qb.frozen; simp only [List.getElem?_cons_succ, List.getElem?_cons_zero] at q0 q1 q2 q3; clear qb hd5 ho5 hb5)
                                          | (refine (HAP.out [tb, ex] (fun z hz => Or.inl hz) _ (by assumption) (by exact fun z hz => HMM.out.1 z hz)).mono ?_; rintro e w5 ⟨A4, c4, V4, B4, d4, C4, D4, e4, rfl, hd5, ho5, hb5⟩; have hb5q : Below wr.heap.size wr w5 := bwP hb5 (by assumption); have H5 := hide (And.intro hd5 ho5); clear hd5 ho5 hb5)))
                  refine lxB (by (first | assumption | exact rr.drew | exact bwA (by assumption) _ | exact (bwA rr _).drew)) (fun hS1 => ?_)
                  refine lxM 0 [(2, 6), (2, 7), (2, 8), (1, 9), (3, 10), (2, 11)] #[true, true, true, true, true, true, true, true, true, true, true, true] (by kernel_rfl) (by decide) (by kernel_rfl) (by kernel_rfl) (fun _ _ _ _ _ h => h) (fun _ => by assumption) ?_
                  simp only [List.map_cons, List.map_nil, List.getElem?_toArray, List.getElem?_cons_succ, List.getElem?_cons_zero]
                  (iterate 3 ((apply lxP (by rfl); (focus (intro w; go_simp; (try with_reducible rfl); done)); simp only [Act.put, zA48, zB48, zC48]))); (refine lxE (by rfl) ?_; go_simp; refine lxB (by (first | assumption | exact rr.drew | exact bwA (by assumption) _ | exact (bwA rr _).drew)) (fun hS1 => ?_)); (refine lxF (by rfl) ?_; go_simp); (apply lxP (by rfl); (focus (intro w; go_simp; (try with_reducible rfl); done)); simp only [Act.put, zA48, zB48, zC48])
                  refine lxN (fun _ => wqD (by kernel_rfl) ?_ _)
                rotate_left
                focus
                  apply lxA (by simp only [List.getElem?_toArray, List.getElem?_cons_succ, List.getElem?_cons_zero]; rfl) (by rfl)
                  go_simp
                  refine lxB (by (first | assumption | exact rr.drew | exact bwA (by assumption) _ | exact (bwA rr _).drew)) (fun hS1 => ?_)
                  refine lxM 0 [(1, 5), (2, 6), (2, 7), (2, 8), (3, 10), (2, 11)] #[true, true, true, true, true, true, true, true, true, true, true, true] (by kernel_rfl) (by decide) (by kernel_rfl) (by kernel_rfl) (fun _ _ _ _ _ h => h) (fun _ => by assumption) ?_
                  simp only [List.map_cons, List.map_nil, List.getElem?_toArray, List.getElem?_cons_succ, List.getElem?_cons_zero]
                  (refine lxE (by rfl) ?_; go_simp; ((go_at_call 10; first
                                          | (refine (HAP.out (wr.heap.size :: [tb, ex]) (fun z hz => (List.mem_cons.1 hz).elim (fun e => Or.inr (Nat.le_of_eq e.symm)) Or.inl) _ (by assumption) (fun z hz => by have h1 := HMM.out.1; simp only [drew_size, alloc_size]; rcases List.mem_cons.1 hz with e | hz <;> first | omega | (have := h1 z hz; omega))).mono ?_; rintro e w5 ⟨A4, c4, V4, B4, d4, C4, D4, e4, rfl, hd5, ho5, hb5⟩; have hb5q : Below wr.heap.size wr w5 := bwP hb5 (by assumption); have qb : Blk w5 wr.heap.size 31 [.slice none 0 0, .slice none 0 0, .slice none 0 0, .int .i64 0] := Blk.below (by first | exact Blk.new rfl | exact Blk.drewC5 (Blk.new rfl)) hb5; have H5 := hide (And.intro hd5 (And.intro ho5 qb)); have q0 := qb.cell 0; have q1 := qb.cell 1; have q2 := qb.cell 2; have q3 := qb.cell 3; have qf := qb.frozen; simp only [List.getElem?_cons_succ, List.getElem?_cons_zero] at q0 q1 q2 q3; clear qb hd5 ho5 hb5)
                                          | (refine (HAP.out [tb, ex] (fun z hz => Or.inl hz) _ (by assumption) (by exact fun z hz => HMM.out.1 z hz)).mono ?_; rintro e w5 ⟨A4, c4, V4, B4, d4, C4, D4, e4, rfl, hd5, ho5, hb5⟩; have hb5q : Below wr.heap.size wr w5 := bwP hb5 (by assumption); have H5 := hide (And.intro hd5 ho5); clear hd5 ho5 hb5))); refine lxB (by (first | assumption | exact rr.drew | exact bwA (by assumption) _ | exact (bwA rr _).drew)) (fun hS1 => ?_))
                  (iterate 3 ((apply lxP (by rfl); (focus (intro w; go_simp; (try with_reducible rfl); done)); simp only [Act.put, zA48, zB48, zC48]))); (refine lxF (by rfl) ?_; go_simp); (apply lxP (by rfl); (focus (intro w; go_simp; (try with_reducible rfl); done)); simp only [Act.put, zA48, zB48, zC48])
                  refine lxN (fun _ => wqD (by kernel_rfl) ?_ _)
                rotate_left
                · skip
                  rename_i hunm; clear hunm; obtain ⟨w6, hw6⟩ : ∃ w6, w5.alloc (.cells #[.slice A4 16 c4, .slice B4 V4.length d4, .slice D4 C4.length e4, .int .i64 S'.nx] 31) = w6 := ⟨_, rfl⟩; obtain ⟨by_, hby⟩ : ∃ by_, w5.heap.size = by_ := ⟨_, rfl⟩
                  have hX : DM w6 [tb, ex] ⟨A4, c4, V4, B4, d4, C4, D4, e4⟩ S' ∧ OutA [tb, ex] ⟨A4, c4, V4, B4, d4, C4, D4, e4⟩ ∧ Blk w6 by_ 31 [.slice A4 16 c4, .slice B4 V4.length d4, .slice D4 C4.length e4, .int .i64 S'.nx] ∧ Below wr.heap.size wr w6 := by
                    subst hw6; subst hby
                    exact ⟨H5.out.1.below ((Below.refl _ _).alloc (Nat.le_refl _) _), H5.out.2, Blk.new rfl, bwA hb5q _⟩
                  have HX := hide hX; rw [hw6, hby]; clear hX hw6 hby hb5q hS0 hS1 x0 x1 x2 x3 rr g0 g1 g2 g3 g4 g5 g6 g7
                  (try clear q0 q1 q2 q3 qf)
                  have y0 := HX.out.2.2.1.cell 0; have y1 := HX.out.2.2.1.cell 1; have y2 := HX.out.2.2.1.cell 2; have y3 := HX.out.2.2.1.cell 3; have HE6 := hide (HD.out.2.2.below HX.out.2.2.2); have e0 := HE6.out.cell 0; have e1 := HE6.out.cell 1; have e2 := HE6.out.cell 2; have e3 := HE6.out.cell 3; have ef := HE6.out.frozen; simp only [DV.cells, List.getElem?_cons_succ, List.getElem?_cons_zero] at y0 y1 y2 y3 e0 e1 e2 e3; obtain ⟨w7, hw7⟩ : ∃ w7, (((w6.setCell ⟨ex, 0, none⟩ (.slice A4 16 c4)).setCell ⟨ex, 1, none⟩ (.slice B4 V4.length d4)).setCell ⟨ex, 2, none⟩ (.slice D4 C4.length e4)).setCell ⟨ex, 3, none⟩ (.int .i64 S'.nx) = w7 := ⟨_, rfl⟩; have hc7 : Chg [ex] w6 w7 := hw7 ▸ chg4 w6 ex _ _ _ _; have hE7 : Blk w7 ex 31 [.slice A4 16 c4, .slice B4 V4.length d4, .slice D4 C4.length e4, .int .i64 S'.nx] := hw7 ▸ (((HE6.out.set 0 (.slice A4 16 c4)).set 1 (.slice B4 V4.length d4)).set 2 (.slice D4 C4.length e4)).set 3 (.int .i64 S'.nx); have hD7 := HX.out.1.chg HX.out.2.1 hc7 (fun z hz => by rw [List.mem_singleton.1 hz]; simp)
                  have hV7 : VSK [ex] w7 tb S (k + q) := (HVS.out.below HX.out.2.2.2).chg hc7 (fun z hz => by
                    rw [List.mem_singleton.1 hz]
                    exact ⟨List.mem_singleton.2 rfl, HMM.out.2.symm, _, _, HE6.out⟩)
                  have hB7 : Below W.heap.size W w7 := Chg.onto (HBR.out.trans (HX.out.2.2.2.mono HBR.out.size)) (Nat.le_trans HBR.out.size HX.out.2.2.2.size) hc7 (fun z hz => by rw [List.mem_singleton.1 hz]; exact HNE.out.2); have H7 := hide (And.intro hE7 (And.intro hD7 (And.intro hV7 hB7))); have HW7 := hide hw7; clear hw7 hc7 hE7 hD7 hV7 hB7
                  go_upto_region 20 with fail
                  rw [HW7.out]; clear y0 y1 y2 y3 e0 e1 e2 e3 ef; have k0' := HRU.out w7 H7.out.2.2.2 0 (by omega); have k1' := HRU.out w7 H7.out.2.2.2 1 (by omega); have k2' := HRU.out w7 H7.out.2.2.2 2 (by omega); have k3' := HRU.out w7 H7.out.2.2.2 3 (by omega); have k4' := HRU.out w7 H7.out.2.2.2 4 (by omega); have k5' := HRU.out w7 H7.out.2.2.2 5 (by omega); have k6' := HRU.out w7 H7.out.2.2.2 6 (by omega); have k7' := HRU.out w7 H7.out.2.2.2 7 (by omega); simp only [Cmd.cells, List.getElem?_cons_succ, List.getElem?_cons_zero, Nat.add_zero] at k0' k1' k2' k3' k4' k5' k6' k7'; have HVC := hide (hVA.out w7 H7.out.2.2.1); unfold Cmd.val Cmd.cells at HVC; simp only [] at HVC; go_wp2_with fail; refine HVC.out.mono ?_; rintro e w8 ⟨z, rfl, hz, hc8, hv8⟩; subst hz; have hE8 := H7.out.1.chg hc8 (by simp; exact HMM.out.2.symm); have hD8 := H7.out.2.1.chg HX.out.2.1 hc8 (fun z hz => by rw [List.mem_singleton.1 hz]; simp); have hB8 : Below W.heap.size W w8 := Chg.onto H7.out.2.2.2 H7.out.2.2.2.size hc8 (fun z hz => by rw [List.mem_singleton.1 hz]; exact HTB.out.1); have HSH := hide (dshows_calls w8 tb (k + q + 1) [tb, ex] ⟨A4, c4, V4, B4, d4, C4, D4, e4⟩ S' hv8.vs (by omega) hD8 HVI2.out); unfold DV.val DV.cells at HSH; simp only [] at HSH; have H8 := hide (And.intro hE8 (And.intro hD8 (And.intro hv8 hB8))); have e0 := hE8.cell 0; have e1 := hE8.cell 1; have e2 := hE8.cell 2; have e3 := hE8.cell 3; simp only [List.getElem?_cons_succ, List.getElem?_cons_zero] at e0 e1 e2 e3; clear hc8 hv8 hE8 hD8 hB8 k0' k1' k2' k3' k4' k5' k6' k7' HVC; go_wp2_with fail; refine HSH.out.mono ?_; rintro e w9 ⟨rfl, hb9⟩; have H9 := hide (And.intro (H8.out.1.below hb9) (And.intro (H8.out.2.1.below hb9) (And.intro (H8.out.2.2.1.below hb9) (H8.out.2.2.2.trans (hb9.mono H8.out.2.2.2.size))))); clear hb9 e0 e1 e2 e3 HSH; go_wp2
                  go_roundw
                  case rel => exact ⟨q + 1, S', ⟨A4, c4, V4, B4, d4, C4, D4, e4⟩, by omega, by go_num, H9.out.2.2.1, HVI2.out, H9.out.2.1, HX.out.2.1, H9.out.1, H9.out.2.2.2⟩
                  case measure => simp [intOf]; omega
                · skip
                  rename_i hunm; clear hunm; obtain ⟨w6, hw6⟩ : ∃ w6, (((w5.setCell ⟨wr.heap.size, 0, none⟩ (.slice A4 16 c4)).setCell ⟨wr.heap.size, 1, none⟩ (.slice B4 V4.length d4)).setCell ⟨wr.heap.size, 2, none⟩ (.slice D4 C4.length e4)).setCell ⟨wr.heap.size, 3, none⟩ (.int .i64 S'.nx) = w6 := ⟨_, rfl⟩; obtain ⟨by_, hby⟩ : ∃ by_, wr.heap.size = by_ := ⟨_, rfl⟩
                  have hX : DM w6 [tb, ex] ⟨A4, c4, V4, B4, d4, C4, D4, e4⟩ S' ∧ OutA [tb, ex] ⟨A4, c4, V4, B4, d4, C4, D4, e4⟩ ∧ Blk w6 by_ 31 [.slice A4 16 c4, .slice B4 V4.length d4, .slice D4 C4.length e4, .int .i64 S'.nx] ∧ Below wr.heap.size wr w6 := by
                    subst hw6; subst hby
                    exact plX H5.out.1 H5.out.2.1 H5.out.2.2 hb5q _ _ _ _
                  have HX := hide hX; rw [hw6, hby]; clear hX hw6 hby hb5q hS0 hS1 x0 x1 x2 x3 rr g0 g1 g2 g3 g4 g5 g6 g7
                  (try clear q0 q1 q2 q3 qf)
                  have y0 := HX.out.2.2.1.cell 0; have y1 := HX.out.2.2.1.cell 1; have y2 := HX.out.2.2.1.cell 2; have y3 := HX.out.2.2.1.cell 3; have HE6 := hide (HD.out.2.2.below HX.out.2.2.2); have e0 := HE6.out.cell 0; have e1 := HE6.out.cell 1; have e2 := HE6.out.cell 2; have e3 := HE6.out.cell 3; have ef := HE6.out.frozen; simp only [DV.cells, List.getElem?_cons_succ, List.getElem?_cons_zero] at y0 y1 y2 y3 e0 e1 e2 e3; obtain ⟨w7, hw7⟩ : ∃ w7, (((w6.setCell ⟨ex, 0, none⟩ (.slice A4 16 c4)).setCell ⟨ex, 1, none⟩ (.slice B4 V4.length d4)).setCell ⟨ex, 2, none⟩ (.slice D4 C4.length e4)).setCell ⟨ex, 3, none⟩ (.int .i64 S'.nx) = w7 := ⟨_, rfl⟩; have hc7 : Chg [ex] w6 w7 := hw7 ▸ chg4 w6 ex _ _ _ _; have hE7 : Blk w7 ex 31 [.slice A4 16 c4, .slice B4 V4.length d4, .slice D4 C4.length e4, .int .i64 S'.nx] := hw7 ▸ (((HE6.out.set 0 (.slice A4 16 c4)).set 1 (.slice B4 V4.length d4)).set 2 (.slice D4 C4.length e4)).set 3 (.int .i64 S'.nx); have hD7 := HX.out.1.chg HX.out.2.1 hc7 (fun z hz => by rw [List.mem_singleton.1 hz]; simp)
                  have hV7 : VSK [ex] w7 tb S (k + q) := (HVS.out.below HX.out.2.2.2).chg hc7 (fun z hz => by
                    rw [List.mem_singleton.1 hz]
                    exact ⟨List.mem_singleton.2 rfl, HMM.out.2.symm, _, _, HE6.out⟩)
                  have hB7 : Below W.heap.size W w7 := Chg.onto (HBR.out.trans (HX.out.2.2.2.mono HBR.out.size)) (Nat.le_trans HBR.out.size HX.out.2.2.2.size) hc7 (fun z hz => by rw [List.mem_singleton.1 hz]; exact HNE.out.2); have H7 := hide (And.intro hE7 (And.intro hD7 (And.intro hV7 hB7))); have HW7 := hide hw7; clear hw7 hc7 hE7 hD7 hV7 hB7
                  go_upto_region 20 with fail
                  rw [HW7.out]; clear y0 y1 y2 y3 e0 e1 e2 e3 ef; have k0' := HRU.out w7 H7.out.2.2.2 0 (by omega); have k1' := HRU.out w7 H7.out.2.2.2 1 (by omega); have k2' := HRU.out w7 H7.out.2.2.2 2 (by omega); have k3' := HRU.out w7 H7.out.2.2.2 3 (by omega); have k4' := HRU.out w7 H7.out.2.2.2 4 (by omega); have k5' := HRU.out w7 H7.out.2.2.2 5 (by omega); have k6' := HRU.out w7 H7.out.2.2.2 6 (by omega); have k7' := HRU.out w7 H7.out.2.2.2 7 (by omega); simp only [Cmd.cells, List.getElem?_cons_succ, List.getElem?_cons_zero, Nat.add_zero] at k0' k1' k2' k3' k4' k5' k6' k7'; have HVC := hide (hVA.out w7 H7.out.2.2.1); unfold Cmd.val Cmd.cells at HVC; simp only [] at HVC; go_wp2_with fail; refine HVC.out.mono ?_; rintro e w8 ⟨z, rfl, hz, hc8, hv8⟩; subst hz; have hE8 := H7.out.1.chg hc8 (by simp; exact HMM.out.2.symm); have hD8 := H7.out.2.1.chg HX.out.2.1 hc8 (fun z hz => by rw [List.mem_singleton.1 hz]; simp); have hB8 : Below W.heap.size W w8 := Chg.onto H7.out.2.2.2 H7.out.2.2.2.size hc8 (fun z hz => by rw [List.mem_singleton.1 hz]; exact HTB.out.1); have HSH := hide (dshows_calls w8 tb (k + q + 1) [tb, ex] ⟨A4, c4, V4, B4, d4, C4, D4, e4⟩ S' hv8.vs (by omega) hD8 HVI2.out); unfold DV.val DV.cells at HSH; simp only [] at HSH; have H8 := hide (And.intro hE8 (And.intro hD8 (And.intro hv8 hB8))); have e0 := hE8.cell 0; have e1 := hE8.cell 1; have e2 := hE8.cell 2; have e3 := hE8.cell 3; simp only [List.getElem?_cons_succ, List.getElem?_cons_zero] at e0 e1 e2 e3; clear hc8 hv8 hE8 hD8 hB8 k0' k1' k2' k3' k4' k5' k6' k7' HVC; go_wp2_with fail; refine HSH.out.mono ?_; rintro e w9 ⟨rfl, hb9⟩; have H9 := hide (And.intro (H8.out.1.below hb9) (And.intro (H8.out.2.1.below hb9) (And.intro (H8.out.2.2.1.below hb9) (H8.out.2.2.2.trans (hb9.mono H8.out.2.2.2.size))))); clear hb9 e0 e1 e2 e3 HSH; go_wp2
                  go_roundw
                  case rel => exact ⟨q + 1, S', ⟨A4, c4, V4, B4, d4, C4, D4, e4⟩, by omega, by go_num, H9.out.2.2.1, HVI2.out, H9.out.2.1, HX.out.2.1, H9.out.1, H9.out.2.2.2⟩
                  case measure => simp [intOf]; omega
              · have i1 : ¬ (q : Int) < ms.length := by omega
                have hlo := ldOk_small HBY.out (by have := HLB.out; omega); have hL := vload_calls [] wr (by simp) Ab cb Lb ((HR3.out.below HBR.out).more HBR.out.size) (by have := HLB.out; omega) HBY.out hlo; have HLO := hide hlo; clear hlo hk hlt; obtain ⟨o, ho⟩ : ∃ o, loadP Lb = o := ⟨_, rfl⟩; rw [ho] at hL; have HO := hide ho; have HL := hide hL; clear ho hL
                cases o with
                | none =>
                  go_wp2_with fail; refine HL.out.mono ?_; rintro e w6 ⟨hb6, rfl⟩; have HBA := hide (HBR.out.trans (hb6.mono HBR.out.size)); clear hb6; go_wp2_with fail
                  refine (awake18_calls _).mono ?_
                  rintro e wz ⟨rfl, hbz⟩; have HF := hide (HBA.out.trans (hbz.mono HBA.out.size)); clear hbz; go_wp2
                  go_ret
                  exact ⟨rfl, HF.out⟩
                | some U =>
                  have hU := loadP_bytes HO.out; have HU := hide (And.intro hU (loadP_byt HLO.out HO.out)); clear hU; go_wp2_with fail; refine HL.out.mono ?_; rintro e w6 ⟨hb6, no2, ub, n1, n2, n3, V2, C2, rfl, hvm2, _, _⟩; have HB6 := hide (HBR.out.trans (hb6.mono HBR.out.size)); have HVB6 := hide (vbytes_calls w6 no2 ub n1 n2 n3 U V2 C2 hvm2 HU.out.2); clear hb6 hvm2; go_wp2_with fail; refine HVB6.out.mono ?_; rintro e w7 ⟨A7, c7, rfl, ho7, hb7⟩; have HB7 := hide (HB6.out.trans (hb7.mono HB6.out.size)); have HSA2 := hide (sameBytes_calls U.bytes Lb A7 Ab c7 cb w7 (ho7.rb (no := []) (by simp)).rd ((HR3.out.below HB7.out).more HB7.out.size) (by have := HU.out.2.len; omega) (by have := HLB.out; omega)); clear ho7 hb7 HVB6; go_wp2_with fail; refine HSA2.out.mono ?_; rintro e w8 ⟨rfl, nd8, rfl⟩; have HBA := hide (below_drewN HB7.out nd8); have hdc : decide (U.bytes = Lb) = true := decide_eq_true HU.out.1; rw [hdc]; clear hdc; go_wp2_with fail
                  refine (awake18_calls _).mono ?_
                  rintro e wz ⟨rfl, hbz⟩; have HF := hide (HBA.out.trans (hbz.mono HBA.out.size)); clear hbz; go_wp2
                  go_ret
                  exact ⟨rfl, HF.out⟩
end Go.Proofs.YtcgecalbgkkinaaGreat
