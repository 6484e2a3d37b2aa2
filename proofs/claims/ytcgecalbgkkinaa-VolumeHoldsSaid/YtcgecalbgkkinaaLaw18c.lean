/- VolumeHolds: the walk. -/
import Derived.Test.YtcgecalbgkkinaaHld
import Derived.Test.YtcgecalbgkkinaaApp
import Derived.Test.YtcgecalbgkkinaaReg4
namespace Go.Proofs.Ytcgecalbgkkinaa
open Go.ChangeShapes Go.WideShapes Go.ChangeAt Go.RowKit Go.Maps
set_option linter.unusedVariables false
set_option linter.unusedSimpArgs false

theorem VolOut.boxG {w w' : World} {e : Ending} {f : Option Vo} (h : VolOut w w' e f) : ∃ (v : Vo) (A : Option Addr) (c : Nat) (t : Bool), e = .returned (.tuple #[(⟨v, A, c⟩ : VoM).val, .bool t]) ∧ t = f.isSome ∧ (∀ u, f = some u → v = u) ∧ Below w.heap.size w w' := by
  obtain ⟨y, he, hy, ho, hl, hb⟩ := h
  refine ⟨y.v, y.A, y.c, f.isSome, he, rfl, fun u hu => ?_, hb⟩
  rcases hy with h | ⟨h, _⟩
  · rw [h] at hu; injection hu
  · rw [h] at hu; cases hu
theorem VSK.applyC {K : List Nat} {w : World} {b n : Nat} {S : Vst} (h : VSK K w b S n) (hn : n ≤ 1000) (k a c d r wt l bu : Int) (hk : i64ok k) (ha : i64ok a) (hc : i64ok c) (hd : i64ok d) :
    Calls Try.prog 8 #[.pointer (some ⟨b, 0, none⟩), .agg #[.int .i64 k, .int .i64 a, .int .i64 c, .int .i64 d, .int .i64 r, .int .i64 wt, .int .i64 l, .int .i64 bu]] w fun e w' => ∃ z, e = .returned (.int .i64 z) ∧ z = (S.apply ⟨k, a, c, d, ⟨r, wt, l, bu⟩⟩).2 ∧ Chg [b] w w' ∧ VSK K w' b (S.apply ⟨k, a, c, d, ⟨r, wt, l, bu⟩⟩).1 (n + 1) :=
  vapplyK_calls w b n S ⟨k, a, c, d, ⟨r, wt, l, bu⟩⟩ h hn (Cmd.ok_mk hk ha hc hd)
theorem Que.rdI {w : World} {A : Option Addr} {n c : Nat} {l : List Int} (h : Que w 3 1 (.slice A n c) n (l.map (Value.int .i64))) (hl : l.length = n) (h1 : l.length ≤ 1024) : RdI w A l := by
  refine ⟨⟨by simp, fun h0 => ?_⟩, h1⟩
  obtain ⟨g, o, cap, e, _, _, hg, hc⟩ := h.at_ (by omega)
  injection e with e1 e2 e3
  exact ⟨g, o, e1, hg, hc⟩
theorem RdI.take {w : World} {A : Option Addr} {l : List Int} (h : RdI w A l) {k : Nat} (hk : k ≤ l.length) : RdI w A (l.take k) := by
  have e : (l.take k).length = k := by rw [List.length_take]; omega
  refine ⟨?_, by have := h.ln; omega⟩
  have := h.rd.take hk
  rw [e]
  simpa using this
theorem nodup_take {l : List Int} (h : l.Nodup) {k : Nat} (hk : k < l.length) : (l.take k).contains l[k] = false := by
  cases hc : (l.take k).contains l[k] with
  | false => rfl
  | true =>
    exfalso
    rw [List.contains_iff_mem] at hc
    obtain ⟨i, hi, e⟩ := List.mem_take_iff_getElem.1 hc
    exact (List.pairwise_iff_getElem.1 h) i k (by omega) hk (by omega) e
theorem zero200 : (((List.replicate 200 (0 : Int)).map (Value.int .i64)).toArray) = Try.zeroCells51 := by rfl
set_option maxHeartbeats 16000000 in
set_option maxRecDepth 100000 in
/-- THE WALK of VolumeHolds: whatever comes in, it answers true, and nothing that was there turns. -/
theorem volumeHolds_walk {H : Type} {enc : TypeId × Value → H} (W : World) (base : Nat) (v0 : Value) (d0 : DataW H) (p0 : List MemPlace)
    (ok0 : Value.okWide Try.prog W .any base 49 v0) (h0 : DataW.Trod enc Try.prog W 0 (fun _ => true) true 49 v0 d0 p0) :
    Calls Try.prog 5 #[v0] W fun e w' => e = .returned (.bool true) ∧ Below W.heap.size W w' := by
  obtain ⟨Al, cl, cs, rfl, hlen, hcap, hok, hr⟩ := open_cmds ok0 h0
  unfold maxLen at hcap
  clear ok0 h0
  have HGR := hide (great_calls Al cl cs W (by omega) hr)
  have HR := hide hr
  have HOK := hide hok
  clear hr hok
  cases hgr : great cs with
  | true =>
    rw [hgr] at HGR
    clear hgr
    go_enter Try.func5, Try.ntmps5
    go_wp2_with fail
    refine HGR.out.mono ?_
    rintro e w1 ⟨rfl, hb1⟩
    go_wp2_with fail
    refine (awake18_calls _).mono ?_
    rintro e w2 ⟨rfl, hb2⟩
    have HF := hide (hb1.trans (hb2.mono hb1.size))
    clear hb1 hb2
    go_wp2
    go_ret
    exact ⟨rfl, HF.out⟩
  | false =>
    rw [hgr] at HGR
    have HSM : Hid (cs.length ≤ 30 ∧ ∀ k (hk : k < cs.length), bigC cs[k] = false) := hide (by
      unfold great at hgr
      rw [Bool.or_eq_false_iff] at hgr
      have h30 : cs.length ≤ 30 := by simpa using hgr.2
      refine ⟨h30, fun k hk => ?_⟩
      have := List.any_eq_false.1 hgr.1 cs[k] (by rw [List.mem_take_iff_getElem]; exact ⟨k, by omega, rfl⟩)
      simpa using this)
    clear hgr
    go_enter Try.func5, Try.ntmps5
    go_wp2_with fail
    refine HGR.out.mono ?_
    rintro e w0 ⟨rfl, hb0⟩
    have HB0 := hide hb0
    clear hb0 HGR
    go_wp2_with fail
    refine (VS.new _).mono ?_
    rintro e w1 ⟨sb, rfl, hv, hb1, hbl⟩
    have q1 := (Below.refl w1.heap.size w1).alloc (Nat.le_refl _) (.cells ((List.replicate 200 (0 : Int)).map (Value.int .i64)).toArray 51)
    have hE : Blk (w1.alloc (.cells ((List.replicate 200 (0 : Int)).map (Value.int .i64)).toArray 51)) w1.heap.size 51 ((List.replicate 200 (0 : Int)).map (Value.int .i64)) := Blk.new rfl
    have hbb := HB0.out.trans (hb1.mono HB0.out.size)
    have hv2 : VSK [w1.heap.size] _ sb ⟨[], [], [], 1⟩ 0 := hv.toK q1 (Nat.le_refl _) (by simp)
    have hbq := hbb.trans (q1.mono hbb.size)
    rw [zero200] at hE hv2 hbq
    have HNE := hide (show sb < w1.heap.size ∧ W.heap.size ≤ sb from ⟨hv.lt, Nat.le_trans HB0.out.size hbl⟩)
    obtain ⟨w2, hw2⟩ : ∃ w2, w1.alloc (.cells Try.zeroCells51 51) = w2 := ⟨_, rfl⟩
    rw [hw2] at hE hv2 hbq
    have HE := hide hE
    have HV := hide hv2
    have HB := hide hbq
    obtain ⟨eb, heb⟩ : ∃ eb, w1.heap.size = eb := ⟨_, rfl⟩
    rw [heb] at HE HNE HV
    clear hE hv2 hbq hv hbb q1 hb1 hbl
    go_wp2_with fail
    have HW2 := hide hw2
    have HEB := hide heb
    clear hw2 heb
    go_loopw [5, 6, 7, 8, 9, 10, 11, 12, 13, 14, 15, 16, 17, 24, 25, 26, 27, 28, 29, 30, 31, 32, 33, 34, 35, 36, 37, 38, 39, 40, 41, 42, 43, 44, 45, 46, 47, 48, 49, 50, 51, 52, 53, 54, 55, 56, 57, 58, 59, 60, 61, 62, 63, 64, 65, 66, 67, 68, 69, 70, 71, 72, 73, 74, 75, 76, 77, 78, 79, 80, 81, 82, 83, 84, 85, 86, 87, 88, 89, 90, 91, 92, 93, 94, 95, 96, 97, 98, 99, 100, 101, 102, 103, 104, 105, 106, 107, 108, 109, 110, 111, 112, 113, 114, 115, 116, 117, 118, 119, 120, 121, 122, 123, 124, 125, 126, 127, 128, 129, 130, 131, 132, 133, 134, 135, 136, 137, 138, 139, 140, 141, 142, 143, 144, 145, 146, 147, 148, 149, 150, 151, 152, 153, 154, 155, 156, 157, 158, 159, 160, 161, 162, 163, 164, 165, 166, 167, 168, 169, 170, 171, 172, 173, 174, 175, 176, 177, 178, 179, 180, 181, 182, 183, 184] (fun i _ _ _ _ _ _ _ _ _ _ _ _ _ _ _ _ _ _ _ _ _ _ _ _ _ _ _ _ _ _ _ _ _ _ _ _ _ _ _ _ _ _ _ _ _ _ _ _ _ _ _ _ _ _ _ _ _ _ _ _ _ _ _ _ _ _ _ _ _ _ _ _ _ _ _ _ _ _ _ _ _ _ _ _ _ _ _ _ _ _ _ _ _ _ _ _ _ _ _ _ _ _ _ _ _ _ _ _ _ _ _ _ _ _ _ _ _ _ _ _ _ _ _ _ _ _ _ _ _ _ _ _ _ _ _ _ _ _ _ _ _ _ _ _ _ _ _ _ _ _ _ _ _ _ _ _ _ _ _ _ _ _ _ _ _ _ _ _ _ _ _ _ _ wr => ∃ (k : Nat) (S : Vst) (L : List Int), k ≤ cs.length ∧ i = .int .i64 k ∧ VSK [eb] wr sb S k ∧ VIn S ∧ S.admits = true ∧ EpOk S L ∧ Blk wr eb 51 (L.map (Value.int .i64)) ∧ S.nx ≤ 1 + 5 * k ∧ Below W.heap.size W wr) (fun i _ _ _ _ _ _ _ _ _ _ _ _ _ _ _ _ _ _ _ _ _ _ _ _ _ _ _ _ _ _ _ _ _ _ _ _ _ _ _ _ _ _ _ _ _ _ _ _ _ _ _ _ _ _ _ _ _ _ _ _ _ _ _ _ _ _ _ _ _ _ _ _ _ _ _ _ _ _ _ _ _ _ _ _ _ _ _ _ _ _ _ _ _ _ _ _ _ _ _ _ _ _ _ _ _ _ _ _ _ _ _ _ _ _ _ _ _ _ _ _ _ _ _ _ _ _ _ _ _ _ _ _ _ _ _ _ _ _ _ _ _ _ _ _ _ _ _ _ _ _ _ _ _ _ _ _ _ _ _ _ _ _ _ _ _ _ _ _ _ _ _ _ _ _ => cs.length - (intOf i).toNat)
    case atStart => exact ⟨0, ⟨[], [], [], 1⟩, List.replicate 200 0, Nat.zero_le _, rfl, HV.out, VIn.start, rfl, EpOk.start, HE.out, by decide, HB.out⟩
    case round =>
      obtain ⟨k, S, L, hk, rfl, hvs, hvi, had, hep, hbl, hnx, hbr⟩ := hrel
      have HVS := hide hvs
      have HVI := hide hvi
      have HAD := hide had
      have HEP := hide hep
      have HBE := hide hbl
      have HNX := hide hnx
      have HBR := hide hbr
      have hk30 : k ≤ 30 := by have := HSM.out.1; omega
      clear hvs hvi had hep hbl hnx hbr
      by_cases hlt : k < cs.length
      · have i1 : (k : Int) < cs.length := by omega
        obtain ⟨bA, oA, eA, hbA, hcell⟩ := HR.out.2 (by omega)
        obtain ⟨⟨k0, a0, b0, c0, ⟨pr, pw, pl, pb⟩⟩, hq⟩ : ∃ q, cs[k] = q := ⟨_, rfl⟩
        have hqok : (⟨k0, a0, b0, c0, ⟨pr, pw, pl, pb⟩⟩ : Cmd).ok := by rw [← hq]; exact HOK.out _ (List.getElem_mem _)
        have hbig : bigC ⟨k0, a0, b0, c0, ⟨pr, pw, pl, pb⟩⟩ = false := by rw [← hq]; exact HSM.out.2 k hlt
        have HRU : Hid (∀ w', Below W.heap.size W w' → ∀ j, (hj : j < 8) → w'.cell? ⟨bA, oA + k * 8 + j, none⟩ = (Cmd.cells ⟨k0, a0, b0, c0, ⟨pr, pw, pl, pb⟩⟩)[j]?) := hide (fun w' hb j hj => by
          have h1 := hb.cell (p := ⟨bA, oA + k * 8 + j, none⟩) hbA
          rw [h1]
          have h2 := cmdCells_get cs k j hlt hj
          rw [hq] at h2
          have h3 : j < (Cmd.cells ⟨k0, a0, b0, c0, ⟨pr, pw, pl, pb⟩⟩).length := hj
          rw [List.getElem?_eq_getElem h3] at h2 ⊢
          have := hcell _ _ h2
          rw [← this]
          congr 2
          omega)
        have HQK := hide hqok
        have HBG := hide hbig
        have g1 := HRU.out wr HBR.out 1 (by omega)
        simp only [Cmd.cells, List.getElem?_cons_succ, List.getElem?_cons_zero] at g1
        have hvc := hide (HVS.out.vs.volume (id := a0) hqok.a)
        subst eA
        clear hq hqok hbig hcell hbA
        go_wp2_with fail
        refine hvc.out.mono ?_
        intro e w3 hvo
        obtain ⟨⟨id1, bl1, ⟨r1, x1, l1, u1⟩, ver1, ch1⟩, A1, c1, t1, rfl, ht1, hv1, hbw⟩ := hvo.boxG
        simp only [VoM.val, VoM.cells]
        have q3 := (Below.refl w3.heap.size w3).alloc (Nat.le_refl _) (.cells #[.int .i64 id1, .int .i64 bl1, .int .i64 r1, .int .i64 x1, .int .i64 l1, .int .i64 u1, .int .i64 ver1, .slice A1 ch1.length c1] 34)
        have d3 : Blk (w3.alloc (.cells #[.int .i64 id1, .int .i64 bl1, .int .i64 r1, .int .i64 x1, .int .i64 l1, .int .i64 u1, .int .i64 ver1, .slice A1 ch1.length c1] 34)) w3.heap.size 34 [.int .i64 id1, .int .i64 bl1, .int .i64 r1, .int .i64 x1, .int .i64 l1, .int .i64 u1, .int .i64 ver1, .slice A1 ch1.length c1] := Blk.new rfl
        have K3 := And.intro ((HVS.out.below hbw).below q3) (And.intro ((HBR.out.trans (hbw.mono HBR.out.size)).trans (q3.mono (Nat.le_trans HBR.out.size hbw.size))) (And.intro ((HBE.out.below hbw).below q3) d3))
        obtain ⟨w4, hw4⟩ : ∃ w4, w3.alloc (.cells #[.int .i64 id1, .int .i64 bl1, .int .i64 r1, .int .i64 x1, .int .i64 l1, .int .i64 u1, .int .i64 ver1, .slice A1 ch1.length c1] 34) = w4 := ⟨_, rfl⟩
        rw [hw4] at K3
        have HK4 := hide K3
        have HT1 := hide (And.intro ht1 hv1)
        have hsb3 : sb < w3.heap.size := Nat.lt_of_lt_of_le HVS.out.vs.lt hbw.size
        have HSB3 := hide hsb3
        have y0 := HRU.out w4 HK4.out.2.1 0 (by omega)
        have y1 := HRU.out w4 HK4.out.2.1 1 (by omega)
        have y2 := HRU.out w4 HK4.out.2.1 2 (by omega)
        have y3 := HRU.out w4 HK4.out.2.1 3 (by omega)
        have y4 := HRU.out w4 HK4.out.2.1 4 (by omega)
        have y5 := HRU.out w4 HK4.out.2.1 5 (by omega)
        have y6 := HRU.out w4 HK4.out.2.1 6 (by omega)
        have y7 := HRU.out w4 HK4.out.2.1 7 (by omega)
        simp only [Cmd.cells, List.getElem?_cons_succ, List.getElem?_cons_zero, Nat.add_zero] at y0 y1 y2 y3 y4 y5 y6 y7
        have hA := hide (HK4.out.1.applyC (by omega) k0 a0 b0 c0 pr pw pl pb HQK.out.k HQK.out.a HQK.out.b HQK.out.c)
        clear hvo hbw q3 d3 K3 hvc ht1 hv1 g1 hsb3
        go_wp2_with fail
        refine hA.out.mono ?_
        rintro e w5 ⟨z, rfl, -, hc5, hv5⟩
        obtain ⟨S', hS'⟩ : ∃ S', (S.apply ⟨k0, a0, b0, c0, ⟨pr, pw, pl, pb⟩⟩).1 = S' := ⟨_, rfl⟩
        rw [hS'] at hv5
        have hne3 : w3.heap.size ≠ sb := by have := HSB3.out; omega
        have hneE : eb ≠ sb := by have := HNE.out; omega
        have HK5 := hide (And.intro hv5 (And.intro (HK4.out.2.1.trans (hc5.toBelow HK4.out.2.1.size (fun x hx => by rw [List.mem_singleton.1 hx]; exact HNE.out.2))) (And.intro (HK4.out.2.2.1.chg hc5 (by simpa using hneE)) (HK4.out.2.2.2.chg hc5 (by simpa using hne3)))))
        have HS1 : Hid (VIn S' ∧ S'.admits = true ∧ EpOk S' L ∧ S'.nx ≤ 1 + 5 * (k + 1 : Nat) ∧ (t1 = true → ∀ v', fd Vo.id S'.vs a0 = some v' → k0 ≠ 3 → ver1 ≤ v'.ver)) := hide (by
          subst hS'
          refine ⟨HVI.out.apply HVS.out.vs.ok _, admits_apply HAD.out _, HEP.out.apply HVS.out.vs.ok (by omega) _, ?_, fun ht v' hv' hk3 => ?_⟩
          · have := nx_apply (S := S) _ HBG.out
            have := HNX.out
            omega
          · have h1 := HT1.out.1
            rw [ht] at h1
            obtain ⟨u, hu⟩ := Option.isSome_iff_exists.1 h1.symm
            have h2 := HT1.out.2 u hu
            have := ver_apply HVS.out.vs.ok ⟨k0, a0, b0, c0, ⟨pr, pw, pl, pb⟩⟩ a0 hu hv' hk3
            rw [← h2] at this
            exact this)
        have g1 := HRU.out w5 HK5.out.2.1 1 (by omega)
        simp only [Cmd.cells, List.getElem?_cons_succ, List.getElem?_cons_zero] at g1
        have hvc := hide (HK5.out.1.vs.volume (id := a0) HQK.out.a)
        clear hc5 hv5 hA y0 y1 y2 y3 y4 y5 y6 y7 hS' hne3 hneE
        go_wp2_with fail
        refine hvc.out.mono ?_
        intro e w6 hvo
        obtain ⟨⟨id2, bl2, ⟨r2, x2, l2, u2⟩, ver2, ch2⟩, A2, c2, t2, rfl, ht2, hv2, hbw⟩ := hvo.boxG
        simp only [VoM.val, VoM.cells]
        have q3 := (Below.refl w6.heap.size w6).alloc (Nat.le_refl _) (.cells #[.int .i64 id2, .int .i64 bl2, .int .i64 r2, .int .i64 x2, .int .i64 l2, .int .i64 u2, .int .i64 ver2, .slice A2 ch2.length c2] 34)
        have d3 : Blk (w6.alloc (.cells #[.int .i64 id2, .int .i64 bl2, .int .i64 r2, .int .i64 x2, .int .i64 l2, .int .i64 u2, .int .i64 ver2, .slice A2 ch2.length c2] 34)) w6.heap.size 34 [.int .i64 id2, .int .i64 bl2, .int .i64 r2, .int .i64 x2, .int .i64 l2, .int .i64 u2, .int .i64 ver2, .slice A2 ch2.length c2] := Blk.new rfl
        have K3 := And.intro ((HK5.out.1.below hbw).below q3) (And.intro ((HK5.out.2.1.trans (hbw.mono HK5.out.2.1.size)).trans (q3.mono (Nat.le_trans HK5.out.2.1.size hbw.size))) (And.intro ((HK5.out.2.2.1.below hbw).below q3) (And.intro ((HK5.out.2.2.2.below hbw).below q3) d3)))
        obtain ⟨w7, hw7⟩ : ∃ w7, w6.alloc (.cells #[.int .i64 id2, .int .i64 bl2, .int .i64 r2, .int .i64 x2, .int .i64 l2, .int .i64 u2, .int .i64 ver2, .slice A2 ch2.length c2] 34) = w7 := ⟨_, rfl⟩
        rw [hw7] at K3
        have HK7 := hide K3
        have s1 : w7.cell? ⟨w3.heap.size, 6, none⟩ = some (.int .i64 ver1) := HK7.out.2.2.2.1.cell 6
        have s2 : w7.cell? ⟨w6.heap.size, 6, none⟩ = some (.int .i64 ver2) := HK7.out.2.2.2.2.cell 6
        have s0 := HRU.out w7 HK7.out.2.1 0 (by omega)
        simp only [Cmd.cells, List.getElem?_cons_succ, List.getElem?_cons_zero, Nat.add_zero] at s0
        have hver : t1 = true → t2 = true → k0 ≠ 3 → ¬ (ver2 < ver1) := fun h1 h2 h3 => by
          rw [h2] at ht2
          obtain ⟨u, hu⟩ := Option.isSome_iff_exists.1 ht2.symm
          have := HS1.out.2.2.2.2 h1 u hu h3
          rw [← hv2 u hu] at this
          simp only [] at this
          omega
        have hsv := hide (HK7.out.1.vs.servers (by omega))
        have HVR := hide hver
        clear hvo hbw q3 d3 K3 hvc ht2 hv2 g1 hver
        have HCASE : Hid ((t1 = false) ∨ (t1 = true ∧ t2 = false) ∨ (t1 = true ∧ t2 = true ∧ k0 = 3) ∨ (t1 = true ∧ t2 = true ∧ k0 ≠ 3)) := hide (by
          cases t1 <;> cases t2 <;> simp
          omega)
        have HW4 := hide hw4
        have HW7 := hide hw7
        rcases HCASE.out with h1 | ⟨h1, h2⟩ | ⟨h1, h2, h3⟩ | ⟨h1, h2, h3⟩
        · subst h1
          as_aux_lemma =>
            go_wp2_with fail
            refine hsv.out.mono ?_
            rintro e w8 ⟨A3, c3, rfl, hrs, hgs, hb8⟩
            have HRS := hide hrs
            have HK8 := hide (And.intro (HK7.out.1.below hb8) (And.intro (HK7.out.2.1.trans (hb8.mono HK7.out.2.1.size)) (HK7.out.2.2.1.below hb8)))
            have hsvl : S'.sv.length ≤ 16 := (HK8.out.1.vs.ok.lens (by omega)).1
            clear hrs hgs hb8 hsv s0 s1 s2 hw4 hw7
            go_wp2_with fail
            go_loopw [11, 77, 78, 79, 80, 81, 82, 83, 84, 85, 86, 87, 88, 89, 90, 91, 92, 93, 94, 95, 96] (fun i _ _ _ _ _ _ _ _ _ _ _ _ _ _ _ _ _ _ _ _ wr => ∃ j : Nat, j ≤ S'.sv.length ∧ i = .int .i64 j ∧ Below w8.heap.size w8 wr) (fun i _ _ _ _ _ _ _ _ _ _ _ _ _ _ _ _ _ _ _ _ _ => S'.sv.length - (intOf i).toNat)
            case atStart => exact ⟨0, Nat.zero_le _, rfl, Below.refl _ _⟩
            case round =>
              obtain ⟨j, hj, rfl, hb⟩ := hrel
              have HBJ := hide hb
              clear hb
              by_cases hlj : j < S'.sv.length
              · have ij : (j : Int) < S'.sv.length := by omega
                obtain ⟨bS, oS, rfl, hbS, hcS⟩ := HRS.out.2 (by omega)
                obtain ⟨⟨sid, cap⟩, hsx⟩ : ∃ x, S'.sv[j] = x := ⟨_, rfl⟩
                have hsl : j < S'.srv.length := by unfold Vst.srv; rw [List.length_map]; exact hlj
                have hsg : S'.srv[j] = ⟨sid, cap⟩ := by simp [Vst.srv, hsx]
                have f0 := ldCells_get S'.srv j 0 hsl (by omega)
                have f1 := ldCells_get S'.srv j 1 hsl (by omega)
                rw [hsg] at f0 f1
                have hb8r := HBJ.out
                have rj := Below.refl wr.heap.size wr
                have s0 : ∀ w', Below wr.heap.size wr w' → w'.cell? ⟨bS, oS + j * 2, none⟩ = some (.int .i64 sid) := fun w' hb => ((HBJ.out.trans (hb.mono HBJ.out.size)).cell (p := ⟨bS, oS + j * 2, none⟩) hbS).trans (hcS _ _ f0)
                have s1 : ∀ w', Below wr.heap.size wr w' → w'.cell? ⟨bS, oS + j * 2 + 1, none⟩ = some (.int .i64 cap) := fun w' hb => ((HBJ.out.trans (hb.mono HBJ.out.size)).cell (p := ⟨bS, oS + j * 2 + 1, none⟩) hbS).trans (by rw [Nat.add_assoc]; exact hcS _ _ f1)
                have hadm : Go.Proofs.Ytcgecalbgkkinaa.admits cap (S'.polOf sid) = true := by
                  have h1 := HS1.out.2.1
                  unfold Vst.admits at h1
                  have h2 := List.all_eq_true.1 h1 S'.sv[j] (List.getElem_mem _)
                  rw [hsx] at h2
                  exact h2
                have HADM := hide hadm
                have HPO := hide (fun w' (hb : Below wr.heap.size wr w') => (HK8.out.1.below (HBJ.out.trans (hb.mono HBJ.out.size))).vs.policies (by omega) sid)
                clear hcS hsx hsg f0 f1 hadm hbS hsl hb8r
                go_wp2_with fail
                refine region_lexg (fun w' => Below wr.heap.size wr w') [] 0 [(2, 0), (2, 1), (2, 2), (2, 3), (0, 4), (2, 5), (2, 6), (2, 7), (2, 8), (2, 9), (0, 10), (1, 11), (1, 12), (2, 13)] #[true, true, true, true, true, true, true, true, true, true, true, true, true, true] (by kernel_rfl) (by kernel_rfl) (by decide) (by kernel_rfl) (by kernel_rfl) (fun _ _ _ _ _ h => h) (by (first | exact rj.drew | assumption)) (fun hS0 => ?_)
                simp only [List.map_cons, List.map_nil, List.getElem?_toArray, List.getElem?_cons_succ, List.getElem?_cons_zero]
                (apply lexg_pure (by rfl); (focus (intro w; go_simp; (try with_reducible rfl); done)); simp only [Act.put, List.setIfInBounds_toArray, List.set_cons_zero, List.set_cons_succ])
                (apply lexg_pure (by rfl); (focus (intro w; go_simp; (try with_reducible rfl); done)); simp only [Act.put, List.setIfInBounds_toArray, List.set_cons_zero, List.set_cons_succ])
                (apply lexg_pure (by rfl); (focus (intro w; go_simp; (try with_reducible rfl); done)); simp only [Act.put, List.setIfInBounds_toArray, List.set_cons_zero, List.set_cons_succ])
                (apply lexg_pure (by rfl); (focus (intro w; go_simp; (try with_reducible rfl); done)); simp only [Act.put, List.setIfInBounds_toArray, List.set_cons_zero, List.set_cons_succ])
                (apply lexg_take (by rfl); (focus (intro w hw; (try dsimp only at hw); go_simp; (try with_reducible rfl); done)); simp only [Act.put, List.setIfInBounds_toArray, List.set_cons_zero, List.set_cons_succ])
                (apply lexg_pure (by rfl); (focus (intro w; go_simp; (try with_reducible rfl); done)); simp only [Act.put, List.setIfInBounds_toArray, List.set_cons_zero, List.set_cons_succ])
                (apply lexg_pure (by rfl); (focus (intro w; go_simp; (try with_reducible rfl); done)); simp only [Act.put, List.setIfInBounds_toArray, List.set_cons_zero, List.set_cons_succ])
                (apply lexg_pure (by rfl); (focus (intro w; go_simp; (try with_reducible rfl); done)); simp only [Act.put, List.setIfInBounds_toArray, List.set_cons_zero, List.set_cons_succ])
                (apply lexg_pure (by rfl); (focus (intro w; go_simp; (try with_reducible rfl); done)); simp only [Act.put, List.setIfInBounds_toArray, List.set_cons_zero, List.set_cons_succ])
                (apply lexg_pure (by rfl); (focus (intro w; go_simp; (try with_reducible rfl); done)); simp only [Act.put, List.setIfInBounds_toArray, List.set_cons_zero, List.set_cons_succ])
                (apply lexg_take (by rfl); (focus (intro w hw; (try dsimp only at hw); go_simp; (try with_reducible rfl); done)); simp only [Act.put, List.setIfInBounds_toArray, List.set_cons_zero, List.set_cons_succ])
                (refine lexg_eff (by rfl) ?_; go_simp; (first
                                        | (go_at_call 10; refine (HPO.out _ rj.drew).mono ?_; rintro e w9 ⟨A4, c4, rfl, hr4, hg4, hb9⟩; have hb9' : Below wr.heap.size wr w9 := rj.drew.trans hb9; have HR4 := hide hr4; clear hr4 hg4 hb9)
                                        | (go_at_call 12; refine (admits_calls cap (S'.polOf sid) A4 c4 _ HR4.out).mono ?_; rintro e w10 ⟨rfl, hb10⟩; rw [HADM.out]; have hb10' : Below wr.heap.size wr w10 := hb9'.trans (hb10.mono hb9'.size); clear hb10)); refine lexg_both (by (first | exact rj.drew | assumption)) (fun hS1 => ?_))
                (refine lexg_eff (by rfl) ?_; go_simp; (first
                                        | (go_at_call 10; refine (HPO.out _ rj.drew).mono ?_; rintro e w9 ⟨A4, c4, rfl, hr4, hg4, hb9⟩; have hb9' : Below wr.heap.size wr w9 := rj.drew.trans hb9; have HR4 := hide hr4; clear hr4 hg4 hb9)
                                        | (go_at_call 12; refine (admits_calls cap (S'.polOf sid) A4 c4 _ HR4.out).mono ?_; rintro e w10 ⟨rfl, hb10⟩; rw [HADM.out]; have hb10' : Below wr.heap.size wr w10 := hb9'.trans (hb10.mono hb9'.size); clear hb10)); refine lexg_both (by (first | exact rj.drew | assumption)) (fun hS1 => ?_))
                (apply lexg_pure (by rfl); (focus (intro w; go_simp; (try with_reducible rfl); done)); simp only [Act.put, List.setIfInBounds_toArray, List.set_cons_zero, List.set_cons_succ])
                refine lexg_nil (fun _ => wpAnyG_done (by kernel_rfl) ?_ _)
                have HBN := hide (HBJ.out.trans (hb10'.mono HBJ.out.size))
                clear hb9' hb10' s0 s1
                go_wp2
                go_roundw
                case rel => exact ⟨j + 1, by omega, by go_num, HBN.out⟩
                case measure => simp [intOf]; omega
              · have ij : ¬ ((j : Int) < S'.sv.length) := by omega
                have HK9 := hide (And.intro (HK8.out.1.below HBJ.out) (And.intro (HK8.out.2.1.trans (HBJ.out.mono HK8.out.2.1.size)) (HK8.out.2.2.below HBJ.out)))
                have hch := hide (HK9.out.1.vs.chunks (by omega))
                clear hlj hj
                go_wp2_with fail
                refine hch.out.mono ?_
                rintro e w11 ⟨A5, c5, rfl, ho5, hb11⟩
                have HO5 := hide ho5.made
                have HK11 := hide (And.intro (HK9.out.1.below hb11) (And.intro (HK9.out.2.1.trans (hb11.mono HK9.out.2.1.size)) (HK9.out.2.2.below hb11)))
                have hlc : S'.cs.length ≤ 200 := by
                  have h2 := HK11.out.1.vs.ok
                  have h3 := rise_len (a := 1) (b := S'.nx) h2.csr (fun x hx => by have := h2.csa x hx; omega)
                  have := HS1.out.2.2.2.1
                  omega
                clear ho5 hb11 hch
                go_wp2_with fail
                go_loopw [13, 14, 15, 16, 17, 99, 100, 101, 102, 103, 104, 105, 106, 107, 108, 109, 110, 111, 112, 113, 114, 115, 116, 117, 118, 119, 120, 121, 122, 123, 124, 125, 126, 127, 128, 129, 130, 131, 132, 133, 134, 135, 136, 137, 138, 139, 140, 141, 142, 143, 144, 145, 146, 147, 148, 149, 150, 151, 152, 153, 154, 155, 156, 157, 158, 159, 160, 161, 162, 163, 164, 165, 166, 167, 168, 169, 170, 171, 172, 173, 174, 175, 176, 177, 178, 179, 180, 181, 182, 183, 184] (fun i _ _ _ _ _ _ _ _ _ _ _ _ _ _ _ _ _ _ _ _ _ _ _ _ _ _ _ _ _ _ _ _ _ _ _ _ _ _ _ _ _ _ _ _ _ _ _ _ _ _ _ _ _ _ _ _ _ _ _ _ _ _ _ _ _ _ _ _ _ _ _ _ _ _ _ _ _ _ _ _ _ _ _ _ _ _ _ _ _ _ wc => ∃ (jc : Nat) (L' : List Int), jc ≤ S'.cs.length ∧ i = .int .i64 jc ∧ VSK [eb] wc sb S' (k + 1) ∧ EpOk S' L' ∧ Blk wc eb 51 (L'.map (Value.int .i64)) ∧ Chg [eb] w11 wc) (fun i _ _ _ _ _ _ _ _ _ _ _ _ _ _ _ _ _ _ _ _ _ _ _ _ _ _ _ _ _ _ _ _ _ _ _ _ _ _ _ _ _ _ _ _ _ _ _ _ _ _ _ _ _ _ _ _ _ _ _ _ _ _ _ _ _ _ _ _ _ _ _ _ _ _ _ _ _ _ _ _ _ _ _ _ _ _ _ _ _ _ _ => S'.cs.length - (intOf i).toNat)
                case atStart => exact ⟨0, L, Nat.zero_le _, rfl, HK11.out.1, HS1.out.2.2.1, HK11.out.2.2, Chg.refl _ _⟩
                case round =>
                  obtain ⟨jc, L', hjc, rfl, hvc, hepc, hblc, hcc⟩ := hrel
                  have HVC := hide hvc
                  have HEC := hide hepc
                  have HBC := hide hblc
                  have HCC := hide hcc
                  clear hvc hepc hblc hcc
                  by_cases hljc : jc < S'.cs.length
                  · have ijc : (jc : Int) < S'.cs.length := by omega
                    obtain ⟨bI, oI, eI, hbI, hcI⟩ := HO5.out.rd.2 (by simp; omega)
                    obtain ⟨⟨cidI, cvol, cep, cme, cjo⟩, hcx⟩ : ∃ x, S'.cs[jc] = x := ⟨_, rfl⟩
                    obtain ⟨cid, rfl⟩ : ∃ cid : Nat, cidI = (cid : Int) := ⟨cidI.toNat, by have := HVC.out.vs.ok.csa _ (List.getElem_mem hljc); rw [hcx] at this; simp only [] at this; omega⟩
                    have hcm : (⟨cid, cvol, cep, cme, cjo⟩ : Ck) ∈ S'.cs := by rw [← hcx]; exact List.getElem_mem _
                    have hneI : bI ≠ eb := by
                      have h1 := (HO5.out.ap _ eI).2.1
                      have h2 := HK9.out.2.2.lt
                      simp only [] at h1
                      omega
                    have gI : wr.cell? ⟨bI, oI + jc, none⟩ = some (.int .i64 cid) := (HCC.out.cell (p := ⟨bI, oI + jc, none⟩) hbI (by simpa using hneI)).trans (hcI jc _ (by simp [hljc, hcx]))
                    have hfc := fd_mem HVC.out.vs.ok.csr hcm
                    have hca := HVC.out.vs.ok.csa _ hcm
                    have hcnx := HS1.out.2.2.2.1
                    have hnd := HS1.out.1.nd _ hcm
                    have hmb := HS1.out.1.mb _ hcm
                    simp only [] at hfc hca hnd hmb
                    have hci : i64ok cid := by unfold i64ok; omega
                    have hkc := hide (HVC.out.vs.chunk hci)
                    rw [hfc] at hkc
                    have HCM := hide hcm
                    have HCA := hide (And.intro hca (And.intro hcnx (And.intro hnd hmb)))
                    subst eI
                    clear hcx hcI hcm hneI hbI hfc hca hcnx hnd hmb hci
                    have gI2 := gI
                    go_wp2_with fail
                    refine hkc.out.mono ?_
                    intro e w12 hvo
                    obtain ⟨A6, c6, B6, d6, rfl, hbox, hbw⟩ := hvo.box HVC.out.vs.lt
                    simp only [CkM.val, CkM.cells]
                    have q12 := (Below.refl w12.heap.size w12).alloc (Nat.le_refl _) (.cells (⟨⟨cid, cvol, cep, cme, cjo⟩, A6, c6, B6, d6⟩ : CkM).cells.toArray 42)
                    have K12 := And.intro ((HVC.out.below hbw).below q12) (And.intro ((HBC.out.below hbw).below q12) (And.intro ((HCC.out.below hbw).below q12) hbox))
                    simp only [CkM.cells] at K12
                    obtain ⟨w13, hw13⟩ : ∃ w13, w12.alloc (.cells #[.int .i64 cid, .int .i64 cvol, .int .i64 cep, .slice A6 cme.length c6, .slice B6 cjo.length d6] 42) = w13 := ⟨_, rfl⟩
                    rw [hw13] at K12
                    have HK13 := hide K12
                    clear hvo hbox hbw q12 K12 hkc gI2
                    have r13 := Below.refl w13.heap.size w13
                    have qE := (r13.alloc (Nat.le_refl _) (.cells #[] 3)).drew
                    have HQE := hide qE
                    have QE : Que (w13.alloc (.cells #[] 3)).drew 3 1 (.slice (some ⟨w13.heap.size, 0, none⟩) 0 0) 0 [] := ⟨rfl, .inr ⟨w13.heap.size, 0, 0, #[], rfl, heap_alloc_new w13 _, Nat.le_refl _, by unfold maxLen; omega, Nat.le_refl _, rfl⟩⟩
                    have HQU := hide QE
                    obtain ⟨i0, hi, hz0, hz1, hz2⟩ := info_parts Try.infoI3
                    have v3 : ∀ w', Below w13.heap.size w13 w' → w'.cell? ⟨w12.heap.size, 3, none⟩ = some (.slice A6 cme.length c6) := HK13.out.2.2.2.blk.rule 3 _ rfl
                    have v4 : ∀ w', Below w13.heap.size w13 w' → w'.cell? ⟨w12.heap.size, 4, none⟩ = some (.slice B6 cjo.length d6) := HK13.out.2.2.2.blk.rule 4 _ rfl
                    have HRA := hide HK13.out.2.2.2.ra
                    have HRB := hide HK13.out.2.2.2.rb
                    have HW13 := hide hw13
                    clear qE QE
                    go_wp2_with fail
                    clear hw13
                    refine region_lexg (fun w' => Below w13.heap.size w13 w') [] 0 [(2, 1), (0, 2), (2, 4), (0, 5), (1, 0), (1, 3), (1, 6), (2, 7)] #[true, true, true, true, true, true, true, true] (by kernel_rfl) (by kernel_rfl) (by decide) (by kernel_rfl) (by kernel_rfl) (fun _ _ _ _ _ h => h) (by (first | exact r13.drew | exact HQE.out | assumption)) (fun hS0 => ?_)
                    simp only [List.map_cons, List.map_nil, List.getElem?_toArray, List.getElem?_cons_succ, List.getElem?_cons_zero]
                    (apply lexg_pure (by rfl); (focus (intro w; go_simp; (try with_reducible rfl); done)); simp only [Act.put, List.setIfInBounds_toArray, List.set_cons_zero, List.set_cons_succ])
                    (apply lexg_take (by rfl); (focus (intro w hw; (try dsimp only at hw); go_simp; (try with_reducible rfl); done)); simp only [Act.put, List.setIfInBounds_toArray, List.set_cons_zero, List.set_cons_succ])
                    (apply lexg_pure (by rfl); (focus (intro w; go_simp; (try with_reducible rfl); done)); simp only [Act.put, List.setIfInBounds_toArray, List.set_cons_zero, List.set_cons_succ])
                    (apply lexg_take (by rfl); (focus (intro w hw; (try dsimp only at hw); go_simp; (try with_reducible rfl); done)); simp only [Act.put, List.setIfInBounds_toArray, List.set_cons_zero, List.set_cons_succ])
                    (refine lexg_eff (by rfl) ?_; go_simp; refine lexg_both (by (first | exact r13.drew | exact HQE.out | assumption)) (fun hS1 => ?_))
                    (refine lexg_eff (by rfl) ?_; (refine wp_append_src _ _ _ 32 rfl 3 i0 _ 1 8 Try.underlying32 hi hz0 hz1 hz2 rfl (by decide) (.slice (some ⟨w13.heap.size, 0, none⟩) 0 0) 0 [] rfl HQU.out A6 cme.length c6 _ (cme.map (Value.int .i64)) rfl (HRA.out.below HQE.out).rd (by intro u hu; obtain ⟨x, _, rfl⟩ := List.mem_map.1 hu; rfl) (by have := HCA.out.1; unfold maxLen; omega) (by have := HCA.out.1; omega) ?_; intro A7 cap7 w14 hq7 hch7 hg7; have hb14 : Below w13.heap.size w13 w14 := Chg.onto HQE.out HQE.out.size hch7 (fun x hx => by simp [Value.ownBlock] at hx; omega); have HQ7 := hide (And.intro hq7 (show ∀ g, A7.map Addr.block = some g → w13.heap.size ≤ g from fun g hg => by rcases hg7 g hg with h | h <;> (simp [Value.ownBlock] at h; omega))); clear hq7 hch7 hg7); simp only [Act.put, List.setIfInBounds_toArray, List.set_cons_zero, List.set_cons_succ]; refine lexg_both (by (first | exact r13.drew | exact HQE.out | assumption)) (fun hS1 => ?_))
                    (refine lexg_eff (by rfl) ?_; (refine wp_append_src _ _ _ 32 rfl 3 i0 _ 1 8 Try.underlying32 hi hz0 hz1 hz2 rfl (by decide) (.slice A7 (0 + cme.length) cap7) (0 + cme.length) ([] ++ cme.map (Value.int .i64)) rfl HQ7.out.1 B6 cjo.length d6 _ (cjo.map (Value.int .i64)) rfl (HRB.out.below hb14).rd (by intro u hu; obtain ⟨x, _, rfl⟩ := List.mem_map.1 hu; rfl) (by have := HCA.out.1; unfold maxLen; omega) (by have := HCA.out.1; omega) ?_; intro A8 cap8 w15 hq8 hch8 hg8; have hb15 : Below w13.heap.size w13 w15 := Chg.onto hb14 hb14.size hch8 (fun x hx => HQ7.out.2 x (by rw [ownBlock_slice] at hx; simpa using hx)); have HQ8 := hide (And.intro hq8 (show ∀ g, A8.map Addr.block = some g → w13.heap.size ≤ g from fun g hg => by rcases hg8 g hg with h | h; exact HQ7.out.2 g (by rw [ownBlock_slice] at h; exact h); have := hb14.size; omega)); clear hq8 hch8 hg8); simp only [Act.put, List.setIfInBounds_toArray, List.set_cons_zero, List.set_cons_succ]; refine lexg_both (by (first | exact r13.drew | exact HQE.out | assumption)) (fun hS1 => ?_))
                    (apply lexg_pure (by rfl); (focus (intro w; go_simp; (try with_reducible rfl); done)); simp only [Act.put, List.setIfInBounds_toArray, List.set_cons_zero, List.set_cons_succ])
                    refine lexg_nil (fun _ => wpAnyG_done (by kernel_rfl) ?_ _)
                    rename_i hunm
                    clear hunm hS0 hS1 hi hz0 hz1 hz2 v3 v4
                    obtain ⟨al, hal⟩ : ∃ al, cme ++ cjo = al := ⟨_, rfl⟩
                    have hall : cme.length + cjo.length = al.length := by rw [← hal, List.length_append]
                    rw [hall]
                    have hq8 := HQ8.out.1
                    rw [Nat.zero_add, hall, List.nil_append, ← List.map_append, hal] at hq8
                    have hal4 : al.length ≤ 4 := by rw [← hall]; exact HCA.out.1.2.2.2.2
                    have HRAL := hide (hq8.rdI rfl (by omega))
                    have hcap8 : al.length ≤ cap8 := by
                      obtain ⟨A9, c9, e9, h9, _⟩ := hq8.form
                      injection e9 with _ _ e9
                      rw [e9]; exact h9
                    have HND : Hid al.Nodup := hide (by rw [← hal]; exact HCA.out.2.2.1)
                    have HK15 := hide (And.intro (HK13.out.1.below hb15) (And.intro (HK13.out.2.1.below hb15) (HK13.out.2.2.1.below hb15)))
                    have HBX := hide (HK13.out.2.2.2.blk.below hb15)
                    have hca := HCA.out
                    have hc200 : cid < 200 := by omega
                    have hepc := HEC.out
                    have hL : L'.length = 200 := hepc.1
                    have hE0 : ∀ w', Below w15.heap.size w15 w' → w'.cell? ⟨eb, cid, none⟩ = some (.int .i64 (L'.getD cid 0)) := fun w' hb => by
                      rw [(HK15.out.2.1.below hb).cell cid, List.getElem?_map, List.getElem?_eq_getElem (by omega), List.getD_eq_getElem?_getD, List.getElem?_eq_getElem (by omega)]
                      rfl
                    have hEf : ∀ w', Below w15.heap.size w15 w' → w'.frozen? ⟨eb, cid, none⟩ = false := fun w' hb => (HK15.out.2.1.below hb).frozen cid
                    have hle : L'.getD cid 0 ≤ cep := by
                      have := hepc.2.1 _ HCM.out
                      simpa using this
                    obtain ⟨e0, he0⟩ : ∃ e0, L'.getD cid 0 = e0 := ⟨_, rfl⟩
                    rw [he0] at hE0 hle
                    have r15 := Below.refl w15.heap.size w15
                    have r15d := r15.drew
                    have v2 : ∀ w', Below w15.heap.size w15 w' → w'.cell? ⟨w12.heap.size, 2, none⟩ = some (.int .i64 cep) := HBX.out.rule 2 _ rfl
                    have v3 : ∀ w', Below w15.heap.size w15 w' → w'.cell? ⟨w12.heap.size, 3, none⟩ = some (.slice A6 cme.length c6) := HBX.out.rule 3 _ rfl
                    have hneI : bI ≠ eb := by
                      have h1 := (HO5.out.ap _ rfl).2.1
                      have h2 := HK9.out.2.2.lt
                      simp only [] at h1
                      omega
                    have gI3 : ∀ w', Below w15.heap.size w15 w' → w'.cell? ⟨bI, oI + jc, none⟩ = some (.int .i64 cid) := fun w' hb => by
                      have hbI : bI < w11.heap.size := (HO5.out.ap _ rfl).2.2
                      have h1 := (HK15.out.2.2.below hb).cell (p := ⟨bI, oI + jc, none⟩) hbI (by simpa using hneI)
                      have h2 := HCC.out.cell (p := ⟨bI, oI + jc, none⟩) hbI (by simpa using hneI)
                      rw [h1, ← h2]
                      exact gI
                    have dl1 : decide ((cme.length : Int) < 1) = false := decide_eq_false (by have := List.length_pos_iff.2 hca.2.2.2; omega)
                    have dl2 : decide ((4 : Int) < al.length) = false := decide_eq_false (by omega)
                    have dl3 : decide ((cid : Int) < 1) = false := decide_eq_false (by omega)
                    have dl4 : decide ((199 : Int) < cid) = false := decide_eq_false (by omega)
                    have dl5 : decide (cep < e0) = false := decide_eq_false (by omega)
                    have dl6 : decide (cep < 1) = false := decide_eq_false (by omega)
                    have il : (cid : Int) < 200 := by omega
                    have HCID := hide hc200
                    have HEPC := hide (And.intro hepc (And.intro hL he0))
                    clear hq8 hal hall hca hepc hL he0 hle hneI gI
                    go_wp2_with fail
                    refine region_q (fun w' => Below w15.heap.size w15 w') (by kernel_rfl) (by kernel_rfl) (by (exact r15d)) ?_
                    (refine wq_step (fun K hK => ?_); apply q_take (by rfl); (focus (intro w hw; (try dsimp only at hw); go_simp; (try with_reducible rfl); done)); simp only [Act.put, List.setIfInBounds_toArray, List.set_cons_zero, List.set_cons_succ]; refine hK _ ?_; clear hK K)
                    (refine wq_step (fun K hK => ?_); apply q_take (by rfl); (focus (intro w hw; (try dsimp only at hw); go_simp; (try with_reducible rfl); done)); simp only [Act.put, List.setIfInBounds_toArray, List.set_cons_zero, List.set_cons_succ]; refine hK _ ?_; clear hK K)
                    (refine wq_step (fun K hK => ?_); apply q_take (by rfl); (focus (intro w hw; (try dsimp only at hw); go_simp; (try with_reducible rfl); done)); simp only [Act.put, List.setIfInBounds_toArray, List.set_cons_zero, List.set_cons_succ]; refine hK _ ?_; clear hK K)
                    (refine wq_step (fun K hK => ?_); apply q_take (by kernel_rfl); (focus (intro w hw; (try dsimp only at hw); go_simp; (try with_reducible rfl); done)); simp only [Act.put, List.setIfInBounds_toArray, List.set_cons_zero, List.set_cons_succ]; refine hK _ ?_; clear hK K)
                    (refine wq_step (fun K hK => ?_); apply q_take (by kernel_rfl); (focus (intro w hw; (try dsimp only at hw); go_simp; (try with_reducible rfl); done)); simp only [Act.put, List.setIfInBounds_toArray, List.set_cons_zero, List.set_cons_succ]; refine hK _ ?_; clear hK K)
                    (refine wq_step (fun K hK => ?_); apply q_take (by kernel_rfl); (focus (intro w hw; (try dsimp only at hw); go_simp; (try with_reducible rfl); done)); simp only [Act.put, List.setIfInBounds_toArray, List.set_cons_zero, List.set_cons_succ]; refine hK _ ?_; clear hK K)
                    (refine wq_step (fun K hK => ?_); apply q_take (by kernel_rfl); (focus (intro w hw; (try dsimp only at hw); go_simp; (try with_reducible rfl); done)); simp only [Act.put, List.setIfInBounds_toArray, List.set_cons_zero, List.set_cons_succ]; refine hK _ ?_; clear hK K)
                    (refine wq_step (fun K hK => ?_); apply q_take (by rfl); (focus (intro w hw; (try dsimp only at hw); go_simp; (try with_reducible rfl); done)); simp only [Act.put, List.setIfInBounds_toArray, List.set_cons_zero, List.set_cons_succ]; refine hK _ ?_; clear hK K)
                    (refine wq_step (fun K hK => ?_); apply q_take (by rfl); (focus (intro w hw; (try dsimp only at hw); go_simp; (try with_reducible rfl); done)); simp only [Act.put, List.setIfInBounds_toArray, List.set_cons_zero, List.set_cons_succ]; refine hK _ ?_; clear hK K)
                    (refine wq_step (fun K hK => ?_); apply q_take (by kernel_rfl); (focus (intro w hw; (try dsimp only at hw); go_simp; (try with_reducible rfl); done)); simp only [Act.put, List.setIfInBounds_toArray, List.set_cons_zero, List.set_cons_succ]; refine hK _ ?_; clear hK K)
                    (refine wq_step (fun K hK => ?_); apply q_take (by kernel_rfl); (focus (intro w hw; (try dsimp only at hw); go_simp; (try with_reducible rfl); done)); simp only [Act.put, List.setIfInBounds_toArray, List.set_cons_zero, List.set_cons_succ]; refine hK _ ?_; clear hK K)
                    (refine wq_step (fun K hK => ?_); apply q_take (by kernel_rfl); (focus (intro w hw; (try dsimp only at hw); go_simp; (try with_reducible rfl); done)); simp only [Act.put, List.setIfInBounds_toArray, List.set_cons_zero, List.set_cons_succ]; refine hK _ ?_; clear hK K)
                    (refine wq_step (fun K hK => ?_); apply q_take (by rfl); (focus (intro w hw; (try dsimp only at hw); go_simp; (try with_reducible rfl); done)); simp only [Act.put, List.setIfInBounds_toArray, List.set_cons_zero, List.set_cons_succ]; refine hK _ ?_; clear hK K)
                    (refine wq_step (fun K hK => ?_); apply q_take (by rfl); (focus (intro w hw; (try dsimp only at hw); go_simp; (try with_reducible rfl); done)); simp only [Act.put, List.setIfInBounds_toArray, List.set_cons_zero, List.set_cons_succ]; refine hK _ ?_; clear hK K)
                    (refine wq_step (fun K hK => ?_); apply q_take (by kernel_rfl); (focus (intro w hw; (try dsimp only at hw); go_simp; (try with_reducible rfl); done)); simp only [Act.put, List.setIfInBounds_toArray, List.set_cons_zero, List.set_cons_succ]; refine hK _ ?_; clear hK K)
                    (refine wq_step (fun K hK => ?_); apply q_take (by kernel_rfl); (focus (intro w hw; (try dsimp only at hw); go_simp; (try with_reducible rfl); done)); simp only [Act.put, List.setIfInBounds_toArray, List.set_cons_zero, List.set_cons_succ]; refine hK _ ?_; clear hK K)
                    (refine wq_step (fun K hK => ?_); apply q_take (by kernel_rfl); (focus (intro w hw; (try dsimp only at hw); go_simp; (try with_reducible rfl); done)); simp only [Act.put, List.setIfInBounds_toArray, List.set_cons_zero, List.set_cons_succ]; refine hK _ ?_; clear hK K)
                    (refine wq_step (fun K hK => ?_); apply q_take (by kernel_rfl); (focus (intro w hw; (try dsimp only at hw); go_simp; (try with_reducible rfl); done)); simp only [Act.put, List.setIfInBounds_toArray, List.set_cons_zero, List.set_cons_succ]; refine hK _ ?_; clear hK K)
                    (refine wq_step (fun K hK => ?_); apply q_take (by kernel_rfl); (focus (intro w hw; (try dsimp only at hw); go_simp; (try with_reducible rfl); done)); simp only [Act.put, List.setIfInBounds_toArray, List.set_cons_zero, List.set_cons_succ]; refine hK _ ?_; clear hK K)
                    (refine wq_step (fun K hK => ?_); apply q_take (by rfl); (focus (intro w hw; (try dsimp only at hw); go_simp; (try with_reducible rfl); done)); simp only [Act.put, List.setIfInBounds_toArray, List.set_cons_zero, List.set_cons_succ]; refine hK _ ?_; clear hK K)
                    (refine wq_step (fun K hK => ?_); apply q_take (by rfl); (focus (intro w hw; (try dsimp only at hw); go_simp; (try with_reducible rfl); done)); simp only [Act.put, List.setIfInBounds_toArray, List.set_cons_zero, List.set_cons_succ]; refine hK _ ?_; clear hK K)
                    (refine wq_step (fun K hK => ?_); apply q_take (by kernel_rfl); (focus (intro w hw; (try dsimp only at hw); go_simp; (try with_reducible rfl); done)); simp only [Act.put, List.setIfInBounds_toArray, List.set_cons_zero, List.set_cons_succ]; refine hK _ ?_; clear hK K)
                    (refine wq_step (fun K hK => ?_); apply q_take (by kernel_rfl); (focus (intro w hw; (try dsimp only at hw); go_simp; (try with_reducible rfl); done)); simp only [Act.put, List.setIfInBounds_toArray, List.set_cons_zero, List.set_cons_succ]; refine hK _ ?_; clear hK K)
                    (refine wq_step (fun K hK => ?_); apply q_take (by kernel_rfl); (focus (intro w hw; (try dsimp only at hw); go_simp; (try with_reducible rfl); done)); simp only [Act.put, List.setIfInBounds_toArray, List.set_cons_zero, List.set_cons_succ]; refine hK _ ?_; clear hK K)
                    (refine wq_step (fun K hK => ?_); apply q_take (by kernel_rfl); (focus (intro w hw; (try dsimp only at hw); go_simp; (try with_reducible rfl); done)); simp only [Act.put, List.setIfInBounds_toArray, List.set_cons_zero, List.set_cons_succ]; refine hK _ ?_; clear hK K)
                    (refine wq_step (fun K hK => ?_); apply q_take (by kernel_rfl); (focus (intro w hw; (try dsimp only at hw); go_simp; (try with_reducible rfl); done)); simp only [Act.put, List.setIfInBounds_toArray, List.set_cons_zero, List.set_cons_succ]; refine hK _ ?_; clear hK K)
                    (refine wq_step (fun K hK => ?_); apply q_take (by rfl); (focus (intro w hw; (try dsimp only at hw); go_simp; (try with_reducible rfl); done)); simp only [Act.put, List.setIfInBounds_toArray, List.set_cons_zero, List.set_cons_succ]; refine hK _ ?_; clear hK K)
                    (refine wq_step (fun K hK => ?_); apply q_take (by rfl); (focus (intro w hw; (try dsimp only at hw); go_simp; (try with_reducible rfl); done)); simp only [Act.put, List.setIfInBounds_toArray, List.set_cons_zero, List.set_cons_succ]; refine hK _ ?_; clear hK K)
                    (refine wq_step (fun K hK => ?_); apply q_take (by kernel_rfl); (focus (intro w hw; (try dsimp only at hw); go_simp; (try with_reducible rfl); done)); simp only [Act.put, List.setIfInBounds_toArray, List.set_cons_zero, List.set_cons_succ]; refine hK _ ?_; clear hK K)
                    (refine wq_step (fun K hK => ?_); apply q_take (by kernel_rfl); (focus (intro w hw; (try dsimp only at hw); go_simp; (try with_reducible rfl); done)); simp only [Act.put, List.setIfInBounds_toArray, List.set_cons_zero, List.set_cons_succ]; refine hK _ ?_; clear hK K)
                    (refine wq_step (fun K hK => ?_); apply q_take (by kernel_rfl); (focus (intro w hw; (try dsimp only at hw); go_simp; (try with_reducible rfl); done)); simp only [Act.put, List.setIfInBounds_toArray, List.set_cons_zero, List.set_cons_succ]; refine hK _ ?_; clear hK K)
                    (refine wq_step (fun K hK => ?_); apply q_take (by kernel_rfl); (focus (intro w hw; (try dsimp only at hw); go_simp; (try with_reducible rfl); done)); simp only [Act.put, List.setIfInBounds_toArray, List.set_cons_zero, List.set_cons_succ]; refine hK _ ?_; clear hK K)
                    (refine wq_step (fun K hK => ?_); apply q_take (by kernel_rfl); (focus (intro w hw; (try dsimp only at hw); go_simp; (try with_reducible rfl); done)); simp only [Act.put, List.setIfInBounds_toArray, List.set_cons_zero, List.set_cons_succ]; refine hK _ ?_; clear hK K)
                    (refine wq_step (fun K hK => ?_); apply q_take (by kernel_rfl); (focus (intro w hw; (try dsimp only at hw); go_simp; (try with_reducible rfl); done)); simp only [Act.put, List.setIfInBounds_toArray, List.set_cons_zero, List.set_cons_succ]; refine hK _ ?_; clear hK K)
                    (refine wq_step (fun K hK => ?_); apply q_take (by kernel_rfl); (focus (intro w hw; (try dsimp only at hw); go_simp; (try with_reducible rfl); done)); simp only [Act.put, List.setIfInBounds_toArray, List.set_cons_zero, List.set_cons_succ]; refine hK _ ?_; clear hK K)
                    (refine wq_step (fun K hK => ?_); apply q_take (by kernel_rfl); (focus (intro w hw; (try dsimp only at hw); go_simp; (try with_reducible rfl); done)); simp only [Act.put, List.setIfInBounds_toArray, List.set_cons_zero, List.set_cons_succ]; refine hK _ ?_; clear hK K)
                    (refine wq_step (fun K hK => ?_); apply q_take (by kernel_rfl); (focus (intro w hw; (try dsimp only at hw); go_simp; (try with_reducible rfl); done)); simp only [Act.put, List.setIfInBounds_toArray, List.set_cons_zero, List.set_cons_succ]; refine hK _ ?_; clear hK K)
                    (refine wq_step (fun K hK => ?_); apply q_take (by rfl); (focus (intro w hw; (try dsimp only at hw); go_simp; (try with_reducible rfl); done)); simp only [Act.put, List.setIfInBounds_toArray, List.set_cons_zero, List.set_cons_succ]; refine hK _ ?_; clear hK K)
                    (refine wq_step (fun K hK => ?_); apply q_take (by rfl); (focus (intro w hw; (try dsimp only at hw); go_simp; (try with_reducible rfl); done)); simp only [Act.put, List.setIfInBounds_toArray, List.set_cons_zero, List.set_cons_succ]; refine hK _ ?_; clear hK K)
                    (refine wq_step (fun K hK => ?_); apply q_take (by kernel_rfl); (focus (intro w hw; (try dsimp only at hw); go_simp; (try with_reducible rfl); done)); simp only [Act.put, List.setIfInBounds_toArray, List.set_cons_zero, List.set_cons_succ]; refine hK _ ?_; clear hK K)
                    (refine wq_step (fun K hK => ?_); apply q_take (by kernel_rfl); (focus (intro w hw; (try dsimp only at hw); go_simp; (try with_reducible rfl); done)); simp only [Act.put, List.setIfInBounds_toArray, List.set_cons_zero, List.set_cons_succ]; refine hK _ ?_; clear hK K)
                    (refine wq_step (fun K hK => ?_); apply q_take (by kernel_rfl); (focus (intro w hw; (try dsimp only at hw); go_simp; (try with_reducible rfl); done)); simp only [Act.put, List.setIfInBounds_toArray, List.set_cons_zero, List.set_cons_succ]; refine hK _ ?_; clear hK K)
                    (refine wq_step (fun K hK => ?_); apply q_take (by rfl); (focus (intro w hw; (try dsimp only at hw); go_simp; (try with_reducible rfl); done)); simp only [Act.put, List.setIfInBounds_toArray, List.set_cons_zero, List.set_cons_succ]; refine hK _ ?_; clear hK K)
                    refine wq_nil ?_
                    intro wq hwq
                    have HQW := hide hwq
                    have rq := Below.refl wq.heap.size wq
                    have HK16 := hide (And.intro (HK15.out.1.below hwq) (And.intro (HK15.out.2.1.below hwq) (HK15.out.2.2.below hwq)))
                    have HRA16 := hide (HRAL.out.below hwq)
                    have hE0q : ∀ w', Below wq.heap.size wq w' → w'.cell? ⟨eb, cid, none⟩ = some (.int .i64 e0) := fun w' hb => hE0 w' (HQW.out.trans (hb.mono HQW.out.size))
                    have hEfq : ∀ w', Below wq.heap.size wq w' → w'.frozen? ⟨eb, cid, none⟩ = false := fun w' hb => hEf w' (HQW.out.trans (hb.mono HQW.out.size))
                    have v2q : ∀ w', Below wq.heap.size wq w' → w'.cell? ⟨w12.heap.size, 2, none⟩ = some (.int .i64 cep) := fun w' hb => v2 w' (HQW.out.trans (hb.mono HQW.out.size))
                    have gIq : ∀ w', Below wq.heap.size wq w' → w'.cell? ⟨bI, oI + jc, none⟩ = some (.int .i64 cid) := fun w' hb => gI3 w' (HQW.out.trans (hb.mono HQW.out.size))
                    clear hE0 hEf v2 v3 gI3 dl1 dl2 dl3 dl4 dl5 dl6 r15 r15d hwq hb14 hb15
                    go_wp2_with fail
                    refine region_lexg (fun w' => Below wq.heap.size wq w') [7] 0 [(2, 0), (2, 1), (2, 2), (0, 3), (2, 4), (0, 5), (2, 6), (3, 7)] #[true, true, true, true, true, true, true, true] (by kernel_rfl) (by kernel_rfl) (by decide) (by kernel_rfl) (by kernel_rfl) (fun _ _ _ _ _ h => h) (by (exact rq.drew)) (fun hS0 => ?_)
                    simp only [List.map_cons, List.map_nil, List.getElem?_toArray, List.getElem?_cons_succ, List.getElem?_cons_zero]
                    (apply lexg_pure (by rfl); (focus (intro w; go_simp; (try with_reducible rfl); done)); simp only [Act.put, List.setIfInBounds_toArray, List.set_cons_zero, List.set_cons_succ])
                    (apply lexg_pure (by rfl); (focus (intro w; go_simp; (try with_reducible rfl); done)); simp only [Act.put, List.setIfInBounds_toArray, List.set_cons_zero, List.set_cons_succ])
                    (apply lexg_pure (by rfl); (focus (intro w; go_simp; (try with_reducible rfl); done)); simp only [Act.put, List.setIfInBounds_toArray, List.set_cons_zero, List.set_cons_succ])
                    (apply lexg_take (by rfl); (focus (intro w hw; (try dsimp only at hw); go_simp; (try with_reducible rfl); done)); simp only [Act.put, List.setIfInBounds_toArray, List.set_cons_zero, List.set_cons_succ])
                    (apply lexg_pure (by rfl); (focus (intro w; go_simp; (try with_reducible rfl); done)); simp only [Act.put, List.setIfInBounds_toArray, List.set_cons_zero, List.set_cons_succ])
                    (apply lexg_take (by rfl); (focus (intro w hw; (try dsimp only at hw); go_simp; (try with_reducible rfl); done)); simp only [Act.put, List.setIfInBounds_toArray, List.set_cons_zero, List.set_cons_succ])
                    (apply lexg_pure (by rfl); (focus (intro w; go_simp; (try with_reducible rfl); done)); simp only [Act.put, List.setIfInBounds_toArray, List.set_cons_zero, List.set_cons_succ])
                    (refine lexg_effN (by rfl) ?_; go_simp)
                    refine lexg_nil (fun _ => wpAnyG_done (by kernel_rfl) ?_ _)
                    rename_i hunm
                    clear hunm hS0
                    have hc17 : Chg [eb] wq.drew (wq.drew.setCell ⟨eb, cid, none⟩ (.int .i64 cep)) := (Chg.refl _ _).setCell (Or.inl (by simp)) _
                    have hnb : eb ≠ sb := by have := HNE.out; omega
                    have K17 : VSK [eb] (wq.drew.setCell ⟨eb, cid, none⟩ (.int .i64 cep)) sb S' (k + 1) ∧ Blk (wq.drew.setCell ⟨eb, cid, none⟩ (.int .i64 cep)) eb 51 ((L'.set cid cep).map (Value.int .i64)) ∧ Chg [eb] w11 (wq.drew.setCell ⟨eb, cid, none⟩ (.int .i64 cep)) ∧ RdI (wq.drew.setCell ⟨eb, cid, none⟩ (.int .i64 cep)) A8 al := by
                      refine ⟨(HK16.out.1.below rq.drew).chg hc17 (fun x hx => by rw [List.mem_singleton.1 hx]; exact ⟨by simp, hnb, _, _, HK16.out.2.1.below rq.drew⟩), ?_, (HK16.out.2.2.below rq.drew).same hc17, (HRA16.out.below rq.drew).chg hc17 (fun a ha => ?_)⟩
                      · have := (HK16.out.2.1.below rq.drew).set cid (.int .i64 cep)
                        rw [List.map_set]
                        exact this
                      · have h1 := HQ8.out.2 a.block (by rw [ha]; rfl)
                        have h2 := HK13.out.2.1.lt
                        simp
                        omega
                    have HEP' : Hid (EpOk S' (L'.set cid cep)) := hide (by
                      have := HEPC.out.1.set HVC.out.vs.ok HCM.out (by simp only []; have := HCID.out; omega)
                      simpa using this)
                    obtain ⟨w17, hw17⟩ : ∃ w17, wq.drew.setCell ⟨eb, cid, none⟩ (.int .i64 cep) = w17 := ⟨_, rfl⟩
                    rw [hw17] at K17
                    rw [show (wq.setCell ⟨eb, cid, none⟩ (.int .i64 cep)).drew = w17 from hw17]
                    have HK17 := hide K17
                    have HW17 := hide hw17
                    clear K17 hw17 hc17 hE0q hEfq v2q gIq hnb
                    go_wp2_with fail
                    go_loopw [17, 171, 172, 173, 174, 175, 176, 177, 178, 179, 180, 181, 182, 183, 184] (fun i _ _ _ _ _ _ _ _ _ _ _ _ _ _ wi => ∃ ji : Nat, ji ≤ al.length ∧ i = .int .i64 ji ∧ Below w17.heap.size w17 wi) (fun i _ _ _ _ _ _ _ _ _ _ _ _ _ _ _ => al.length - (intOf i).toNat)
                    case atStart => exact ⟨0, Nat.zero_le _, rfl, Below.refl _ _⟩
                    case round =>
                      obtain ⟨ji, hji, rfl, hbi⟩ := hrel
                      have HBI := hide hbi
                      clear hbi
                      by_cases hlji : ji < al.length
                      · have iji : (ji : Int) < al.length := by omega
                        have ri := Below.refl wr.heap.size wr
                        have rda := HK17.out.2.2.2.below HBI.out
                        obtain ⟨b8, o8, e8, hb8', hc8⟩ := rda.rd.2 (by omega)
                        have hel := nodup_take HND.out hlji
                        obtain ⟨x8, hx8⟩ : ∃ x8, al[ji] = x8 := ⟨_, rfl⟩
                        have g8 : ∀ w', Below wr.heap.size wr w' → w'.cell? ⟨b8, o8 + ji, none⟩ = some (.int .i64 x8) := fun w' hb => (hb.cell (p := ⟨b8, o8 + ji, none⟩) hb8').trans (hc8 ji _ (by simp [hlji, hx8]))
                        rw [hx8] at hel
                        have rdt := hide (rda.take (k := ji) (by omega))
                        have htl : (al.take ji).length = ji := by rw [List.length_take]; omega
                        have hcj : ji ≤ cap8 := by omega
                        have HHS : Hid (∀ w', Below wr.heap.size wr w' → Calls Try.prog 19 #[.slice A8 ji cap8, .int .i64 x8] w' fun e w'' => e = .returned (.bool false) ∧ ∃ nq, w'' = w'.drewN nq) := hide (fun w' hb => by
                          have := has15_calls A8 ji cap8 (al.take ji) x8 w' htl (by omega) (by have := (rdt.out.below hb).rd; rwa [htl] at this)
                          rwa [hel] at this)
                        subst e8
                        have HEL := hide hel
                        clear hc8 hx8 hel rda htl hb8'
                        go_wp2_with fail
                        refine region_lexg (fun w' => Below wr.heap.size wr w') [] 0 [(2, 0), (2, 1), (2, 2), (2, 3), (2, 4), (2, 5), (0, 6), (1, 7)] #[true, true, true, true, true, true, true, true] (by kernel_rfl) (by kernel_rfl) (by decide) (by kernel_rfl) (by kernel_rfl) (fun _ _ _ _ _ h => h) (by (first | exact ri.drew | exact below_drewN ri.drew _ | assumption)) (fun hS0 => ?_)
                        simp only [List.map_cons, List.map_nil, List.getElem?_toArray, List.getElem?_cons_succ, List.getElem?_cons_zero]
                        (apply lexg_pure (by rfl); (focus (intro w; go_simp; (try with_reducible rfl); done)); simp only [Act.put, List.setIfInBounds_toArray, List.set_cons_zero, List.set_cons_succ])
                        (apply lexg_pure (by rfl); (focus (intro w; go_simp; (try with_reducible rfl); done)); simp only [Act.put, List.setIfInBounds_toArray, List.set_cons_zero, List.set_cons_succ])
                        (apply lexg_pure (by rfl); (focus (intro w; go_simp; (try with_reducible rfl); done)); simp only [Act.put, List.setIfInBounds_toArray, List.set_cons_zero, List.set_cons_succ])
                        (apply lexg_pure (by rfl); (focus (intro w; go_simp; (try with_reducible rfl); done)); simp only [Act.put, List.setIfInBounds_toArray, List.set_cons_zero, List.set_cons_succ])
                        (apply lexg_pure (by rfl); (focus (intro w; go_simp; (try with_reducible rfl); done)); simp only [Act.put, List.setIfInBounds_toArray, List.set_cons_zero, List.set_cons_succ])
                        (apply lexg_pure (by rfl); (focus (intro w; go_simp; (try with_reducible rfl); done)); simp only [Act.put, List.setIfInBounds_toArray, List.set_cons_zero, List.set_cons_succ])
                        (apply lexg_take (by rfl); (focus (intro w hw; (try dsimp only at hw); go_simp; (try with_reducible rfl); done)); simp only [Act.put, List.setIfInBounds_toArray, List.set_cons_zero, List.set_cons_succ])
                        (refine lexg_eff (by rfl) ?_; go_simp; ((go_at_call 19; refine (HHS.out _ ri.drew).mono ?_; rintro e w18 ⟨rfl, nq, hw18⟩; have hb18 : Below wr.heap.size wr w18 := hw18 ▸ below_drewN ri.drew nq; clear hw18)); refine lexg_both (by (first | exact ri.drew | exact below_drewN ri.drew _ | assumption)) (fun hS1 => ?_))
                        refine lexg_nil (fun _ => wpAnyG_done (by kernel_rfl) ?_ _)
                        have HBN := hide (HBI.out.trans (hb18.mono HBI.out.size))
                        clear hb18 g8
                        go_wp2
                        go_roundw
                        case rel => exact ⟨ji + 1, by omega, by go_num, HBN.out⟩
                        case measure => simp [intOf]; omega
                      · have iji : ¬ ((ji : Int) < al.length) := by omega
                        have hji2 : ji = al.length := by omega
                        clear hlji
                        go_wp2
                        go_roundw
                        case rel => exact ⟨jc + 1, L'.set cid cep, by omega, by go_num, HK17.out.1.below HBI.out, HEP'.out, HK17.out.2.1.below HBI.out, HK17.out.2.2.1.below HBI.out⟩
                        case measure => simp [intOf]; omega
                  · have ijc : ¬ ((jc : Int) < S'.cs.length) := by omega
                    have hjc2 : ¬ (jc < S'.cs.length) := by omega
                    have HBW : Hid (Below W.heap.size W wr) := hide (HK11.out.2.1.trans (HCC.out.toBelow HK11.out.2.1.size (fun x hx => by rw [List.mem_singleton.1 hx]; have := HNE.out; omega)))
                    clear hljc
                    go_wp2
                    go_roundw
                    case rel => exact ⟨k + 1, S', L', by omega, by go_num, HVC.out, HS1.out.1, HS1.out.2.1, HEC.out, HBC.out, HS1.out.2.2.2.1, HBW.out⟩
                    case measure => simp [intOf]; omega
        · subst h1
          subst h2
          as_aux_lemma =>
            go_wp2_with fail
            refine hsv.out.mono ?_
            rintro e w8 ⟨A3, c3, rfl, hrs, hgs, hb8⟩
            have HRS := hide hrs
            have HK8 := hide (And.intro (HK7.out.1.below hb8) (And.intro (HK7.out.2.1.trans (hb8.mono HK7.out.2.1.size)) (HK7.out.2.2.1.below hb8)))
            have hsvl : S'.sv.length ≤ 16 := (HK8.out.1.vs.ok.lens (by omega)).1
            clear hrs hgs hb8 hsv s0 s1 s2 hw4 hw7
            go_wp2_with fail
            go_loopw [11, 77, 78, 79, 80, 81, 82, 83, 84, 85, 86, 87, 88, 89, 90, 91, 92, 93, 94, 95, 96] (fun i _ _ _ _ _ _ _ _ _ _ _ _ _ _ _ _ _ _ _ _ wr => ∃ j : Nat, j ≤ S'.sv.length ∧ i = .int .i64 j ∧ Below w8.heap.size w8 wr) (fun i _ _ _ _ _ _ _ _ _ _ _ _ _ _ _ _ _ _ _ _ _ => S'.sv.length - (intOf i).toNat)
            case atStart => exact ⟨0, Nat.zero_le _, rfl, Below.refl _ _⟩
            case round =>
              obtain ⟨j, hj, rfl, hb⟩ := hrel
              have HBJ := hide hb
              clear hb
              by_cases hlj : j < S'.sv.length
              · have ij : (j : Int) < S'.sv.length := by omega
                obtain ⟨bS, oS, rfl, hbS, hcS⟩ := HRS.out.2 (by omega)
                obtain ⟨⟨sid, cap⟩, hsx⟩ : ∃ x, S'.sv[j] = x := ⟨_, rfl⟩
                have hsl : j < S'.srv.length := by unfold Vst.srv; rw [List.length_map]; exact hlj
                have hsg : S'.srv[j] = ⟨sid, cap⟩ := by simp [Vst.srv, hsx]
                have f0 := ldCells_get S'.srv j 0 hsl (by omega)
                have f1 := ldCells_get S'.srv j 1 hsl (by omega)
                rw [hsg] at f0 f1
                have hb8r := HBJ.out
                have rj := Below.refl wr.heap.size wr
                have s0 : ∀ w', Below wr.heap.size wr w' → w'.cell? ⟨bS, oS + j * 2, none⟩ = some (.int .i64 sid) := fun w' hb => ((HBJ.out.trans (hb.mono HBJ.out.size)).cell (p := ⟨bS, oS + j * 2, none⟩) hbS).trans (hcS _ _ f0)
                have s1 : ∀ w', Below wr.heap.size wr w' → w'.cell? ⟨bS, oS + j * 2 + 1, none⟩ = some (.int .i64 cap) := fun w' hb => ((HBJ.out.trans (hb.mono HBJ.out.size)).cell (p := ⟨bS, oS + j * 2 + 1, none⟩) hbS).trans (by rw [Nat.add_assoc]; exact hcS _ _ f1)
                have hadm : Go.Proofs.Ytcgecalbgkkinaa.admits cap (S'.polOf sid) = true := by
                  have h1 := HS1.out.2.1
                  unfold Vst.admits at h1
                  have h2 := List.all_eq_true.1 h1 S'.sv[j] (List.getElem_mem _)
                  rw [hsx] at h2
                  exact h2
                have HADM := hide hadm
                have HPO := hide (fun w' (hb : Below wr.heap.size wr w') => (HK8.out.1.below (HBJ.out.trans (hb.mono HBJ.out.size))).vs.policies (by omega) sid)
                clear hcS hsx hsg f0 f1 hadm hbS hsl hb8r
                go_wp2_with fail
                refine region_lexg (fun w' => Below wr.heap.size wr w') [] 0 [(2, 0), (2, 1), (2, 2), (2, 3), (0, 4), (2, 5), (2, 6), (2, 7), (2, 8), (2, 9), (0, 10), (1, 11), (1, 12), (2, 13)] #[true, true, true, true, true, true, true, true, true, true, true, true, true, true] (by kernel_rfl) (by kernel_rfl) (by decide) (by kernel_rfl) (by kernel_rfl) (fun _ _ _ _ _ h => h) (by (first | exact rj.drew | assumption)) (fun hS0 => ?_)
                simp only [List.map_cons, List.map_nil, List.getElem?_toArray, List.getElem?_cons_succ, List.getElem?_cons_zero]
                (apply lexg_pure (by rfl); (focus (intro w; go_simp; (try with_reducible rfl); done)); simp only [Act.put, List.setIfInBounds_toArray, List.set_cons_zero, List.set_cons_succ])
                (apply lexg_pure (by rfl); (focus (intro w; go_simp; (try with_reducible rfl); done)); simp only [Act.put, List.setIfInBounds_toArray, List.set_cons_zero, List.set_cons_succ])
                (apply lexg_pure (by rfl); (focus (intro w; go_simp; (try with_reducible rfl); done)); simp only [Act.put, List.setIfInBounds_toArray, List.set_cons_zero, List.set_cons_succ])
                (apply lexg_pure (by rfl); (focus (intro w; go_simp; (try with_reducible rfl); done)); simp only [Act.put, List.setIfInBounds_toArray, List.set_cons_zero, List.set_cons_succ])
                (apply lexg_take (by rfl); (focus (intro w hw; (try dsimp only at hw); go_simp; (try with_reducible rfl); done)); simp only [Act.put, List.setIfInBounds_toArray, List.set_cons_zero, List.set_cons_succ])
                (apply lexg_pure (by rfl); (focus (intro w; go_simp; (try with_reducible rfl); done)); simp only [Act.put, List.setIfInBounds_toArray, List.set_cons_zero, List.set_cons_succ])
                (apply lexg_pure (by rfl); (focus (intro w; go_simp; (try with_reducible rfl); done)); simp only [Act.put, List.setIfInBounds_toArray, List.set_cons_zero, List.set_cons_succ])
                (apply lexg_pure (by rfl); (focus (intro w; go_simp; (try with_reducible rfl); done)); simp only [Act.put, List.setIfInBounds_toArray, List.set_cons_zero, List.set_cons_succ])
                (apply lexg_pure (by rfl); (focus (intro w; go_simp; (try with_reducible rfl); done)); simp only [Act.put, List.setIfInBounds_toArray, List.set_cons_zero, List.set_cons_succ])
                (apply lexg_pure (by rfl); (focus (intro w; go_simp; (try with_reducible rfl); done)); simp only [Act.put, List.setIfInBounds_toArray, List.set_cons_zero, List.set_cons_succ])
                (apply lexg_take (by rfl); (focus (intro w hw; (try dsimp only at hw); go_simp; (try with_reducible rfl); done)); simp only [Act.put, List.setIfInBounds_toArray, List.set_cons_zero, List.set_cons_succ])
                (refine lexg_eff (by rfl) ?_; go_simp; (first
                                        | (go_at_call 10; refine (HPO.out _ rj.drew).mono ?_; rintro e w9 ⟨A4, c4, rfl, hr4, hg4, hb9⟩; have hb9' : Below wr.heap.size wr w9 := rj.drew.trans hb9; have HR4 := hide hr4; clear hr4 hg4 hb9)
                                        | (go_at_call 12; refine (admits_calls cap (S'.polOf sid) A4 c4 _ HR4.out).mono ?_; rintro e w10 ⟨rfl, hb10⟩; rw [HADM.out]; have hb10' : Below wr.heap.size wr w10 := hb9'.trans (hb10.mono hb9'.size); clear hb10)); refine lexg_both (by (first | exact rj.drew | assumption)) (fun hS1 => ?_))
                (refine lexg_eff (by rfl) ?_; go_simp; (first
                                        | (go_at_call 10; refine (HPO.out _ rj.drew).mono ?_; rintro e w9 ⟨A4, c4, rfl, hr4, hg4, hb9⟩; have hb9' : Below wr.heap.size wr w9 := rj.drew.trans hb9; have HR4 := hide hr4; clear hr4 hg4 hb9)
                                        | (go_at_call 12; refine (admits_calls cap (S'.polOf sid) A4 c4 _ HR4.out).mono ?_; rintro e w10 ⟨rfl, hb10⟩; rw [HADM.out]; have hb10' : Below wr.heap.size wr w10 := hb9'.trans (hb10.mono hb9'.size); clear hb10)); refine lexg_both (by (first | exact rj.drew | assumption)) (fun hS1 => ?_))
                (apply lexg_pure (by rfl); (focus (intro w; go_simp; (try with_reducible rfl); done)); simp only [Act.put, List.setIfInBounds_toArray, List.set_cons_zero, List.set_cons_succ])
                refine lexg_nil (fun _ => wpAnyG_done (by kernel_rfl) ?_ _)
                have HBN := hide (HBJ.out.trans (hb10'.mono HBJ.out.size))
                clear hb9' hb10' s0 s1
                go_wp2
                go_roundw
                case rel => exact ⟨j + 1, by omega, by go_num, HBN.out⟩
                case measure => simp [intOf]; omega
              · have ij : ¬ ((j : Int) < S'.sv.length) := by omega
                have HK9 := hide (And.intro (HK8.out.1.below HBJ.out) (And.intro (HK8.out.2.1.trans (HBJ.out.mono HK8.out.2.1.size)) (HK8.out.2.2.below HBJ.out)))
                have hch := hide (HK9.out.1.vs.chunks (by omega))
                clear hlj hj
                go_wp2_with fail
                refine hch.out.mono ?_
                rintro e w11 ⟨A5, c5, rfl, ho5, hb11⟩
                have HO5 := hide ho5.made
                have HK11 := hide (And.intro (HK9.out.1.below hb11) (And.intro (HK9.out.2.1.trans (hb11.mono HK9.out.2.1.size)) (HK9.out.2.2.below hb11)))
                have hlc : S'.cs.length ≤ 200 := by
                  have h2 := HK11.out.1.vs.ok
                  have h3 := rise_len (a := 1) (b := S'.nx) h2.csr (fun x hx => by have := h2.csa x hx; omega)
                  have := HS1.out.2.2.2.1
                  omega
                clear ho5 hb11 hch
                go_wp2_with fail
                go_loopw [13, 14, 15, 16, 17, 99, 100, 101, 102, 103, 104, 105, 106, 107, 108, 109, 110, 111, 112, 113, 114, 115, 116, 117, 118, 119, 120, 121, 122, 123, 124, 125, 126, 127, 128, 129, 130, 131, 132, 133, 134, 135, 136, 137, 138, 139, 140, 141, 142, 143, 144, 145, 146, 147, 148, 149, 150, 151, 152, 153, 154, 155, 156, 157, 158, 159, 160, 161, 162, 163, 164, 165, 166, 167, 168, 169, 170, 171, 172, 173, 174, 175, 176, 177, 178, 179, 180, 181, 182, 183, 184] (fun i _ _ _ _ _ _ _ _ _ _ _ _ _ _ _ _ _ _ _ _ _ _ _ _ _ _ _ _ _ _ _ _ _ _ _ _ _ _ _ _ _ _ _ _ _ _ _ _ _ _ _ _ _ _ _ _ _ _ _ _ _ _ _ _ _ _ _ _ _ _ _ _ _ _ _ _ _ _ _ _ _ _ _ _ _ _ _ _ _ _ wc => ∃ (jc : Nat) (L' : List Int), jc ≤ S'.cs.length ∧ i = .int .i64 jc ∧ VSK [eb] wc sb S' (k + 1) ∧ EpOk S' L' ∧ Blk wc eb 51 (L'.map (Value.int .i64)) ∧ Chg [eb] w11 wc) (fun i _ _ _ _ _ _ _ _ _ _ _ _ _ _ _ _ _ _ _ _ _ _ _ _ _ _ _ _ _ _ _ _ _ _ _ _ _ _ _ _ _ _ _ _ _ _ _ _ _ _ _ _ _ _ _ _ _ _ _ _ _ _ _ _ _ _ _ _ _ _ _ _ _ _ _ _ _ _ _ _ _ _ _ _ _ _ _ _ _ _ _ => S'.cs.length - (intOf i).toNat)
                case atStart => exact ⟨0, L, Nat.zero_le _, rfl, HK11.out.1, HS1.out.2.2.1, HK11.out.2.2, Chg.refl _ _⟩
                case round =>
                  obtain ⟨jc, L', hjc, rfl, hvc, hepc, hblc, hcc⟩ := hrel
                  have HVC := hide hvc
                  have HEC := hide hepc
                  have HBC := hide hblc
                  have HCC := hide hcc
                  clear hvc hepc hblc hcc
                  by_cases hljc : jc < S'.cs.length
                  · have ijc : (jc : Int) < S'.cs.length := by omega
                    obtain ⟨bI, oI, eI, hbI, hcI⟩ := HO5.out.rd.2 (by simp; omega)
                    obtain ⟨⟨cidI, cvol, cep, cme, cjo⟩, hcx⟩ : ∃ x, S'.cs[jc] = x := ⟨_, rfl⟩
                    obtain ⟨cid, rfl⟩ : ∃ cid : Nat, cidI = (cid : Int) := ⟨cidI.toNat, by have := HVC.out.vs.ok.csa _ (List.getElem_mem hljc); rw [hcx] at this; simp only [] at this; omega⟩
                    have hcm : (⟨cid, cvol, cep, cme, cjo⟩ : Ck) ∈ S'.cs := by rw [← hcx]; exact List.getElem_mem _
                    have hneI : bI ≠ eb := by
                      have h1 := (HO5.out.ap _ eI).2.1
                      have h2 := HK9.out.2.2.lt
                      simp only [] at h1
                      omega
                    have gI : wr.cell? ⟨bI, oI + jc, none⟩ = some (.int .i64 cid) := (HCC.out.cell (p := ⟨bI, oI + jc, none⟩) hbI (by simpa using hneI)).trans (hcI jc _ (by simp [hljc, hcx]))
                    have hfc := fd_mem HVC.out.vs.ok.csr hcm
                    have hca := HVC.out.vs.ok.csa _ hcm
                    have hcnx := HS1.out.2.2.2.1
                    have hnd := HS1.out.1.nd _ hcm
                    have hmb := HS1.out.1.mb _ hcm
                    simp only [] at hfc hca hnd hmb
                    have hci : i64ok cid := by unfold i64ok; omega
                    have hkc := hide (HVC.out.vs.chunk hci)
                    rw [hfc] at hkc
                    have HCM := hide hcm
                    have HCA := hide (And.intro hca (And.intro hcnx (And.intro hnd hmb)))
                    subst eI
                    clear hcx hcI hcm hneI hbI hfc hca hcnx hnd hmb hci
                    have gI2 := gI
                    go_wp2_with fail
                    refine hkc.out.mono ?_
                    intro e w12 hvo
                    obtain ⟨A6, c6, B6, d6, rfl, hbox, hbw⟩ := hvo.box HVC.out.vs.lt
                    simp only [CkM.val, CkM.cells]
                    have q12 := (Below.refl w12.heap.size w12).alloc (Nat.le_refl _) (.cells (⟨⟨cid, cvol, cep, cme, cjo⟩, A6, c6, B6, d6⟩ : CkM).cells.toArray 42)
                    have K12 := And.intro ((HVC.out.below hbw).below q12) (And.intro ((HBC.out.below hbw).below q12) (And.intro ((HCC.out.below hbw).below q12) hbox))
                    simp only [CkM.cells] at K12
                    obtain ⟨w13, hw13⟩ : ∃ w13, w12.alloc (.cells #[.int .i64 cid, .int .i64 cvol, .int .i64 cep, .slice A6 cme.length c6, .slice B6 cjo.length d6] 42) = w13 := ⟨_, rfl⟩
                    rw [hw13] at K12
                    have HK13 := hide K12
                    clear hvo hbox hbw q12 K12 hkc gI2
                    have r13 := Below.refl w13.heap.size w13
                    have qE := (r13.alloc (Nat.le_refl _) (.cells #[] 3)).drew
                    have HQE := hide qE
                    have QE : Que (w13.alloc (.cells #[] 3)).drew 3 1 (.slice (some ⟨w13.heap.size, 0, none⟩) 0 0) 0 [] := ⟨rfl, .inr ⟨w13.heap.size, 0, 0, #[], rfl, heap_alloc_new w13 _, Nat.le_refl _, by unfold maxLen; omega, Nat.le_refl _, rfl⟩⟩
                    have HQU := hide QE
                    obtain ⟨i0, hi, hz0, hz1, hz2⟩ := info_parts Try.infoI3
                    have v3 : ∀ w', Below w13.heap.size w13 w' → w'.cell? ⟨w12.heap.size, 3, none⟩ = some (.slice A6 cme.length c6) := HK13.out.2.2.2.blk.rule 3 _ rfl
                    have v4 : ∀ w', Below w13.heap.size w13 w' → w'.cell? ⟨w12.heap.size, 4, none⟩ = some (.slice B6 cjo.length d6) := HK13.out.2.2.2.blk.rule 4 _ rfl
                    have HRA := hide HK13.out.2.2.2.ra
                    have HRB := hide HK13.out.2.2.2.rb
                    have HW13 := hide hw13
                    clear qE QE
                    go_wp2_with fail
                    clear hw13
                    refine region_lexg (fun w' => Below w13.heap.size w13 w') [] 0 [(2, 1), (0, 2), (2, 4), (0, 5), (1, 0), (1, 3), (1, 6), (2, 7)] #[true, true, true, true, true, true, true, true] (by kernel_rfl) (by kernel_rfl) (by decide) (by kernel_rfl) (by kernel_rfl) (fun _ _ _ _ _ h => h) (by (first | exact r13.drew | exact HQE.out | assumption)) (fun hS0 => ?_)
                    simp only [List.map_cons, List.map_nil, List.getElem?_toArray, List.getElem?_cons_succ, List.getElem?_cons_zero]
                    (apply lexg_pure (by rfl); (focus (intro w; go_simp; (try with_reducible rfl); done)); simp only [Act.put, List.setIfInBounds_toArray, List.set_cons_zero, List.set_cons_succ])
                    (apply lexg_take (by rfl); (focus (intro w hw; (try dsimp only at hw); go_simp; (try with_reducible rfl); done)); simp only [Act.put, List.setIfInBounds_toArray, List.set_cons_zero, List.set_cons_succ])
                    (apply lexg_pure (by rfl); (focus (intro w; go_simp; (try with_reducible rfl); done)); simp only [Act.put, List.setIfInBounds_toArray, List.set_cons_zero, List.set_cons_succ])
                    (apply lexg_take (by rfl); (focus (intro w hw; (try dsimp only at hw); go_simp; (try with_reducible rfl); done)); simp only [Act.put, List.setIfInBounds_toArray, List.set_cons_zero, List.set_cons_succ])
                    (refine lexg_eff (by rfl) ?_; go_simp; refine lexg_both (by (first | exact r13.drew | exact HQE.out | assumption)) (fun hS1 => ?_))
                    (refine lexg_eff (by rfl) ?_; (refine wp_append_src _ _ _ 32 rfl 3 i0 _ 1 8 Try.underlying32 hi hz0 hz1 hz2 rfl (by decide) (.slice (some ⟨w13.heap.size, 0, none⟩) 0 0) 0 [] rfl HQU.out A6 cme.length c6 _ (cme.map (Value.int .i64)) rfl (HRA.out.below HQE.out).rd (by intro u hu; obtain ⟨x, _, rfl⟩ := List.mem_map.1 hu; rfl) (by have := HCA.out.1; unfold maxLen; omega) (by have := HCA.out.1; omega) ?_; intro A7 cap7 w14 hq7 hch7 hg7; have hb14 : Below w13.heap.size w13 w14 := Chg.onto HQE.out HQE.out.size hch7 (fun x hx => by simp [Value.ownBlock] at hx; omega); have HQ7 := hide (And.intro hq7 (show ∀ g, A7.map Addr.block = some g → w13.heap.size ≤ g from fun g hg => by rcases hg7 g hg with h | h <;> (simp [Value.ownBlock] at h; omega))); clear hq7 hch7 hg7); simp only [Act.put, List.setIfInBounds_toArray, List.set_cons_zero, List.set_cons_succ]; refine lexg_both (by (first | exact r13.drew | exact HQE.out | assumption)) (fun hS1 => ?_))
                    (refine lexg_eff (by rfl) ?_; (refine wp_append_src _ _ _ 32 rfl 3 i0 _ 1 8 Try.underlying32 hi hz0 hz1 hz2 rfl (by decide) (.slice A7 (0 + cme.length) cap7) (0 + cme.length) ([] ++ cme.map (Value.int .i64)) rfl HQ7.out.1 B6 cjo.length d6 _ (cjo.map (Value.int .i64)) rfl (HRB.out.below hb14).rd (by intro u hu; obtain ⟨x, _, rfl⟩ := List.mem_map.1 hu; rfl) (by have := HCA.out.1; unfold maxLen; omega) (by have := HCA.out.1; omega) ?_; intro A8 cap8 w15 hq8 hch8 hg8; have hb15 : Below w13.heap.size w13 w15 := Chg.onto hb14 hb14.size hch8 (fun x hx => HQ7.out.2 x (by rw [ownBlock_slice] at hx; simpa using hx)); have HQ8 := hide (And.intro hq8 (show ∀ g, A8.map Addr.block = some g → w13.heap.size ≤ g from fun g hg => by rcases hg8 g hg with h | h; exact HQ7.out.2 g (by rw [ownBlock_slice] at h; exact h); have := hb14.size; omega)); clear hq8 hch8 hg8); simp only [Act.put, List.setIfInBounds_toArray, List.set_cons_zero, List.set_cons_succ]; refine lexg_both (by (first | exact r13.drew | exact HQE.out | assumption)) (fun hS1 => ?_))
                    (apply lexg_pure (by rfl); (focus (intro w; go_simp; (try with_reducible rfl); done)); simp only [Act.put, List.setIfInBounds_toArray, List.set_cons_zero, List.set_cons_succ])
                    refine lexg_nil (fun _ => wpAnyG_done (by kernel_rfl) ?_ _)
                    rename_i hunm
                    clear hunm hS0 hS1 hi hz0 hz1 hz2 v3 v4
                    obtain ⟨al, hal⟩ : ∃ al, cme ++ cjo = al := ⟨_, rfl⟩
                    have hall : cme.length + cjo.length = al.length := by rw [← hal, List.length_append]
                    rw [hall]
                    have hq8 := HQ8.out.1
                    rw [Nat.zero_add, hall, List.nil_append, ← List.map_append, hal] at hq8
                    have hal4 : al.length ≤ 4 := by rw [← hall]; exact HCA.out.1.2.2.2.2
                    have HRAL := hide (hq8.rdI rfl (by omega))
                    have hcap8 : al.length ≤ cap8 := by
                      obtain ⟨A9, c9, e9, h9, _⟩ := hq8.form
                      injection e9 with _ _ e9
                      rw [e9]; exact h9
                    have HND : Hid al.Nodup := hide (by rw [← hal]; exact HCA.out.2.2.1)
                    have HK15 := hide (And.intro (HK13.out.1.below hb15) (And.intro (HK13.out.2.1.below hb15) (HK13.out.2.2.1.below hb15)))
                    have HBX := hide (HK13.out.2.2.2.blk.below hb15)
                    have hca := HCA.out
                    have hc200 : cid < 200 := by omega
                    have hepc := HEC.out
                    have hL : L'.length = 200 := hepc.1
                    have hE0 : ∀ w', Below w15.heap.size w15 w' → w'.cell? ⟨eb, cid, none⟩ = some (.int .i64 (L'.getD cid 0)) := fun w' hb => by
                      rw [(HK15.out.2.1.below hb).cell cid, List.getElem?_map, List.getElem?_eq_getElem (by omega), List.getD_eq_getElem?_getD, List.getElem?_eq_getElem (by omega)]
                      rfl
                    have hEf : ∀ w', Below w15.heap.size w15 w' → w'.frozen? ⟨eb, cid, none⟩ = false := fun w' hb => (HK15.out.2.1.below hb).frozen cid
                    have hle : L'.getD cid 0 ≤ cep := by
                      have := hepc.2.1 _ HCM.out
                      simpa using this
                    obtain ⟨e0, he0⟩ : ∃ e0, L'.getD cid 0 = e0 := ⟨_, rfl⟩
                    rw [he0] at hE0 hle
                    have r15 := Below.refl w15.heap.size w15
                    have r15d := r15.drew
                    have v2 : ∀ w', Below w15.heap.size w15 w' → w'.cell? ⟨w12.heap.size, 2, none⟩ = some (.int .i64 cep) := HBX.out.rule 2 _ rfl
                    have v3 : ∀ w', Below w15.heap.size w15 w' → w'.cell? ⟨w12.heap.size, 3, none⟩ = some (.slice A6 cme.length c6) := HBX.out.rule 3 _ rfl
                    have hneI : bI ≠ eb := by
                      have h1 := (HO5.out.ap _ rfl).2.1
                      have h2 := HK9.out.2.2.lt
                      simp only [] at h1
                      omega
                    have gI3 : ∀ w', Below w15.heap.size w15 w' → w'.cell? ⟨bI, oI + jc, none⟩ = some (.int .i64 cid) := fun w' hb => by
                      have hbI : bI < w11.heap.size := (HO5.out.ap _ rfl).2.2
                      have h1 := (HK15.out.2.2.below hb).cell (p := ⟨bI, oI + jc, none⟩) hbI (by simpa using hneI)
                      have h2 := HCC.out.cell (p := ⟨bI, oI + jc, none⟩) hbI (by simpa using hneI)
                      rw [h1, ← h2]
                      exact gI
                    have dl1 : decide ((cme.length : Int) < 1) = false := decide_eq_false (by have := List.length_pos_iff.2 hca.2.2.2; omega)
                    have dl2 : decide ((4 : Int) < al.length) = false := decide_eq_false (by omega)
                    have dl3 : decide ((cid : Int) < 1) = false := decide_eq_false (by omega)
                    have dl4 : decide ((199 : Int) < cid) = false := decide_eq_false (by omega)
                    have dl5 : decide (cep < e0) = false := decide_eq_false (by omega)
                    have dl6 : decide (cep < 1) = false := decide_eq_false (by omega)
                    have il : (cid : Int) < 200 := by omega
                    have HCID := hide hc200
                    have HEPC := hide (And.intro hepc (And.intro hL he0))
                    clear hq8 hal hall hca hepc hL he0 hle hneI gI
                    go_wp2_with fail
                    refine region_q (fun w' => Below w15.heap.size w15 w') (by kernel_rfl) (by kernel_rfl) (by (exact r15d)) ?_
                    (refine wq_step (fun K hK => ?_); apply q_take (by rfl); (focus (intro w hw; (try dsimp only at hw); go_simp; (try with_reducible rfl); done)); simp only [Act.put, List.setIfInBounds_toArray, List.set_cons_zero, List.set_cons_succ]; refine hK _ ?_; clear hK K)
                    (refine wq_step (fun K hK => ?_); apply q_take (by rfl); (focus (intro w hw; (try dsimp only at hw); go_simp; (try with_reducible rfl); done)); simp only [Act.put, List.setIfInBounds_toArray, List.set_cons_zero, List.set_cons_succ]; refine hK _ ?_; clear hK K)
                    (refine wq_step (fun K hK => ?_); apply q_take (by rfl); (focus (intro w hw; (try dsimp only at hw); go_simp; (try with_reducible rfl); done)); simp only [Act.put, List.setIfInBounds_toArray, List.set_cons_zero, List.set_cons_succ]; refine hK _ ?_; clear hK K)
                    (refine wq_step (fun K hK => ?_); apply q_take (by kernel_rfl); (focus (intro w hw; (try dsimp only at hw); go_simp; (try with_reducible rfl); done)); simp only [Act.put, List.setIfInBounds_toArray, List.set_cons_zero, List.set_cons_succ]; refine hK _ ?_; clear hK K)
                    (refine wq_step (fun K hK => ?_); apply q_take (by kernel_rfl); (focus (intro w hw; (try dsimp only at hw); go_simp; (try with_reducible rfl); done)); simp only [Act.put, List.setIfInBounds_toArray, List.set_cons_zero, List.set_cons_succ]; refine hK _ ?_; clear hK K)
                    (refine wq_step (fun K hK => ?_); apply q_take (by kernel_rfl); (focus (intro w hw; (try dsimp only at hw); go_simp; (try with_reducible rfl); done)); simp only [Act.put, List.setIfInBounds_toArray, List.set_cons_zero, List.set_cons_succ]; refine hK _ ?_; clear hK K)
                    (refine wq_step (fun K hK => ?_); apply q_take (by kernel_rfl); (focus (intro w hw; (try dsimp only at hw); go_simp; (try with_reducible rfl); done)); simp only [Act.put, List.setIfInBounds_toArray, List.set_cons_zero, List.set_cons_succ]; refine hK _ ?_; clear hK K)
                    (refine wq_step (fun K hK => ?_); apply q_take (by rfl); (focus (intro w hw; (try dsimp only at hw); go_simp; (try with_reducible rfl); done)); simp only [Act.put, List.setIfInBounds_toArray, List.set_cons_zero, List.set_cons_succ]; refine hK _ ?_; clear hK K)
                    (refine wq_step (fun K hK => ?_); apply q_take (by rfl); (focus (intro w hw; (try dsimp only at hw); go_simp; (try with_reducible rfl); done)); simp only [Act.put, List.setIfInBounds_toArray, List.set_cons_zero, List.set_cons_succ]; refine hK _ ?_; clear hK K)
                    (refine wq_step (fun K hK => ?_); apply q_take (by kernel_rfl); (focus (intro w hw; (try dsimp only at hw); go_simp; (try with_reducible rfl); done)); simp only [Act.put, List.setIfInBounds_toArray, List.set_cons_zero, List.set_cons_succ]; refine hK _ ?_; clear hK K)
                    (refine wq_step (fun K hK => ?_); apply q_take (by kernel_rfl); (focus (intro w hw; (try dsimp only at hw); go_simp; (try with_reducible rfl); done)); simp only [Act.put, List.setIfInBounds_toArray, List.set_cons_zero, List.set_cons_succ]; refine hK _ ?_; clear hK K)
                    (refine wq_step (fun K hK => ?_); apply q_take (by kernel_rfl); (focus (intro w hw; (try dsimp only at hw); go_simp; (try with_reducible rfl); done)); simp only [Act.put, List.setIfInBounds_toArray, List.set_cons_zero, List.set_cons_succ]; refine hK _ ?_; clear hK K)
                    (refine wq_step (fun K hK => ?_); apply q_take (by rfl); (focus (intro w hw; (try dsimp only at hw); go_simp; (try with_reducible rfl); done)); simp only [Act.put, List.setIfInBounds_toArray, List.set_cons_zero, List.set_cons_succ]; refine hK _ ?_; clear hK K)
                    (refine wq_step (fun K hK => ?_); apply q_take (by rfl); (focus (intro w hw; (try dsimp only at hw); go_simp; (try with_reducible rfl); done)); simp only [Act.put, List.setIfInBounds_toArray, List.set_cons_zero, List.set_cons_succ]; refine hK _ ?_; clear hK K)
                    (refine wq_step (fun K hK => ?_); apply q_take (by kernel_rfl); (focus (intro w hw; (try dsimp only at hw); go_simp; (try with_reducible rfl); done)); simp only [Act.put, List.setIfInBounds_toArray, List.set_cons_zero, List.set_cons_succ]; refine hK _ ?_; clear hK K)
                    (refine wq_step (fun K hK => ?_); apply q_take (by kernel_rfl); (focus (intro w hw; (try dsimp only at hw); go_simp; (try with_reducible rfl); done)); simp only [Act.put, List.setIfInBounds_toArray, List.set_cons_zero, List.set_cons_succ]; refine hK _ ?_; clear hK K)
                    (refine wq_step (fun K hK => ?_); apply q_take (by kernel_rfl); (focus (intro w hw; (try dsimp only at hw); go_simp; (try with_reducible rfl); done)); simp only [Act.put, List.setIfInBounds_toArray, List.set_cons_zero, List.set_cons_succ]; refine hK _ ?_; clear hK K)
                    (refine wq_step (fun K hK => ?_); apply q_take (by kernel_rfl); (focus (intro w hw; (try dsimp only at hw); go_simp; (try with_reducible rfl); done)); simp only [Act.put, List.setIfInBounds_toArray, List.set_cons_zero, List.set_cons_succ]; refine hK _ ?_; clear hK K)
                    (refine wq_step (fun K hK => ?_); apply q_take (by kernel_rfl); (focus (intro w hw; (try dsimp only at hw); go_simp; (try with_reducible rfl); done)); simp only [Act.put, List.setIfInBounds_toArray, List.set_cons_zero, List.set_cons_succ]; refine hK _ ?_; clear hK K)
                    (refine wq_step (fun K hK => ?_); apply q_take (by rfl); (focus (intro w hw; (try dsimp only at hw); go_simp; (try with_reducible rfl); done)); simp only [Act.put, List.setIfInBounds_toArray, List.set_cons_zero, List.set_cons_succ]; refine hK _ ?_; clear hK K)
                    (refine wq_step (fun K hK => ?_); apply q_take (by rfl); (focus (intro w hw; (try dsimp only at hw); go_simp; (try with_reducible rfl); done)); simp only [Act.put, List.setIfInBounds_toArray, List.set_cons_zero, List.set_cons_succ]; refine hK _ ?_; clear hK K)
                    (refine wq_step (fun K hK => ?_); apply q_take (by kernel_rfl); (focus (intro w hw; (try dsimp only at hw); go_simp; (try with_reducible rfl); done)); simp only [Act.put, List.setIfInBounds_toArray, List.set_cons_zero, List.set_cons_succ]; refine hK _ ?_; clear hK K)
                    (refine wq_step (fun K hK => ?_); apply q_take (by kernel_rfl); (focus (intro w hw; (try dsimp only at hw); go_simp; (try with_reducible rfl); done)); simp only [Act.put, List.setIfInBounds_toArray, List.set_cons_zero, List.set_cons_succ]; refine hK _ ?_; clear hK K)
                    (refine wq_step (fun K hK => ?_); apply q_take (by kernel_rfl); (focus (intro w hw; (try dsimp only at hw); go_simp; (try with_reducible rfl); done)); simp only [Act.put, List.setIfInBounds_toArray, List.set_cons_zero, List.set_cons_succ]; refine hK _ ?_; clear hK K)
                    (refine wq_step (fun K hK => ?_); apply q_take (by kernel_rfl); (focus (intro w hw; (try dsimp only at hw); go_simp; (try with_reducible rfl); done)); simp only [Act.put, List.setIfInBounds_toArray, List.set_cons_zero, List.set_cons_succ]; refine hK _ ?_; clear hK K)
                    (refine wq_step (fun K hK => ?_); apply q_take (by kernel_rfl); (focus (intro w hw; (try dsimp only at hw); go_simp; (try with_reducible rfl); done)); simp only [Act.put, List.setIfInBounds_toArray, List.set_cons_zero, List.set_cons_succ]; refine hK _ ?_; clear hK K)
                    (refine wq_step (fun K hK => ?_); apply q_take (by rfl); (focus (intro w hw; (try dsimp only at hw); go_simp; (try with_reducible rfl); done)); simp only [Act.put, List.setIfInBounds_toArray, List.set_cons_zero, List.set_cons_succ]; refine hK _ ?_; clear hK K)
                    (refine wq_step (fun K hK => ?_); apply q_take (by rfl); (focus (intro w hw; (try dsimp only at hw); go_simp; (try with_reducible rfl); done)); simp only [Act.put, List.setIfInBounds_toArray, List.set_cons_zero, List.set_cons_succ]; refine hK _ ?_; clear hK K)
                    (refine wq_step (fun K hK => ?_); apply q_take (by kernel_rfl); (focus (intro w hw; (try dsimp only at hw); go_simp; (try with_reducible rfl); done)); simp only [Act.put, List.setIfInBounds_toArray, List.set_cons_zero, List.set_cons_succ]; refine hK _ ?_; clear hK K)
                    (refine wq_step (fun K hK => ?_); apply q_take (by kernel_rfl); (focus (intro w hw; (try dsimp only at hw); go_simp; (try with_reducible rfl); done)); simp only [Act.put, List.setIfInBounds_toArray, List.set_cons_zero, List.set_cons_succ]; refine hK _ ?_; clear hK K)
                    (refine wq_step (fun K hK => ?_); apply q_take (by kernel_rfl); (focus (intro w hw; (try dsimp only at hw); go_simp; (try with_reducible rfl); done)); simp only [Act.put, List.setIfInBounds_toArray, List.set_cons_zero, List.set_cons_succ]; refine hK _ ?_; clear hK K)
                    (refine wq_step (fun K hK => ?_); apply q_take (by kernel_rfl); (focus (intro w hw; (try dsimp only at hw); go_simp; (try with_reducible rfl); done)); simp only [Act.put, List.setIfInBounds_toArray, List.set_cons_zero, List.set_cons_succ]; refine hK _ ?_; clear hK K)
                    (refine wq_step (fun K hK => ?_); apply q_take (by kernel_rfl); (focus (intro w hw; (try dsimp only at hw); go_simp; (try with_reducible rfl); done)); simp only [Act.put, List.setIfInBounds_toArray, List.set_cons_zero, List.set_cons_succ]; refine hK _ ?_; clear hK K)
                    (refine wq_step (fun K hK => ?_); apply q_take (by kernel_rfl); (focus (intro w hw; (try dsimp only at hw); go_simp; (try with_reducible rfl); done)); simp only [Act.put, List.setIfInBounds_toArray, List.set_cons_zero, List.set_cons_succ]; refine hK _ ?_; clear hK K)
                    (refine wq_step (fun K hK => ?_); apply q_take (by kernel_rfl); (focus (intro w hw; (try dsimp only at hw); go_simp; (try with_reducible rfl); done)); simp only [Act.put, List.setIfInBounds_toArray, List.set_cons_zero, List.set_cons_succ]; refine hK _ ?_; clear hK K)
                    (refine wq_step (fun K hK => ?_); apply q_take (by kernel_rfl); (focus (intro w hw; (try dsimp only at hw); go_simp; (try with_reducible rfl); done)); simp only [Act.put, List.setIfInBounds_toArray, List.set_cons_zero, List.set_cons_succ]; refine hK _ ?_; clear hK K)
                    (refine wq_step (fun K hK => ?_); apply q_take (by kernel_rfl); (focus (intro w hw; (try dsimp only at hw); go_simp; (try with_reducible rfl); done)); simp only [Act.put, List.setIfInBounds_toArray, List.set_cons_zero, List.set_cons_succ]; refine hK _ ?_; clear hK K)
                    (refine wq_step (fun K hK => ?_); apply q_take (by rfl); (focus (intro w hw; (try dsimp only at hw); go_simp; (try with_reducible rfl); done)); simp only [Act.put, List.setIfInBounds_toArray, List.set_cons_zero, List.set_cons_succ]; refine hK _ ?_; clear hK K)
                    (refine wq_step (fun K hK => ?_); apply q_take (by rfl); (focus (intro w hw; (try dsimp only at hw); go_simp; (try with_reducible rfl); done)); simp only [Act.put, List.setIfInBounds_toArray, List.set_cons_zero, List.set_cons_succ]; refine hK _ ?_; clear hK K)
                    (refine wq_step (fun K hK => ?_); apply q_take (by kernel_rfl); (focus (intro w hw; (try dsimp only at hw); go_simp; (try with_reducible rfl); done)); simp only [Act.put, List.setIfInBounds_toArray, List.set_cons_zero, List.set_cons_succ]; refine hK _ ?_; clear hK K)
                    (refine wq_step (fun K hK => ?_); apply q_take (by kernel_rfl); (focus (intro w hw; (try dsimp only at hw); go_simp; (try with_reducible rfl); done)); simp only [Act.put, List.setIfInBounds_toArray, List.set_cons_zero, List.set_cons_succ]; refine hK _ ?_; clear hK K)
                    (refine wq_step (fun K hK => ?_); apply q_take (by kernel_rfl); (focus (intro w hw; (try dsimp only at hw); go_simp; (try with_reducible rfl); done)); simp only [Act.put, List.setIfInBounds_toArray, List.set_cons_zero, List.set_cons_succ]; refine hK _ ?_; clear hK K)
                    (refine wq_step (fun K hK => ?_); apply q_take (by rfl); (focus (intro w hw; (try dsimp only at hw); go_simp; (try with_reducible rfl); done)); simp only [Act.put, List.setIfInBounds_toArray, List.set_cons_zero, List.set_cons_succ]; refine hK _ ?_; clear hK K)
                    refine wq_nil ?_
                    intro wq hwq
                    have HQW := hide hwq
                    have rq := Below.refl wq.heap.size wq
                    have HK16 := hide (And.intro (HK15.out.1.below hwq) (And.intro (HK15.out.2.1.below hwq) (HK15.out.2.2.below hwq)))
                    have HRA16 := hide (HRAL.out.below hwq)
                    have hE0q : ∀ w', Below wq.heap.size wq w' → w'.cell? ⟨eb, cid, none⟩ = some (.int .i64 e0) := fun w' hb => hE0 w' (HQW.out.trans (hb.mono HQW.out.size))
                    have hEfq : ∀ w', Below wq.heap.size wq w' → w'.frozen? ⟨eb, cid, none⟩ = false := fun w' hb => hEf w' (HQW.out.trans (hb.mono HQW.out.size))
                    have v2q : ∀ w', Below wq.heap.size wq w' → w'.cell? ⟨w12.heap.size, 2, none⟩ = some (.int .i64 cep) := fun w' hb => v2 w' (HQW.out.trans (hb.mono HQW.out.size))
                    have gIq : ∀ w', Below wq.heap.size wq w' → w'.cell? ⟨bI, oI + jc, none⟩ = some (.int .i64 cid) := fun w' hb => gI3 w' (HQW.out.trans (hb.mono HQW.out.size))
                    clear hE0 hEf v2 v3 gI3 dl1 dl2 dl3 dl4 dl5 dl6 r15 r15d hwq hb14 hb15
                    go_wp2_with fail
                    refine region_lexg (fun w' => Below wq.heap.size wq w') [7] 0 [(2, 0), (2, 1), (2, 2), (0, 3), (2, 4), (0, 5), (2, 6), (3, 7)] #[true, true, true, true, true, true, true, true] (by kernel_rfl) (by kernel_rfl) (by decide) (by kernel_rfl) (by kernel_rfl) (fun _ _ _ _ _ h => h) (by (exact rq.drew)) (fun hS0 => ?_)
                    simp only [List.map_cons, List.map_nil, List.getElem?_toArray, List.getElem?_cons_succ, List.getElem?_cons_zero]
                    (apply lexg_pure (by rfl); (focus (intro w; go_simp; (try with_reducible rfl); done)); simp only [Act.put, List.setIfInBounds_toArray, List.set_cons_zero, List.set_cons_succ])
                    (apply lexg_pure (by rfl); (focus (intro w; go_simp; (try with_reducible rfl); done)); simp only [Act.put, List.setIfInBounds_toArray, List.set_cons_zero, List.set_cons_succ])
                    (apply lexg_pure (by rfl); (focus (intro w; go_simp; (try with_reducible rfl); done)); simp only [Act.put, List.setIfInBounds_toArray, List.set_cons_zero, List.set_cons_succ])
                    (apply lexg_take (by rfl); (focus (intro w hw; (try dsimp only at hw); go_simp; (try with_reducible rfl); done)); simp only [Act.put, List.setIfInBounds_toArray, List.set_cons_zero, List.set_cons_succ])
                    (apply lexg_pure (by rfl); (focus (intro w; go_simp; (try with_reducible rfl); done)); simp only [Act.put, List.setIfInBounds_toArray, List.set_cons_zero, List.set_cons_succ])
                    (apply lexg_take (by rfl); (focus (intro w hw; (try dsimp only at hw); go_simp; (try with_reducible rfl); done)); simp only [Act.put, List.setIfInBounds_toArray, List.set_cons_zero, List.set_cons_succ])
                    (apply lexg_pure (by rfl); (focus (intro w; go_simp; (try with_reducible rfl); done)); simp only [Act.put, List.setIfInBounds_toArray, List.set_cons_zero, List.set_cons_succ])
                    (refine lexg_effN (by rfl) ?_; go_simp)
                    refine lexg_nil (fun _ => wpAnyG_done (by kernel_rfl) ?_ _)
                    rename_i hunm
                    clear hunm hS0
                    have hc17 : Chg [eb] wq.drew (wq.drew.setCell ⟨eb, cid, none⟩ (.int .i64 cep)) := (Chg.refl _ _).setCell (Or.inl (by simp)) _
                    have hnb : eb ≠ sb := by have := HNE.out; omega
                    have K17 : VSK [eb] (wq.drew.setCell ⟨eb, cid, none⟩ (.int .i64 cep)) sb S' (k + 1) ∧ Blk (wq.drew.setCell ⟨eb, cid, none⟩ (.int .i64 cep)) eb 51 ((L'.set cid cep).map (Value.int .i64)) ∧ Chg [eb] w11 (wq.drew.setCell ⟨eb, cid, none⟩ (.int .i64 cep)) ∧ RdI (wq.drew.setCell ⟨eb, cid, none⟩ (.int .i64 cep)) A8 al := by
                      refine ⟨(HK16.out.1.below rq.drew).chg hc17 (fun x hx => by rw [List.mem_singleton.1 hx]; exact ⟨by simp, hnb, _, _, HK16.out.2.1.below rq.drew⟩), ?_, (HK16.out.2.2.below rq.drew).same hc17, (HRA16.out.below rq.drew).chg hc17 (fun a ha => ?_)⟩
                      · have := (HK16.out.2.1.below rq.drew).set cid (.int .i64 cep)
                        rw [List.map_set]
                        exact this
                      · have h1 := HQ8.out.2 a.block (by rw [ha]; rfl)
                        have h2 := HK13.out.2.1.lt
                        simp
                        omega
                    have HEP' : Hid (EpOk S' (L'.set cid cep)) := hide (by
                      have := HEPC.out.1.set HVC.out.vs.ok HCM.out (by simp only []; have := HCID.out; omega)
                      simpa using this)
                    obtain ⟨w17, hw17⟩ : ∃ w17, wq.drew.setCell ⟨eb, cid, none⟩ (.int .i64 cep) = w17 := ⟨_, rfl⟩
                    rw [hw17] at K17
                    rw [show (wq.setCell ⟨eb, cid, none⟩ (.int .i64 cep)).drew = w17 from hw17]
                    have HK17 := hide K17
                    have HW17 := hide hw17
                    clear K17 hw17 hc17 hE0q hEfq v2q gIq hnb
                    go_wp2_with fail
                    go_loopw [17, 171, 172, 173, 174, 175, 176, 177, 178, 179, 180, 181, 182, 183, 184] (fun i _ _ _ _ _ _ _ _ _ _ _ _ _ _ wi => ∃ ji : Nat, ji ≤ al.length ∧ i = .int .i64 ji ∧ Below w17.heap.size w17 wi) (fun i _ _ _ _ _ _ _ _ _ _ _ _ _ _ _ => al.length - (intOf i).toNat)
                    case atStart => exact ⟨0, Nat.zero_le _, rfl, Below.refl _ _⟩
                    case round =>
                      obtain ⟨ji, hji, rfl, hbi⟩ := hrel
                      have HBI := hide hbi
                      clear hbi
                      by_cases hlji : ji < al.length
                      · have iji : (ji : Int) < al.length := by omega
                        have ri := Below.refl wr.heap.size wr
                        have rda := HK17.out.2.2.2.below HBI.out
                        obtain ⟨b8, o8, e8, hb8', hc8⟩ := rda.rd.2 (by omega)
                        have hel := nodup_take HND.out hlji
                        obtain ⟨x8, hx8⟩ : ∃ x8, al[ji] = x8 := ⟨_, rfl⟩
                        have g8 : ∀ w', Below wr.heap.size wr w' → w'.cell? ⟨b8, o8 + ji, none⟩ = some (.int .i64 x8) := fun w' hb => (hb.cell (p := ⟨b8, o8 + ji, none⟩) hb8').trans (hc8 ji _ (by simp [hlji, hx8]))
                        rw [hx8] at hel
                        have rdt := hide (rda.take (k := ji) (by omega))
                        have htl : (al.take ji).length = ji := by rw [List.length_take]; omega
                        have hcj : ji ≤ cap8 := by omega
                        have HHS : Hid (∀ w', Below wr.heap.size wr w' → Calls Try.prog 19 #[.slice A8 ji cap8, .int .i64 x8] w' fun e w'' => e = .returned (.bool false) ∧ ∃ nq, w'' = w'.drewN nq) := hide (fun w' hb => by
                          have := has15_calls A8 ji cap8 (al.take ji) x8 w' htl (by omega) (by have := (rdt.out.below hb).rd; rwa [htl] at this)
                          rwa [hel] at this)
                        subst e8
                        have HEL := hide hel
                        clear hc8 hx8 hel rda htl hb8'
                        go_wp2_with fail
                        refine region_lexg (fun w' => Below wr.heap.size wr w') [] 0 [(2, 0), (2, 1), (2, 2), (2, 3), (2, 4), (2, 5), (0, 6), (1, 7)] #[true, true, true, true, true, true, true, true] (by kernel_rfl) (by kernel_rfl) (by decide) (by kernel_rfl) (by kernel_rfl) (fun _ _ _ _ _ h => h) (by (first | exact ri.drew | exact below_drewN ri.drew _ | assumption)) (fun hS0 => ?_)
                        simp only [List.map_cons, List.map_nil, List.getElem?_toArray, List.getElem?_cons_succ, List.getElem?_cons_zero]
                        (apply lexg_pure (by rfl); (focus (intro w; go_simp; (try with_reducible rfl); done)); simp only [Act.put, List.setIfInBounds_toArray, List.set_cons_zero, List.set_cons_succ])
                        (apply lexg_pure (by rfl); (focus (intro w; go_simp; (try with_reducible rfl); done)); simp only [Act.put, List.setIfInBounds_toArray, List.set_cons_zero, List.set_cons_succ])
                        (apply lexg_pure (by rfl); (focus (intro w; go_simp; (try with_reducible rfl); done)); simp only [Act.put, List.setIfInBounds_toArray, List.set_cons_zero, List.set_cons_succ])
                        (apply lexg_pure (by rfl); (focus (intro w; go_simp; (try with_reducible rfl); done)); simp only [Act.put, List.setIfInBounds_toArray, List.set_cons_zero, List.set_cons_succ])
                        (apply lexg_pure (by rfl); (focus (intro w; go_simp; (try with_reducible rfl); done)); simp only [Act.put, List.setIfInBounds_toArray, List.set_cons_zero, List.set_cons_succ])
                        (apply lexg_pure (by rfl); (focus (intro w; go_simp; (try with_reducible rfl); done)); simp only [Act.put, List.setIfInBounds_toArray, List.set_cons_zero, List.set_cons_succ])
                        (apply lexg_take (by rfl); (focus (intro w hw; (try dsimp only at hw); go_simp; (try with_reducible rfl); done)); simp only [Act.put, List.setIfInBounds_toArray, List.set_cons_zero, List.set_cons_succ])
                        (refine lexg_eff (by rfl) ?_; go_simp; ((go_at_call 19; refine (HHS.out _ ri.drew).mono ?_; rintro e w18 ⟨rfl, nq, hw18⟩; have hb18 : Below wr.heap.size wr w18 := hw18 ▸ below_drewN ri.drew nq; clear hw18)); refine lexg_both (by (first | exact ri.drew | exact below_drewN ri.drew _ | assumption)) (fun hS1 => ?_))
                        refine lexg_nil (fun _ => wpAnyG_done (by kernel_rfl) ?_ _)
                        have HBN := hide (HBI.out.trans (hb18.mono HBI.out.size))
                        clear hb18 g8
                        go_wp2
                        go_roundw
                        case rel => exact ⟨ji + 1, by omega, by go_num, HBN.out⟩
                        case measure => simp [intOf]; omega
                      · have iji : ¬ ((ji : Int) < al.length) := by omega
                        have hji2 : ji = al.length := by omega
                        clear hlji
                        go_wp2
                        go_roundw
                        case rel => exact ⟨jc + 1, L'.set cid cep, by omega, by go_num, HK17.out.1.below HBI.out, HEP'.out, HK17.out.2.1.below HBI.out, HK17.out.2.2.1.below HBI.out⟩
                        case measure => simp [intOf]; omega
                  · have ijc : ¬ ((jc : Int) < S'.cs.length) := by omega
                    have hjc2 : ¬ (jc < S'.cs.length) := by omega
                    have HBW : Hid (Below W.heap.size W wr) := hide (HK11.out.2.1.trans (HCC.out.toBelow HK11.out.2.1.size (fun x hx => by rw [List.mem_singleton.1 hx]; have := HNE.out; omega)))
                    clear hljc
                    go_wp2
                    go_roundw
                    case rel => exact ⟨k + 1, S', L', by omega, by go_num, HVC.out, HS1.out.1, HS1.out.2.1, HEC.out, HBC.out, HS1.out.2.2.2.1, HBW.out⟩
                    case measure => simp [intOf]; omega
        · subst h1
          subst h2
          subst h3
          as_aux_lemma =>
            go_wp2_with fail
            refine hsv.out.mono ?_
            rintro e w8 ⟨A3, c3, rfl, hrs, hgs, hb8⟩
            have HRS := hide hrs
            have HK8 := hide (And.intro (HK7.out.1.below hb8) (And.intro (HK7.out.2.1.trans (hb8.mono HK7.out.2.1.size)) (HK7.out.2.2.1.below hb8)))
            have hsvl : S'.sv.length ≤ 16 := (HK8.out.1.vs.ok.lens (by omega)).1
            clear hrs hgs hb8 hsv s0 s1 s2 hw4 hw7
            go_wp2_with fail
            go_loopw [11, 77, 78, 79, 80, 81, 82, 83, 84, 85, 86, 87, 88, 89, 90, 91, 92, 93, 94, 95, 96] (fun i _ _ _ _ _ _ _ _ _ _ _ _ _ _ _ _ _ _ _ _ wr => ∃ j : Nat, j ≤ S'.sv.length ∧ i = .int .i64 j ∧ Below w8.heap.size w8 wr) (fun i _ _ _ _ _ _ _ _ _ _ _ _ _ _ _ _ _ _ _ _ _ => S'.sv.length - (intOf i).toNat)
            case atStart => exact ⟨0, Nat.zero_le _, rfl, Below.refl _ _⟩
            case round =>
              obtain ⟨j, hj, rfl, hb⟩ := hrel
              have HBJ := hide hb
              clear hb
              by_cases hlj : j < S'.sv.length
              · have ij : (j : Int) < S'.sv.length := by omega
                obtain ⟨bS, oS, rfl, hbS, hcS⟩ := HRS.out.2 (by omega)
                obtain ⟨⟨sid, cap⟩, hsx⟩ : ∃ x, S'.sv[j] = x := ⟨_, rfl⟩
                have hsl : j < S'.srv.length := by unfold Vst.srv; rw [List.length_map]; exact hlj
                have hsg : S'.srv[j] = ⟨sid, cap⟩ := by simp [Vst.srv, hsx]
                have f0 := ldCells_get S'.srv j 0 hsl (by omega)
                have f1 := ldCells_get S'.srv j 1 hsl (by omega)
                rw [hsg] at f0 f1
                have hb8r := HBJ.out
                have rj := Below.refl wr.heap.size wr
                have s0 : ∀ w', Below wr.heap.size wr w' → w'.cell? ⟨bS, oS + j * 2, none⟩ = some (.int .i64 sid) := fun w' hb => ((HBJ.out.trans (hb.mono HBJ.out.size)).cell (p := ⟨bS, oS + j * 2, none⟩) hbS).trans (hcS _ _ f0)
                have s1 : ∀ w', Below wr.heap.size wr w' → w'.cell? ⟨bS, oS + j * 2 + 1, none⟩ = some (.int .i64 cap) := fun w' hb => ((HBJ.out.trans (hb.mono HBJ.out.size)).cell (p := ⟨bS, oS + j * 2 + 1, none⟩) hbS).trans (by rw [Nat.add_assoc]; exact hcS _ _ f1)
                have hadm : Go.Proofs.Ytcgecalbgkkinaa.admits cap (S'.polOf sid) = true := by
                  have h1 := HS1.out.2.1
                  unfold Vst.admits at h1
                  have h2 := List.all_eq_true.1 h1 S'.sv[j] (List.getElem_mem _)
                  rw [hsx] at h2
                  exact h2
                have HADM := hide hadm
                have HPO := hide (fun w' (hb : Below wr.heap.size wr w') => (HK8.out.1.below (HBJ.out.trans (hb.mono HBJ.out.size))).vs.policies (by omega) sid)
                clear hcS hsx hsg f0 f1 hadm hbS hsl hb8r
                go_wp2_with fail
                refine region_lexg (fun w' => Below wr.heap.size wr w') [] 0 [(2, 0), (2, 1), (2, 2), (2, 3), (0, 4), (2, 5), (2, 6), (2, 7), (2, 8), (2, 9), (0, 10), (1, 11), (1, 12), (2, 13)] #[true, true, true, true, true, true, true, true, true, true, true, true, true, true] (by kernel_rfl) (by kernel_rfl) (by decide) (by kernel_rfl) (by kernel_rfl) (fun _ _ _ _ _ h => h) (by (first | exact rj.drew | assumption)) (fun hS0 => ?_)
                simp only [List.map_cons, List.map_nil, List.getElem?_toArray, List.getElem?_cons_succ, List.getElem?_cons_zero]
                (apply lexg_pure (by rfl); (focus (intro w; go_simp; (try with_reducible rfl); done)); simp only [Act.put, List.setIfInBounds_toArray, List.set_cons_zero, List.set_cons_succ])
                (apply lexg_pure (by rfl); (focus (intro w; go_simp; (try with_reducible rfl); done)); simp only [Act.put, List.setIfInBounds_toArray, List.set_cons_zero, List.set_cons_succ])
                (apply lexg_pure (by rfl); (focus (intro w; go_simp; (try with_reducible rfl); done)); simp only [Act.put, List.setIfInBounds_toArray, List.set_cons_zero, List.set_cons_succ])
                (apply lexg_pure (by rfl); (focus (intro w; go_simp; (try with_reducible rfl); done)); simp only [Act.put, List.setIfInBounds_toArray, List.set_cons_zero, List.set_cons_succ])
                (apply lexg_take (by rfl); (focus (intro w hw; (try dsimp only at hw); go_simp; (try with_reducible rfl); done)); simp only [Act.put, List.setIfInBounds_toArray, List.set_cons_zero, List.set_cons_succ])
                (apply lexg_pure (by rfl); (focus (intro w; go_simp; (try with_reducible rfl); done)); simp only [Act.put, List.setIfInBounds_toArray, List.set_cons_zero, List.set_cons_succ])
                (apply lexg_pure (by rfl); (focus (intro w; go_simp; (try with_reducible rfl); done)); simp only [Act.put, List.setIfInBounds_toArray, List.set_cons_zero, List.set_cons_succ])
                (apply lexg_pure (by rfl); (focus (intro w; go_simp; (try with_reducible rfl); done)); simp only [Act.put, List.setIfInBounds_toArray, List.set_cons_zero, List.set_cons_succ])
                (apply lexg_pure (by rfl); (focus (intro w; go_simp; (try with_reducible rfl); done)); simp only [Act.put, List.setIfInBounds_toArray, List.set_cons_zero, List.set_cons_succ])
                (apply lexg_pure (by rfl); (focus (intro w; go_simp; (try with_reducible rfl); done)); simp only [Act.put, List.setIfInBounds_toArray, List.set_cons_zero, List.set_cons_succ])
                (apply lexg_take (by rfl); (focus (intro w hw; (try dsimp only at hw); go_simp; (try with_reducible rfl); done)); simp only [Act.put, List.setIfInBounds_toArray, List.set_cons_zero, List.set_cons_succ])
                (refine lexg_eff (by rfl) ?_; go_simp; (first
                                        | (go_at_call 10; refine (HPO.out _ rj.drew).mono ?_; rintro e w9 ⟨A4, c4, rfl, hr4, hg4, hb9⟩; have hb9' : Below wr.heap.size wr w9 := rj.drew.trans hb9; have HR4 := hide hr4; clear hr4 hg4 hb9)
                                        | (go_at_call 12; refine (admits_calls cap (S'.polOf sid) A4 c4 _ HR4.out).mono ?_; rintro e w10 ⟨rfl, hb10⟩; rw [HADM.out]; have hb10' : Below wr.heap.size wr w10 := hb9'.trans (hb10.mono hb9'.size); clear hb10)); refine lexg_both (by (first | exact rj.drew | assumption)) (fun hS1 => ?_))
                (refine lexg_eff (by rfl) ?_; go_simp; (first
                                        | (go_at_call 10; refine (HPO.out _ rj.drew).mono ?_; rintro e w9 ⟨A4, c4, rfl, hr4, hg4, hb9⟩; have hb9' : Below wr.heap.size wr w9 := rj.drew.trans hb9; have HR4 := hide hr4; clear hr4 hg4 hb9)
                                        | (go_at_call 12; refine (admits_calls cap (S'.polOf sid) A4 c4 _ HR4.out).mono ?_; rintro e w10 ⟨rfl, hb10⟩; rw [HADM.out]; have hb10' : Below wr.heap.size wr w10 := hb9'.trans (hb10.mono hb9'.size); clear hb10)); refine lexg_both (by (first | exact rj.drew | assumption)) (fun hS1 => ?_))
                (apply lexg_pure (by rfl); (focus (intro w; go_simp; (try with_reducible rfl); done)); simp only [Act.put, List.setIfInBounds_toArray, List.set_cons_zero, List.set_cons_succ])
                refine lexg_nil (fun _ => wpAnyG_done (by kernel_rfl) ?_ _)
                have HBN := hide (HBJ.out.trans (hb10'.mono HBJ.out.size))
                clear hb9' hb10' s0 s1
                go_wp2
                go_roundw
                case rel => exact ⟨j + 1, by omega, by go_num, HBN.out⟩
                case measure => simp [intOf]; omega
              · have ij : ¬ ((j : Int) < S'.sv.length) := by omega
                have HK9 := hide (And.intro (HK8.out.1.below HBJ.out) (And.intro (HK8.out.2.1.trans (HBJ.out.mono HK8.out.2.1.size)) (HK8.out.2.2.below HBJ.out)))
                have hch := hide (HK9.out.1.vs.chunks (by omega))
                clear hlj hj
                go_wp2_with fail
                refine hch.out.mono ?_
                rintro e w11 ⟨A5, c5, rfl, ho5, hb11⟩
                have HO5 := hide ho5.made
                have HK11 := hide (And.intro (HK9.out.1.below hb11) (And.intro (HK9.out.2.1.trans (hb11.mono HK9.out.2.1.size)) (HK9.out.2.2.below hb11)))
                have hlc : S'.cs.length ≤ 200 := by
                  have h2 := HK11.out.1.vs.ok
                  have h3 := rise_len (a := 1) (b := S'.nx) h2.csr (fun x hx => by have := h2.csa x hx; omega)
                  have := HS1.out.2.2.2.1
                  omega
                clear ho5 hb11 hch
                go_wp2_with fail
                go_loopw [13, 14, 15, 16, 17, 99, 100, 101, 102, 103, 104, 105, 106, 107, 108, 109, 110, 111, 112, 113, 114, 115, 116, 117, 118, 119, 120, 121, 122, 123, 124, 125, 126, 127, 128, 129, 130, 131, 132, 133, 134, 135, 136, 137, 138, 139, 140, 141, 142, 143, 144, 145, 146, 147, 148, 149, 150, 151, 152, 153, 154, 155, 156, 157, 158, 159, 160, 161, 162, 163, 164, 165, 166, 167, 168, 169, 170, 171, 172, 173, 174, 175, 176, 177, 178, 179, 180, 181, 182, 183, 184] (fun i _ _ _ _ _ _ _ _ _ _ _ _ _ _ _ _ _ _ _ _ _ _ _ _ _ _ _ _ _ _ _ _ _ _ _ _ _ _ _ _ _ _ _ _ _ _ _ _ _ _ _ _ _ _ _ _ _ _ _ _ _ _ _ _ _ _ _ _ _ _ _ _ _ _ _ _ _ _ _ _ _ _ _ _ _ _ _ _ _ _ wc => ∃ (jc : Nat) (L' : List Int), jc ≤ S'.cs.length ∧ i = .int .i64 jc ∧ VSK [eb] wc sb S' (k + 1) ∧ EpOk S' L' ∧ Blk wc eb 51 (L'.map (Value.int .i64)) ∧ Chg [eb] w11 wc) (fun i _ _ _ _ _ _ _ _ _ _ _ _ _ _ _ _ _ _ _ _ _ _ _ _ _ _ _ _ _ _ _ _ _ _ _ _ _ _ _ _ _ _ _ _ _ _ _ _ _ _ _ _ _ _ _ _ _ _ _ _ _ _ _ _ _ _ _ _ _ _ _ _ _ _ _ _ _ _ _ _ _ _ _ _ _ _ _ _ _ _ _ => S'.cs.length - (intOf i).toNat)
                case atStart => exact ⟨0, L, Nat.zero_le _, rfl, HK11.out.1, HS1.out.2.2.1, HK11.out.2.2, Chg.refl _ _⟩
                case round =>
                  obtain ⟨jc, L', hjc, rfl, hvc, hepc, hblc, hcc⟩ := hrel
                  have HVC := hide hvc
                  have HEC := hide hepc
                  have HBC := hide hblc
                  have HCC := hide hcc
                  clear hvc hepc hblc hcc
                  by_cases hljc : jc < S'.cs.length
                  · have ijc : (jc : Int) < S'.cs.length := by omega
                    obtain ⟨bI, oI, eI, hbI, hcI⟩ := HO5.out.rd.2 (by simp; omega)
                    obtain ⟨⟨cidI, cvol, cep, cme, cjo⟩, hcx⟩ : ∃ x, S'.cs[jc] = x := ⟨_, rfl⟩
                    obtain ⟨cid, rfl⟩ : ∃ cid : Nat, cidI = (cid : Int) := ⟨cidI.toNat, by have := HVC.out.vs.ok.csa _ (List.getElem_mem hljc); rw [hcx] at this; simp only [] at this; omega⟩
                    have hcm : (⟨cid, cvol, cep, cme, cjo⟩ : Ck) ∈ S'.cs := by rw [← hcx]; exact List.getElem_mem _
                    have hneI : bI ≠ eb := by
                      have h1 := (HO5.out.ap _ eI).2.1
                      have h2 := HK9.out.2.2.lt
                      simp only [] at h1
                      omega
                    have gI : wr.cell? ⟨bI, oI + jc, none⟩ = some (.int .i64 cid) := (HCC.out.cell (p := ⟨bI, oI + jc, none⟩) hbI (by simpa using hneI)).trans (hcI jc _ (by simp [hljc, hcx]))
                    have hfc := fd_mem HVC.out.vs.ok.csr hcm
                    have hca := HVC.out.vs.ok.csa _ hcm
                    have hcnx := HS1.out.2.2.2.1
                    have hnd := HS1.out.1.nd _ hcm
                    have hmb := HS1.out.1.mb _ hcm
                    simp only [] at hfc hca hnd hmb
                    have hci : i64ok cid := by unfold i64ok; omega
                    have hkc := hide (HVC.out.vs.chunk hci)
                    rw [hfc] at hkc
                    have HCM := hide hcm
                    have HCA := hide (And.intro hca (And.intro hcnx (And.intro hnd hmb)))
                    subst eI
                    clear hcx hcI hcm hneI hbI hfc hca hcnx hnd hmb hci
                    have gI2 := gI
                    go_wp2_with fail
                    refine hkc.out.mono ?_
                    intro e w12 hvo
                    obtain ⟨A6, c6, B6, d6, rfl, hbox, hbw⟩ := hvo.box HVC.out.vs.lt
                    simp only [CkM.val, CkM.cells]
                    have q12 := (Below.refl w12.heap.size w12).alloc (Nat.le_refl _) (.cells (⟨⟨cid, cvol, cep, cme, cjo⟩, A6, c6, B6, d6⟩ : CkM).cells.toArray 42)
                    have K12 := And.intro ((HVC.out.below hbw).below q12) (And.intro ((HBC.out.below hbw).below q12) (And.intro ((HCC.out.below hbw).below q12) hbox))
                    simp only [CkM.cells] at K12
                    obtain ⟨w13, hw13⟩ : ∃ w13, w12.alloc (.cells #[.int .i64 cid, .int .i64 cvol, .int .i64 cep, .slice A6 cme.length c6, .slice B6 cjo.length d6] 42) = w13 := ⟨_, rfl⟩
                    rw [hw13] at K12
                    have HK13 := hide K12
                    clear hvo hbox hbw q12 K12 hkc gI2
                    have r13 := Below.refl w13.heap.size w13
                    have qE := (r13.alloc (Nat.le_refl _) (.cells #[] 3)).drew
                    have HQE := hide qE
                    have QE : Que (w13.alloc (.cells #[] 3)).drew 3 1 (.slice (some ⟨w13.heap.size, 0, none⟩) 0 0) 0 [] := ⟨rfl, .inr ⟨w13.heap.size, 0, 0, #[], rfl, heap_alloc_new w13 _, Nat.le_refl _, by unfold maxLen; omega, Nat.le_refl _, rfl⟩⟩
                    have HQU := hide QE
                    obtain ⟨i0, hi, hz0, hz1, hz2⟩ := info_parts Try.infoI3
                    have v3 : ∀ w', Below w13.heap.size w13 w' → w'.cell? ⟨w12.heap.size, 3, none⟩ = some (.slice A6 cme.length c6) := HK13.out.2.2.2.blk.rule 3 _ rfl
                    have v4 : ∀ w', Below w13.heap.size w13 w' → w'.cell? ⟨w12.heap.size, 4, none⟩ = some (.slice B6 cjo.length d6) := HK13.out.2.2.2.blk.rule 4 _ rfl
                    have HRA := hide HK13.out.2.2.2.ra
                    have HRB := hide HK13.out.2.2.2.rb
                    have HW13 := hide hw13
                    clear qE QE
                    go_wp2_with fail
                    clear hw13
                    refine region_lexg (fun w' => Below w13.heap.size w13 w') [] 0 [(2, 1), (0, 2), (2, 4), (0, 5), (1, 0), (1, 3), (1, 6), (2, 7)] #[true, true, true, true, true, true, true, true] (by kernel_rfl) (by kernel_rfl) (by decide) (by kernel_rfl) (by kernel_rfl) (fun _ _ _ _ _ h => h) (by (first | exact r13.drew | exact HQE.out | assumption)) (fun hS0 => ?_)
                    simp only [List.map_cons, List.map_nil, List.getElem?_toArray, List.getElem?_cons_succ, List.getElem?_cons_zero]
                    (apply lexg_pure (by rfl); (focus (intro w; go_simp; (try with_reducible rfl); done)); simp only [Act.put, List.setIfInBounds_toArray, List.set_cons_zero, List.set_cons_succ])
                    (apply lexg_take (by rfl); (focus (intro w hw; (try dsimp only at hw); go_simp; (try with_reducible rfl); done)); simp only [Act.put, List.setIfInBounds_toArray, List.set_cons_zero, List.set_cons_succ])
                    (apply lexg_pure (by rfl); (focus (intro w; go_simp; (try with_reducible rfl); done)); simp only [Act.put, List.setIfInBounds_toArray, List.set_cons_zero, List.set_cons_succ])
                    (apply lexg_take (by rfl); (focus (intro w hw; (try dsimp only at hw); go_simp; (try with_reducible rfl); done)); simp only [Act.put, List.setIfInBounds_toArray, List.set_cons_zero, List.set_cons_succ])
                    (refine lexg_eff (by rfl) ?_; go_simp; refine lexg_both (by (first | exact r13.drew | exact HQE.out | assumption)) (fun hS1 => ?_))
                    (refine lexg_eff (by rfl) ?_; (refine wp_append_src _ _ _ 32 rfl 3 i0 _ 1 8 Try.underlying32 hi hz0 hz1 hz2 rfl (by decide) (.slice (some ⟨w13.heap.size, 0, none⟩) 0 0) 0 [] rfl HQU.out A6 cme.length c6 _ (cme.map (Value.int .i64)) rfl (HRA.out.below HQE.out).rd (by intro u hu; obtain ⟨x, _, rfl⟩ := List.mem_map.1 hu; rfl) (by have := HCA.out.1; unfold maxLen; omega) (by have := HCA.out.1; omega) ?_; intro A7 cap7 w14 hq7 hch7 hg7; have hb14 : Below w13.heap.size w13 w14 := Chg.onto HQE.out HQE.out.size hch7 (fun x hx => by simp [Value.ownBlock] at hx; omega); have HQ7 := hide (And.intro hq7 (show ∀ g, A7.map Addr.block = some g → w13.heap.size ≤ g from fun g hg => by rcases hg7 g hg with h | h <;> (simp [Value.ownBlock] at h; omega))); clear hq7 hch7 hg7); simp only [Act.put, List.setIfInBounds_toArray, List.set_cons_zero, List.set_cons_succ]; refine lexg_both (by (first | exact r13.drew | exact HQE.out | assumption)) (fun hS1 => ?_))
                    (refine lexg_eff (by rfl) ?_; (refine wp_append_src _ _ _ 32 rfl 3 i0 _ 1 8 Try.underlying32 hi hz0 hz1 hz2 rfl (by decide) (.slice A7 (0 + cme.length) cap7) (0 + cme.length) ([] ++ cme.map (Value.int .i64)) rfl HQ7.out.1 B6 cjo.length d6 _ (cjo.map (Value.int .i64)) rfl (HRB.out.below hb14).rd (by intro u hu; obtain ⟨x, _, rfl⟩ := List.mem_map.1 hu; rfl) (by have := HCA.out.1; unfold maxLen; omega) (by have := HCA.out.1; omega) ?_; intro A8 cap8 w15 hq8 hch8 hg8; have hb15 : Below w13.heap.size w13 w15 := Chg.onto hb14 hb14.size hch8 (fun x hx => HQ7.out.2 x (by rw [ownBlock_slice] at hx; simpa using hx)); have HQ8 := hide (And.intro hq8 (show ∀ g, A8.map Addr.block = some g → w13.heap.size ≤ g from fun g hg => by rcases hg8 g hg with h | h; exact HQ7.out.2 g (by rw [ownBlock_slice] at h; exact h); have := hb14.size; omega)); clear hq8 hch8 hg8); simp only [Act.put, List.setIfInBounds_toArray, List.set_cons_zero, List.set_cons_succ]; refine lexg_both (by (first | exact r13.drew | exact HQE.out | assumption)) (fun hS1 => ?_))
                    (apply lexg_pure (by rfl); (focus (intro w; go_simp; (try with_reducible rfl); done)); simp only [Act.put, List.setIfInBounds_toArray, List.set_cons_zero, List.set_cons_succ])
                    refine lexg_nil (fun _ => wpAnyG_done (by kernel_rfl) ?_ _)
                    rename_i hunm
                    clear hunm hS0 hS1 hi hz0 hz1 hz2 v3 v4
                    obtain ⟨al, hal⟩ : ∃ al, cme ++ cjo = al := ⟨_, rfl⟩
                    have hall : cme.length + cjo.length = al.length := by rw [← hal, List.length_append]
                    rw [hall]
                    have hq8 := HQ8.out.1
                    rw [Nat.zero_add, hall, List.nil_append, ← List.map_append, hal] at hq8
                    have hal4 : al.length ≤ 4 := by rw [← hall]; exact HCA.out.1.2.2.2.2
                    have HRAL := hide (hq8.rdI rfl (by omega))
                    have hcap8 : al.length ≤ cap8 := by
                      obtain ⟨A9, c9, e9, h9, _⟩ := hq8.form
                      injection e9 with _ _ e9
                      rw [e9]; exact h9
                    have HND : Hid al.Nodup := hide (by rw [← hal]; exact HCA.out.2.2.1)
                    have HK15 := hide (And.intro (HK13.out.1.below hb15) (And.intro (HK13.out.2.1.below hb15) (HK13.out.2.2.1.below hb15)))
                    have HBX := hide (HK13.out.2.2.2.blk.below hb15)
                    have hca := HCA.out
                    have hc200 : cid < 200 := by omega
                    have hepc := HEC.out
                    have hL : L'.length = 200 := hepc.1
                    have hE0 : ∀ w', Below w15.heap.size w15 w' → w'.cell? ⟨eb, cid, none⟩ = some (.int .i64 (L'.getD cid 0)) := fun w' hb => by
                      rw [(HK15.out.2.1.below hb).cell cid, List.getElem?_map, List.getElem?_eq_getElem (by omega), List.getD_eq_getElem?_getD, List.getElem?_eq_getElem (by omega)]
                      rfl
                    have hEf : ∀ w', Below w15.heap.size w15 w' → w'.frozen? ⟨eb, cid, none⟩ = false := fun w' hb => (HK15.out.2.1.below hb).frozen cid
                    have hle : L'.getD cid 0 ≤ cep := by
                      have := hepc.2.1 _ HCM.out
                      simpa using this
                    obtain ⟨e0, he0⟩ : ∃ e0, L'.getD cid 0 = e0 := ⟨_, rfl⟩
                    rw [he0] at hE0 hle
                    have r15 := Below.refl w15.heap.size w15
                    have r15d := r15.drew
                    have v2 : ∀ w', Below w15.heap.size w15 w' → w'.cell? ⟨w12.heap.size, 2, none⟩ = some (.int .i64 cep) := HBX.out.rule 2 _ rfl
                    have v3 : ∀ w', Below w15.heap.size w15 w' → w'.cell? ⟨w12.heap.size, 3, none⟩ = some (.slice A6 cme.length c6) := HBX.out.rule 3 _ rfl
                    have hneI : bI ≠ eb := by
                      have h1 := (HO5.out.ap _ rfl).2.1
                      have h2 := HK9.out.2.2.lt
                      simp only [] at h1
                      omega
                    have gI3 : ∀ w', Below w15.heap.size w15 w' → w'.cell? ⟨bI, oI + jc, none⟩ = some (.int .i64 cid) := fun w' hb => by
                      have hbI : bI < w11.heap.size := (HO5.out.ap _ rfl).2.2
                      have h1 := (HK15.out.2.2.below hb).cell (p := ⟨bI, oI + jc, none⟩) hbI (by simpa using hneI)
                      have h2 := HCC.out.cell (p := ⟨bI, oI + jc, none⟩) hbI (by simpa using hneI)
                      rw [h1, ← h2]
                      exact gI
                    have dl1 : decide ((cme.length : Int) < 1) = false := decide_eq_false (by have := List.length_pos_iff.2 hca.2.2.2; omega)
                    have dl2 : decide ((4 : Int) < al.length) = false := decide_eq_false (by omega)
                    have dl3 : decide ((cid : Int) < 1) = false := decide_eq_false (by omega)
                    have dl4 : decide ((199 : Int) < cid) = false := decide_eq_false (by omega)
                    have dl5 : decide (cep < e0) = false := decide_eq_false (by omega)
                    have dl6 : decide (cep < 1) = false := decide_eq_false (by omega)
                    have il : (cid : Int) < 200 := by omega
                    have HCID := hide hc200
                    have HEPC := hide (And.intro hepc (And.intro hL he0))
                    clear hq8 hal hall hca hepc hL he0 hle hneI gI
                    go_wp2_with fail
                    refine region_q (fun w' => Below w15.heap.size w15 w') (by kernel_rfl) (by kernel_rfl) (by (exact r15d)) ?_
                    (refine wq_step (fun K hK => ?_); apply q_take (by rfl); (focus (intro w hw; (try dsimp only at hw); go_simp; (try with_reducible rfl); done)); simp only [Act.put, List.setIfInBounds_toArray, List.set_cons_zero, List.set_cons_succ]; refine hK _ ?_; clear hK K)
                    (refine wq_step (fun K hK => ?_); apply q_take (by rfl); (focus (intro w hw; (try dsimp only at hw); go_simp; (try with_reducible rfl); done)); simp only [Act.put, List.setIfInBounds_toArray, List.set_cons_zero, List.set_cons_succ]; refine hK _ ?_; clear hK K)
                    (refine wq_step (fun K hK => ?_); apply q_take (by rfl); (focus (intro w hw; (try dsimp only at hw); go_simp; (try with_reducible rfl); done)); simp only [Act.put, List.setIfInBounds_toArray, List.set_cons_zero, List.set_cons_succ]; refine hK _ ?_; clear hK K)
                    (refine wq_step (fun K hK => ?_); apply q_take (by kernel_rfl); (focus (intro w hw; (try dsimp only at hw); go_simp; (try with_reducible rfl); done)); simp only [Act.put, List.setIfInBounds_toArray, List.set_cons_zero, List.set_cons_succ]; refine hK _ ?_; clear hK K)
                    (refine wq_step (fun K hK => ?_); apply q_take (by kernel_rfl); (focus (intro w hw; (try dsimp only at hw); go_simp; (try with_reducible rfl); done)); simp only [Act.put, List.setIfInBounds_toArray, List.set_cons_zero, List.set_cons_succ]; refine hK _ ?_; clear hK K)
                    (refine wq_step (fun K hK => ?_); apply q_take (by kernel_rfl); (focus (intro w hw; (try dsimp only at hw); go_simp; (try with_reducible rfl); done)); simp only [Act.put, List.setIfInBounds_toArray, List.set_cons_zero, List.set_cons_succ]; refine hK _ ?_; clear hK K)
                    (refine wq_step (fun K hK => ?_); apply q_take (by kernel_rfl); (focus (intro w hw; (try dsimp only at hw); go_simp; (try with_reducible rfl); done)); simp only [Act.put, List.setIfInBounds_toArray, List.set_cons_zero, List.set_cons_succ]; refine hK _ ?_; clear hK K)
                    (refine wq_step (fun K hK => ?_); apply q_take (by rfl); (focus (intro w hw; (try dsimp only at hw); go_simp; (try with_reducible rfl); done)); simp only [Act.put, List.setIfInBounds_toArray, List.set_cons_zero, List.set_cons_succ]; refine hK _ ?_; clear hK K)
                    (refine wq_step (fun K hK => ?_); apply q_take (by rfl); (focus (intro w hw; (try dsimp only at hw); go_simp; (try with_reducible rfl); done)); simp only [Act.put, List.setIfInBounds_toArray, List.set_cons_zero, List.set_cons_succ]; refine hK _ ?_; clear hK K)
                    (refine wq_step (fun K hK => ?_); apply q_take (by kernel_rfl); (focus (intro w hw; (try dsimp only at hw); go_simp; (try with_reducible rfl); done)); simp only [Act.put, List.setIfInBounds_toArray, List.set_cons_zero, List.set_cons_succ]; refine hK _ ?_; clear hK K)
                    (refine wq_step (fun K hK => ?_); apply q_take (by kernel_rfl); (focus (intro w hw; (try dsimp only at hw); go_simp; (try with_reducible rfl); done)); simp only [Act.put, List.setIfInBounds_toArray, List.set_cons_zero, List.set_cons_succ]; refine hK _ ?_; clear hK K)
                    (refine wq_step (fun K hK => ?_); apply q_take (by kernel_rfl); (focus (intro w hw; (try dsimp only at hw); go_simp; (try with_reducible rfl); done)); simp only [Act.put, List.setIfInBounds_toArray, List.set_cons_zero, List.set_cons_succ]; refine hK _ ?_; clear hK K)
                    (refine wq_step (fun K hK => ?_); apply q_take (by rfl); (focus (intro w hw; (try dsimp only at hw); go_simp; (try with_reducible rfl); done)); simp only [Act.put, List.setIfInBounds_toArray, List.set_cons_zero, List.set_cons_succ]; refine hK _ ?_; clear hK K)
                    (refine wq_step (fun K hK => ?_); apply q_take (by rfl); (focus (intro w hw; (try dsimp only at hw); go_simp; (try with_reducible rfl); done)); simp only [Act.put, List.setIfInBounds_toArray, List.set_cons_zero, List.set_cons_succ]; refine hK _ ?_; clear hK K)
                    (refine wq_step (fun K hK => ?_); apply q_take (by kernel_rfl); (focus (intro w hw; (try dsimp only at hw); go_simp; (try with_reducible rfl); done)); simp only [Act.put, List.setIfInBounds_toArray, List.set_cons_zero, List.set_cons_succ]; refine hK _ ?_; clear hK K)
                    (refine wq_step (fun K hK => ?_); apply q_take (by kernel_rfl); (focus (intro w hw; (try dsimp only at hw); go_simp; (try with_reducible rfl); done)); simp only [Act.put, List.setIfInBounds_toArray, List.set_cons_zero, List.set_cons_succ]; refine hK _ ?_; clear hK K)
                    (refine wq_step (fun K hK => ?_); apply q_take (by kernel_rfl); (focus (intro w hw; (try dsimp only at hw); go_simp; (try with_reducible rfl); done)); simp only [Act.put, List.setIfInBounds_toArray, List.set_cons_zero, List.set_cons_succ]; refine hK _ ?_; clear hK K)
                    (refine wq_step (fun K hK => ?_); apply q_take (by kernel_rfl); (focus (intro w hw; (try dsimp only at hw); go_simp; (try with_reducible rfl); done)); simp only [Act.put, List.setIfInBounds_toArray, List.set_cons_zero, List.set_cons_succ]; refine hK _ ?_; clear hK K)
                    (refine wq_step (fun K hK => ?_); apply q_take (by kernel_rfl); (focus (intro w hw; (try dsimp only at hw); go_simp; (try with_reducible rfl); done)); simp only [Act.put, List.setIfInBounds_toArray, List.set_cons_zero, List.set_cons_succ]; refine hK _ ?_; clear hK K)
                    (refine wq_step (fun K hK => ?_); apply q_take (by rfl); (focus (intro w hw; (try dsimp only at hw); go_simp; (try with_reducible rfl); done)); simp only [Act.put, List.setIfInBounds_toArray, List.set_cons_zero, List.set_cons_succ]; refine hK _ ?_; clear hK K)
                    (refine wq_step (fun K hK => ?_); apply q_take (by rfl); (focus (intro w hw; (try dsimp only at hw); go_simp; (try with_reducible rfl); done)); simp only [Act.put, List.setIfInBounds_toArray, List.set_cons_zero, List.set_cons_succ]; refine hK _ ?_; clear hK K)
                    (refine wq_step (fun K hK => ?_); apply q_take (by kernel_rfl); (focus (intro w hw; (try dsimp only at hw); go_simp; (try with_reducible rfl); done)); simp only [Act.put, List.setIfInBounds_toArray, List.set_cons_zero, List.set_cons_succ]; refine hK _ ?_; clear hK K)
                    (refine wq_step (fun K hK => ?_); apply q_take (by kernel_rfl); (focus (intro w hw; (try dsimp only at hw); go_simp; (try with_reducible rfl); done)); simp only [Act.put, List.setIfInBounds_toArray, List.set_cons_zero, List.set_cons_succ]; refine hK _ ?_; clear hK K)
                    (refine wq_step (fun K hK => ?_); apply q_take (by kernel_rfl); (focus (intro w hw; (try dsimp only at hw); go_simp; (try with_reducible rfl); done)); simp only [Act.put, List.setIfInBounds_toArray, List.set_cons_zero, List.set_cons_succ]; refine hK _ ?_; clear hK K)
                    (refine wq_step (fun K hK => ?_); apply q_take (by kernel_rfl); (focus (intro w hw; (try dsimp only at hw); go_simp; (try with_reducible rfl); done)); simp only [Act.put, List.setIfInBounds_toArray, List.set_cons_zero, List.set_cons_succ]; refine hK _ ?_; clear hK K)
                    (refine wq_step (fun K hK => ?_); apply q_take (by kernel_rfl); (focus (intro w hw; (try dsimp only at hw); go_simp; (try with_reducible rfl); done)); simp only [Act.put, List.setIfInBounds_toArray, List.set_cons_zero, List.set_cons_succ]; refine hK _ ?_; clear hK K)
                    (refine wq_step (fun K hK => ?_); apply q_take (by rfl); (focus (intro w hw; (try dsimp only at hw); go_simp; (try with_reducible rfl); done)); simp only [Act.put, List.setIfInBounds_toArray, List.set_cons_zero, List.set_cons_succ]; refine hK _ ?_; clear hK K)
                    (refine wq_step (fun K hK => ?_); apply q_take (by rfl); (focus (intro w hw; (try dsimp only at hw); go_simp; (try with_reducible rfl); done)); simp only [Act.put, List.setIfInBounds_toArray, List.set_cons_zero, List.set_cons_succ]; refine hK _ ?_; clear hK K)
                    (refine wq_step (fun K hK => ?_); apply q_take (by kernel_rfl); (focus (intro w hw; (try dsimp only at hw); go_simp; (try with_reducible rfl); done)); simp only [Act.put, List.setIfInBounds_toArray, List.set_cons_zero, List.set_cons_succ]; refine hK _ ?_; clear hK K)
                    (refine wq_step (fun K hK => ?_); apply q_take (by kernel_rfl); (focus (intro w hw; (try dsimp only at hw); go_simp; (try with_reducible rfl); done)); simp only [Act.put, List.setIfInBounds_toArray, List.set_cons_zero, List.set_cons_succ]; refine hK _ ?_; clear hK K)
                    (refine wq_step (fun K hK => ?_); apply q_take (by kernel_rfl); (focus (intro w hw; (try dsimp only at hw); go_simp; (try with_reducible rfl); done)); simp only [Act.put, List.setIfInBounds_toArray, List.set_cons_zero, List.set_cons_succ]; refine hK _ ?_; clear hK K)
                    (refine wq_step (fun K hK => ?_); apply q_take (by kernel_rfl); (focus (intro w hw; (try dsimp only at hw); go_simp; (try with_reducible rfl); done)); simp only [Act.put, List.setIfInBounds_toArray, List.set_cons_zero, List.set_cons_succ]; refine hK _ ?_; clear hK K)
                    (refine wq_step (fun K hK => ?_); apply q_take (by kernel_rfl); (focus (intro w hw; (try dsimp only at hw); go_simp; (try with_reducible rfl); done)); simp only [Act.put, List.setIfInBounds_toArray, List.set_cons_zero, List.set_cons_succ]; refine hK _ ?_; clear hK K)
                    (refine wq_step (fun K hK => ?_); apply q_take (by kernel_rfl); (focus (intro w hw; (try dsimp only at hw); go_simp; (try with_reducible rfl); done)); simp only [Act.put, List.setIfInBounds_toArray, List.set_cons_zero, List.set_cons_succ]; refine hK _ ?_; clear hK K)
                    (refine wq_step (fun K hK => ?_); apply q_take (by kernel_rfl); (focus (intro w hw; (try dsimp only at hw); go_simp; (try with_reducible rfl); done)); simp only [Act.put, List.setIfInBounds_toArray, List.set_cons_zero, List.set_cons_succ]; refine hK _ ?_; clear hK K)
                    (refine wq_step (fun K hK => ?_); apply q_take (by kernel_rfl); (focus (intro w hw; (try dsimp only at hw); go_simp; (try with_reducible rfl); done)); simp only [Act.put, List.setIfInBounds_toArray, List.set_cons_zero, List.set_cons_succ]; refine hK _ ?_; clear hK K)
                    (refine wq_step (fun K hK => ?_); apply q_take (by kernel_rfl); (focus (intro w hw; (try dsimp only at hw); go_simp; (try with_reducible rfl); done)); simp only [Act.put, List.setIfInBounds_toArray, List.set_cons_zero, List.set_cons_succ]; refine hK _ ?_; clear hK K)
                    (refine wq_step (fun K hK => ?_); apply q_take (by rfl); (focus (intro w hw; (try dsimp only at hw); go_simp; (try with_reducible rfl); done)); simp only [Act.put, List.setIfInBounds_toArray, List.set_cons_zero, List.set_cons_succ]; refine hK _ ?_; clear hK K)
                    (refine wq_step (fun K hK => ?_); apply q_take (by rfl); (focus (intro w hw; (try dsimp only at hw); go_simp; (try with_reducible rfl); done)); simp only [Act.put, List.setIfInBounds_toArray, List.set_cons_zero, List.set_cons_succ]; refine hK _ ?_; clear hK K)
                    (refine wq_step (fun K hK => ?_); apply q_take (by kernel_rfl); (focus (intro w hw; (try dsimp only at hw); go_simp; (try with_reducible rfl); done)); simp only [Act.put, List.setIfInBounds_toArray, List.set_cons_zero, List.set_cons_succ]; refine hK _ ?_; clear hK K)
                    (refine wq_step (fun K hK => ?_); apply q_take (by kernel_rfl); (focus (intro w hw; (try dsimp only at hw); go_simp; (try with_reducible rfl); done)); simp only [Act.put, List.setIfInBounds_toArray, List.set_cons_zero, List.set_cons_succ]; refine hK _ ?_; clear hK K)
                    (refine wq_step (fun K hK => ?_); apply q_take (by kernel_rfl); (focus (intro w hw; (try dsimp only at hw); go_simp; (try with_reducible rfl); done)); simp only [Act.put, List.setIfInBounds_toArray, List.set_cons_zero, List.set_cons_succ]; refine hK _ ?_; clear hK K)
                    (refine wq_step (fun K hK => ?_); apply q_take (by rfl); (focus (intro w hw; (try dsimp only at hw); go_simp; (try with_reducible rfl); done)); simp only [Act.put, List.setIfInBounds_toArray, List.set_cons_zero, List.set_cons_succ]; refine hK _ ?_; clear hK K)
                    refine wq_nil ?_
                    intro wq hwq
                    have HQW := hide hwq
                    have rq := Below.refl wq.heap.size wq
                    have HK16 := hide (And.intro (HK15.out.1.below hwq) (And.intro (HK15.out.2.1.below hwq) (HK15.out.2.2.below hwq)))
                    have HRA16 := hide (HRAL.out.below hwq)
                    have hE0q : ∀ w', Below wq.heap.size wq w' → w'.cell? ⟨eb, cid, none⟩ = some (.int .i64 e0) := fun w' hb => hE0 w' (HQW.out.trans (hb.mono HQW.out.size))
                    have hEfq : ∀ w', Below wq.heap.size wq w' → w'.frozen? ⟨eb, cid, none⟩ = false := fun w' hb => hEf w' (HQW.out.trans (hb.mono HQW.out.size))
                    have v2q : ∀ w', Below wq.heap.size wq w' → w'.cell? ⟨w12.heap.size, 2, none⟩ = some (.int .i64 cep) := fun w' hb => v2 w' (HQW.out.trans (hb.mono HQW.out.size))
                    have gIq : ∀ w', Below wq.heap.size wq w' → w'.cell? ⟨bI, oI + jc, none⟩ = some (.int .i64 cid) := fun w' hb => gI3 w' (HQW.out.trans (hb.mono HQW.out.size))
                    clear hE0 hEf v2 v3 gI3 dl1 dl2 dl3 dl4 dl5 dl6 r15 r15d hwq hb14 hb15
                    go_wp2_with fail
                    refine region_lexg (fun w' => Below wq.heap.size wq w') [7] 0 [(2, 0), (2, 1), (2, 2), (0, 3), (2, 4), (0, 5), (2, 6), (3, 7)] #[true, true, true, true, true, true, true, true] (by kernel_rfl) (by kernel_rfl) (by decide) (by kernel_rfl) (by kernel_rfl) (fun _ _ _ _ _ h => h) (by (exact rq.drew)) (fun hS0 => ?_)
                    simp only [List.map_cons, List.map_nil, List.getElem?_toArray, List.getElem?_cons_succ, List.getElem?_cons_zero]
                    (apply lexg_pure (by rfl); (focus (intro w; go_simp; (try with_reducible rfl); done)); simp only [Act.put, List.setIfInBounds_toArray, List.set_cons_zero, List.set_cons_succ])
                    (apply lexg_pure (by rfl); (focus (intro w; go_simp; (try with_reducible rfl); done)); simp only [Act.put, List.setIfInBounds_toArray, List.set_cons_zero, List.set_cons_succ])
                    (apply lexg_pure (by rfl); (focus (intro w; go_simp; (try with_reducible rfl); done)); simp only [Act.put, List.setIfInBounds_toArray, List.set_cons_zero, List.set_cons_succ])
                    (apply lexg_take (by rfl); (focus (intro w hw; (try dsimp only at hw); go_simp; (try with_reducible rfl); done)); simp only [Act.put, List.setIfInBounds_toArray, List.set_cons_zero, List.set_cons_succ])
                    (apply lexg_pure (by rfl); (focus (intro w; go_simp; (try with_reducible rfl); done)); simp only [Act.put, List.setIfInBounds_toArray, List.set_cons_zero, List.set_cons_succ])
                    (apply lexg_take (by rfl); (focus (intro w hw; (try dsimp only at hw); go_simp; (try with_reducible rfl); done)); simp only [Act.put, List.setIfInBounds_toArray, List.set_cons_zero, List.set_cons_succ])
                    (apply lexg_pure (by rfl); (focus (intro w; go_simp; (try with_reducible rfl); done)); simp only [Act.put, List.setIfInBounds_toArray, List.set_cons_zero, List.set_cons_succ])
                    (refine lexg_effN (by rfl) ?_; go_simp)
                    refine lexg_nil (fun _ => wpAnyG_done (by kernel_rfl) ?_ _)
                    rename_i hunm
                    clear hunm hS0
                    have hc17 : Chg [eb] wq.drew (wq.drew.setCell ⟨eb, cid, none⟩ (.int .i64 cep)) := (Chg.refl _ _).setCell (Or.inl (by simp)) _
                    have hnb : eb ≠ sb := by have := HNE.out; omega
                    have K17 : VSK [eb] (wq.drew.setCell ⟨eb, cid, none⟩ (.int .i64 cep)) sb S' (k + 1) ∧ Blk (wq.drew.setCell ⟨eb, cid, none⟩ (.int .i64 cep)) eb 51 ((L'.set cid cep).map (Value.int .i64)) ∧ Chg [eb] w11 (wq.drew.setCell ⟨eb, cid, none⟩ (.int .i64 cep)) ∧ RdI (wq.drew.setCell ⟨eb, cid, none⟩ (.int .i64 cep)) A8 al := by
                      refine ⟨(HK16.out.1.below rq.drew).chg hc17 (fun x hx => by rw [List.mem_singleton.1 hx]; exact ⟨by simp, hnb, _, _, HK16.out.2.1.below rq.drew⟩), ?_, (HK16.out.2.2.below rq.drew).same hc17, (HRA16.out.below rq.drew).chg hc17 (fun a ha => ?_)⟩
                      · have := (HK16.out.2.1.below rq.drew).set cid (.int .i64 cep)
                        rw [List.map_set]
                        exact this
                      · have h1 := HQ8.out.2 a.block (by rw [ha]; rfl)
                        have h2 := HK13.out.2.1.lt
                        simp
                        omega
                    have HEP' : Hid (EpOk S' (L'.set cid cep)) := hide (by
                      have := HEPC.out.1.set HVC.out.vs.ok HCM.out (by simp only []; have := HCID.out; omega)
                      simpa using this)
                    obtain ⟨w17, hw17⟩ : ∃ w17, wq.drew.setCell ⟨eb, cid, none⟩ (.int .i64 cep) = w17 := ⟨_, rfl⟩
                    rw [hw17] at K17
                    rw [show (wq.setCell ⟨eb, cid, none⟩ (.int .i64 cep)).drew = w17 from hw17]
                    have HK17 := hide K17
                    have HW17 := hide hw17
                    clear K17 hw17 hc17 hE0q hEfq v2q gIq hnb
                    go_wp2_with fail
                    go_loopw [17, 171, 172, 173, 174, 175, 176, 177, 178, 179, 180, 181, 182, 183, 184] (fun i _ _ _ _ _ _ _ _ _ _ _ _ _ _ wi => ∃ ji : Nat, ji ≤ al.length ∧ i = .int .i64 ji ∧ Below w17.heap.size w17 wi) (fun i _ _ _ _ _ _ _ _ _ _ _ _ _ _ _ => al.length - (intOf i).toNat)
                    case atStart => exact ⟨0, Nat.zero_le _, rfl, Below.refl _ _⟩
                    case round =>
                      obtain ⟨ji, hji, rfl, hbi⟩ := hrel
                      have HBI := hide hbi
                      clear hbi
                      by_cases hlji : ji < al.length
                      · have iji : (ji : Int) < al.length := by omega
                        have ri := Below.refl wr.heap.size wr
                        have rda := HK17.out.2.2.2.below HBI.out
                        obtain ⟨b8, o8, e8, hb8', hc8⟩ := rda.rd.2 (by omega)
                        have hel := nodup_take HND.out hlji
                        obtain ⟨x8, hx8⟩ : ∃ x8, al[ji] = x8 := ⟨_, rfl⟩
                        have g8 : ∀ w', Below wr.heap.size wr w' → w'.cell? ⟨b8, o8 + ji, none⟩ = some (.int .i64 x8) := fun w' hb => (hb.cell (p := ⟨b8, o8 + ji, none⟩) hb8').trans (hc8 ji _ (by simp [hlji, hx8]))
                        rw [hx8] at hel
                        have rdt := hide (rda.take (k := ji) (by omega))
                        have htl : (al.take ji).length = ji := by rw [List.length_take]; omega
                        have hcj : ji ≤ cap8 := by omega
                        have HHS : Hid (∀ w', Below wr.heap.size wr w' → Calls Try.prog 19 #[.slice A8 ji cap8, .int .i64 x8] w' fun e w'' => e = .returned (.bool false) ∧ ∃ nq, w'' = w'.drewN nq) := hide (fun w' hb => by
                          have := has15_calls A8 ji cap8 (al.take ji) x8 w' htl (by omega) (by have := (rdt.out.below hb).rd; rwa [htl] at this)
                          rwa [hel] at this)
                        subst e8
                        have HEL := hide hel
                        clear hc8 hx8 hel rda htl hb8'
                        go_wp2_with fail
                        refine region_lexg (fun w' => Below wr.heap.size wr w') [] 0 [(2, 0), (2, 1), (2, 2), (2, 3), (2, 4), (2, 5), (0, 6), (1, 7)] #[true, true, true, true, true, true, true, true] (by kernel_rfl) (by kernel_rfl) (by decide) (by kernel_rfl) (by kernel_rfl) (fun _ _ _ _ _ h => h) (by (first | exact ri.drew | exact below_drewN ri.drew _ | assumption)) (fun hS0 => ?_)
                        simp only [List.map_cons, List.map_nil, List.getElem?_toArray, List.getElem?_cons_succ, List.getElem?_cons_zero]
                        (apply lexg_pure (by rfl); (focus (intro w; go_simp; (try with_reducible rfl); done)); simp only [Act.put, List.setIfInBounds_toArray, List.set_cons_zero, List.set_cons_succ])
                        (apply lexg_pure (by rfl); (focus (intro w; go_simp; (try with_reducible rfl); done)); simp only [Act.put, List.setIfInBounds_toArray, List.set_cons_zero, List.set_cons_succ])
                        (apply lexg_pure (by rfl); (focus (intro w; go_simp; (try with_reducible rfl); done)); simp only [Act.put, List.setIfInBounds_toArray, List.set_cons_zero, List.set_cons_succ])
                        (apply lexg_pure (by rfl); (focus (intro w; go_simp; (try with_reducible rfl); done)); simp only [Act.put, List.setIfInBounds_toArray, List.set_cons_zero, List.set_cons_succ])
                        (apply lexg_pure (by rfl); (focus (intro w; go_simp; (try with_reducible rfl); done)); simp only [Act.put, List.setIfInBounds_toArray, List.set_cons_zero, List.set_cons_succ])
                        (apply lexg_pure (by rfl); (focus (intro w; go_simp; (try with_reducible rfl); done)); simp only [Act.put, List.setIfInBounds_toArray, List.set_cons_zero, List.set_cons_succ])
                        (apply lexg_take (by rfl); (focus (intro w hw; (try dsimp only at hw); go_simp; (try with_reducible rfl); done)); simp only [Act.put, List.setIfInBounds_toArray, List.set_cons_zero, List.set_cons_succ])
                        (refine lexg_eff (by rfl) ?_; go_simp; ((go_at_call 19; refine (HHS.out _ ri.drew).mono ?_; rintro e w18 ⟨rfl, nq, hw18⟩; have hb18 : Below wr.heap.size wr w18 := hw18 ▸ below_drewN ri.drew nq; clear hw18)); refine lexg_both (by (first | exact ri.drew | exact below_drewN ri.drew _ | assumption)) (fun hS1 => ?_))
                        refine lexg_nil (fun _ => wpAnyG_done (by kernel_rfl) ?_ _)
                        have HBN := hide (HBI.out.trans (hb18.mono HBI.out.size))
                        clear hb18 g8
                        go_wp2
                        go_roundw
                        case rel => exact ⟨ji + 1, by omega, by go_num, HBN.out⟩
                        case measure => simp [intOf]; omega
                      · have iji : ¬ ((ji : Int) < al.length) := by omega
                        have hji2 : ji = al.length := by omega
                        clear hlji
                        go_wp2
                        go_roundw
                        case rel => exact ⟨jc + 1, L'.set cid cep, by omega, by go_num, HK17.out.1.below HBI.out, HEP'.out, HK17.out.2.1.below HBI.out, HK17.out.2.2.1.below HBI.out⟩
                        case measure => simp [intOf]; omega
                  · have ijc : ¬ ((jc : Int) < S'.cs.length) := by omega
                    have hjc2 : ¬ (jc < S'.cs.length) := by omega
                    have HBW : Hid (Below W.heap.size W wr) := hide (HK11.out.2.1.trans (HCC.out.toBelow HK11.out.2.1.size (fun x hx => by rw [List.mem_singleton.1 hx]; have := HNE.out; omega)))
                    clear hljc
                    go_wp2
                    go_roundw
                    case rel => exact ⟨k + 1, S', L', by omega, by go_num, HVC.out, HS1.out.1, HS1.out.2.1, HEC.out, HBC.out, HS1.out.2.2.2.1, HBW.out⟩
                    case measure => simp [intOf]; omega
        · subst h1
          subst h2
          have hvn : ¬ (ver2 < ver1) := HVR.out rfl rfl h3
          as_aux_lemma =>
            go_wp2_with fail
            refine hsv.out.mono ?_
            rintro e w8 ⟨A3, c3, rfl, hrs, hgs, hb8⟩
            have HRS := hide hrs
            have HK8 := hide (And.intro (HK7.out.1.below hb8) (And.intro (HK7.out.2.1.trans (hb8.mono HK7.out.2.1.size)) (HK7.out.2.2.1.below hb8)))
            have hsvl : S'.sv.length ≤ 16 := (HK8.out.1.vs.ok.lens (by omega)).1
            clear hrs hgs hb8 hsv s0 s1 s2 hw4 hw7
            go_wp2_with fail
            go_loopw [11, 77, 78, 79, 80, 81, 82, 83, 84, 85, 86, 87, 88, 89, 90, 91, 92, 93, 94, 95, 96] (fun i _ _ _ _ _ _ _ _ _ _ _ _ _ _ _ _ _ _ _ _ wr => ∃ j : Nat, j ≤ S'.sv.length ∧ i = .int .i64 j ∧ Below w8.heap.size w8 wr) (fun i _ _ _ _ _ _ _ _ _ _ _ _ _ _ _ _ _ _ _ _ _ => S'.sv.length - (intOf i).toNat)
            case atStart => exact ⟨0, Nat.zero_le _, rfl, Below.refl _ _⟩
            case round =>
              obtain ⟨j, hj, rfl, hb⟩ := hrel
              have HBJ := hide hb
              clear hb
              by_cases hlj : j < S'.sv.length
              · have ij : (j : Int) < S'.sv.length := by omega
                obtain ⟨bS, oS, rfl, hbS, hcS⟩ := HRS.out.2 (by omega)
                obtain ⟨⟨sid, cap⟩, hsx⟩ : ∃ x, S'.sv[j] = x := ⟨_, rfl⟩
                have hsl : j < S'.srv.length := by unfold Vst.srv; rw [List.length_map]; exact hlj
                have hsg : S'.srv[j] = ⟨sid, cap⟩ := by simp [Vst.srv, hsx]
                have f0 := ldCells_get S'.srv j 0 hsl (by omega)
                have f1 := ldCells_get S'.srv j 1 hsl (by omega)
                rw [hsg] at f0 f1
                have hb8r := HBJ.out
                have rj := Below.refl wr.heap.size wr
                have s0 : ∀ w', Below wr.heap.size wr w' → w'.cell? ⟨bS, oS + j * 2, none⟩ = some (.int .i64 sid) := fun w' hb => ((HBJ.out.trans (hb.mono HBJ.out.size)).cell (p := ⟨bS, oS + j * 2, none⟩) hbS).trans (hcS _ _ f0)
                have s1 : ∀ w', Below wr.heap.size wr w' → w'.cell? ⟨bS, oS + j * 2 + 1, none⟩ = some (.int .i64 cap) := fun w' hb => ((HBJ.out.trans (hb.mono HBJ.out.size)).cell (p := ⟨bS, oS + j * 2 + 1, none⟩) hbS).trans (by rw [Nat.add_assoc]; exact hcS _ _ f1)
                have hadm : Go.Proofs.Ytcgecalbgkkinaa.admits cap (S'.polOf sid) = true := by
                  have h1 := HS1.out.2.1
                  unfold Vst.admits at h1
                  have h2 := List.all_eq_true.1 h1 S'.sv[j] (List.getElem_mem _)
                  rw [hsx] at h2
                  exact h2
                have HADM := hide hadm
                have HPO := hide (fun w' (hb : Below wr.heap.size wr w') => (HK8.out.1.below (HBJ.out.trans (hb.mono HBJ.out.size))).vs.policies (by omega) sid)
                clear hcS hsx hsg f0 f1 hadm hbS hsl hb8r
                go_wp2_with fail
                refine region_lexg (fun w' => Below wr.heap.size wr w') [] 0 [(2, 0), (2, 1), (2, 2), (2, 3), (0, 4), (2, 5), (2, 6), (2, 7), (2, 8), (2, 9), (0, 10), (1, 11), (1, 12), (2, 13)] #[true, true, true, true, true, true, true, true, true, true, true, true, true, true] (by kernel_rfl) (by kernel_rfl) (by decide) (by kernel_rfl) (by kernel_rfl) (fun _ _ _ _ _ h => h) (by (first | exact rj.drew | assumption)) (fun hS0 => ?_)
                simp only [List.map_cons, List.map_nil, List.getElem?_toArray, List.getElem?_cons_succ, List.getElem?_cons_zero]
                (apply lexg_pure (by rfl); (focus (intro w; go_simp; (try with_reducible rfl); done)); simp only [Act.put, List.setIfInBounds_toArray, List.set_cons_zero, List.set_cons_succ])
                (apply lexg_pure (by rfl); (focus (intro w; go_simp; (try with_reducible rfl); done)); simp only [Act.put, List.setIfInBounds_toArray, List.set_cons_zero, List.set_cons_succ])
                (apply lexg_pure (by rfl); (focus (intro w; go_simp; (try with_reducible rfl); done)); simp only [Act.put, List.setIfInBounds_toArray, List.set_cons_zero, List.set_cons_succ])
                (apply lexg_pure (by rfl); (focus (intro w; go_simp; (try with_reducible rfl); done)); simp only [Act.put, List.setIfInBounds_toArray, List.set_cons_zero, List.set_cons_succ])
                (apply lexg_take (by rfl); (focus (intro w hw; (try dsimp only at hw); go_simp; (try with_reducible rfl); done)); simp only [Act.put, List.setIfInBounds_toArray, List.set_cons_zero, List.set_cons_succ])
                (apply lexg_pure (by rfl); (focus (intro w; go_simp; (try with_reducible rfl); done)); simp only [Act.put, List.setIfInBounds_toArray, List.set_cons_zero, List.set_cons_succ])
                (apply lexg_pure (by rfl); (focus (intro w; go_simp; (try with_reducible rfl); done)); simp only [Act.put, List.setIfInBounds_toArray, List.set_cons_zero, List.set_cons_succ])
                (apply lexg_pure (by rfl); (focus (intro w; go_simp; (try with_reducible rfl); done)); simp only [Act.put, List.setIfInBounds_toArray, List.set_cons_zero, List.set_cons_succ])
                (apply lexg_pure (by rfl); (focus (intro w; go_simp; (try with_reducible rfl); done)); simp only [Act.put, List.setIfInBounds_toArray, List.set_cons_zero, List.set_cons_succ])
                (apply lexg_pure (by rfl); (focus (intro w; go_simp; (try with_reducible rfl); done)); simp only [Act.put, List.setIfInBounds_toArray, List.set_cons_zero, List.set_cons_succ])
                (apply lexg_take (by rfl); (focus (intro w hw; (try dsimp only at hw); go_simp; (try with_reducible rfl); done)); simp only [Act.put, List.setIfInBounds_toArray, List.set_cons_zero, List.set_cons_succ])
                (refine lexg_eff (by rfl) ?_; go_simp; (first
                                        | (go_at_call 10; refine (HPO.out _ rj.drew).mono ?_; rintro e w9 ⟨A4, c4, rfl, hr4, hg4, hb9⟩; have hb9' : Below wr.heap.size wr w9 := rj.drew.trans hb9; have HR4 := hide hr4; clear hr4 hg4 hb9)
                                        | (go_at_call 12; refine (admits_calls cap (S'.polOf sid) A4 c4 _ HR4.out).mono ?_; rintro e w10 ⟨rfl, hb10⟩; rw [HADM.out]; have hb10' : Below wr.heap.size wr w10 := hb9'.trans (hb10.mono hb9'.size); clear hb10)); refine lexg_both (by (first | exact rj.drew | assumption)) (fun hS1 => ?_))
                (refine lexg_eff (by rfl) ?_; go_simp; (first
                                        | (go_at_call 10; refine (HPO.out _ rj.drew).mono ?_; rintro e w9 ⟨A4, c4, rfl, hr4, hg4, hb9⟩; have hb9' : Below wr.heap.size wr w9 := rj.drew.trans hb9; have HR4 := hide hr4; clear hr4 hg4 hb9)
                                        | (go_at_call 12; refine (admits_calls cap (S'.polOf sid) A4 c4 _ HR4.out).mono ?_; rintro e w10 ⟨rfl, hb10⟩; rw [HADM.out]; have hb10' : Below wr.heap.size wr w10 := hb9'.trans (hb10.mono hb9'.size); clear hb10)); refine lexg_both (by (first | exact rj.drew | assumption)) (fun hS1 => ?_))
                (apply lexg_pure (by rfl); (focus (intro w; go_simp; (try with_reducible rfl); done)); simp only [Act.put, List.setIfInBounds_toArray, List.set_cons_zero, List.set_cons_succ])
                refine lexg_nil (fun _ => wpAnyG_done (by kernel_rfl) ?_ _)
                have HBN := hide (HBJ.out.trans (hb10'.mono HBJ.out.size))
                clear hb9' hb10' s0 s1
                go_wp2
                go_roundw
                case rel => exact ⟨j + 1, by omega, by go_num, HBN.out⟩
                case measure => simp [intOf]; omega
              · have ij : ¬ ((j : Int) < S'.sv.length) := by omega
                have HK9 := hide (And.intro (HK8.out.1.below HBJ.out) (And.intro (HK8.out.2.1.trans (HBJ.out.mono HK8.out.2.1.size)) (HK8.out.2.2.below HBJ.out)))
                have hch := hide (HK9.out.1.vs.chunks (by omega))
                clear hlj hj
                go_wp2_with fail
                refine hch.out.mono ?_
                rintro e w11 ⟨A5, c5, rfl, ho5, hb11⟩
                have HO5 := hide ho5.made
                have HK11 := hide (And.intro (HK9.out.1.below hb11) (And.intro (HK9.out.2.1.trans (hb11.mono HK9.out.2.1.size)) (HK9.out.2.2.below hb11)))
                have hlc : S'.cs.length ≤ 200 := by
                  have h2 := HK11.out.1.vs.ok
                  have h3 := rise_len (a := 1) (b := S'.nx) h2.csr (fun x hx => by have := h2.csa x hx; omega)
                  have := HS1.out.2.2.2.1
                  omega
                clear ho5 hb11 hch
                go_wp2_with fail
                go_loopw [13, 14, 15, 16, 17, 99, 100, 101, 102, 103, 104, 105, 106, 107, 108, 109, 110, 111, 112, 113, 114, 115, 116, 117, 118, 119, 120, 121, 122, 123, 124, 125, 126, 127, 128, 129, 130, 131, 132, 133, 134, 135, 136, 137, 138, 139, 140, 141, 142, 143, 144, 145, 146, 147, 148, 149, 150, 151, 152, 153, 154, 155, 156, 157, 158, 159, 160, 161, 162, 163, 164, 165, 166, 167, 168, 169, 170, 171, 172, 173, 174, 175, 176, 177, 178, 179, 180, 181, 182, 183, 184] (fun i _ _ _ _ _ _ _ _ _ _ _ _ _ _ _ _ _ _ _ _ _ _ _ _ _ _ _ _ _ _ _ _ _ _ _ _ _ _ _ _ _ _ _ _ _ _ _ _ _ _ _ _ _ _ _ _ _ _ _ _ _ _ _ _ _ _ _ _ _ _ _ _ _ _ _ _ _ _ _ _ _ _ _ _ _ _ _ _ _ _ wc => ∃ (jc : Nat) (L' : List Int), jc ≤ S'.cs.length ∧ i = .int .i64 jc ∧ VSK [eb] wc sb S' (k + 1) ∧ EpOk S' L' ∧ Blk wc eb 51 (L'.map (Value.int .i64)) ∧ Chg [eb] w11 wc) (fun i _ _ _ _ _ _ _ _ _ _ _ _ _ _ _ _ _ _ _ _ _ _ _ _ _ _ _ _ _ _ _ _ _ _ _ _ _ _ _ _ _ _ _ _ _ _ _ _ _ _ _ _ _ _ _ _ _ _ _ _ _ _ _ _ _ _ _ _ _ _ _ _ _ _ _ _ _ _ _ _ _ _ _ _ _ _ _ _ _ _ _ => S'.cs.length - (intOf i).toNat)
                case atStart => exact ⟨0, L, Nat.zero_le _, rfl, HK11.out.1, HS1.out.2.2.1, HK11.out.2.2, Chg.refl _ _⟩
                case round =>
                  obtain ⟨jc, L', hjc, rfl, hvc, hepc, hblc, hcc⟩ := hrel
                  have HVC := hide hvc
                  have HEC := hide hepc
                  have HBC := hide hblc
                  have HCC := hide hcc
                  clear hvc hepc hblc hcc
                  by_cases hljc : jc < S'.cs.length
                  · have ijc : (jc : Int) < S'.cs.length := by omega
                    obtain ⟨bI, oI, eI, hbI, hcI⟩ := HO5.out.rd.2 (by simp; omega)
                    obtain ⟨⟨cidI, cvol, cep, cme, cjo⟩, hcx⟩ : ∃ x, S'.cs[jc] = x := ⟨_, rfl⟩
                    obtain ⟨cid, rfl⟩ : ∃ cid : Nat, cidI = (cid : Int) := ⟨cidI.toNat, by have := HVC.out.vs.ok.csa _ (List.getElem_mem hljc); rw [hcx] at this; simp only [] at this; omega⟩
                    have hcm : (⟨cid, cvol, cep, cme, cjo⟩ : Ck) ∈ S'.cs := by rw [← hcx]; exact List.getElem_mem _
                    have hneI : bI ≠ eb := by
                      have h1 := (HO5.out.ap _ eI).2.1
                      have h2 := HK9.out.2.2.lt
                      simp only [] at h1
                      omega
                    have gI : wr.cell? ⟨bI, oI + jc, none⟩ = some (.int .i64 cid) := (HCC.out.cell (p := ⟨bI, oI + jc, none⟩) hbI (by simpa using hneI)).trans (hcI jc _ (by simp [hljc, hcx]))
                    have hfc := fd_mem HVC.out.vs.ok.csr hcm
                    have hca := HVC.out.vs.ok.csa _ hcm
                    have hcnx := HS1.out.2.2.2.1
                    have hnd := HS1.out.1.nd _ hcm
                    have hmb := HS1.out.1.mb _ hcm
                    simp only [] at hfc hca hnd hmb
                    have hci : i64ok cid := by unfold i64ok; omega
                    have hkc := hide (HVC.out.vs.chunk hci)
                    rw [hfc] at hkc
                    have HCM := hide hcm
                    have HCA := hide (And.intro hca (And.intro hcnx (And.intro hnd hmb)))
                    subst eI
                    clear hcx hcI hcm hneI hbI hfc hca hcnx hnd hmb hci
                    have gI2 := gI
                    go_wp2_with fail
                    refine hkc.out.mono ?_
                    intro e w12 hvo
                    obtain ⟨A6, c6, B6, d6, rfl, hbox, hbw⟩ := hvo.box HVC.out.vs.lt
                    simp only [CkM.val, CkM.cells]
                    have q12 := (Below.refl w12.heap.size w12).alloc (Nat.le_refl _) (.cells (⟨⟨cid, cvol, cep, cme, cjo⟩, A6, c6, B6, d6⟩ : CkM).cells.toArray 42)
                    have K12 := And.intro ((HVC.out.below hbw).below q12) (And.intro ((HBC.out.below hbw).below q12) (And.intro ((HCC.out.below hbw).below q12) hbox))
                    simp only [CkM.cells] at K12
                    obtain ⟨w13, hw13⟩ : ∃ w13, w12.alloc (.cells #[.int .i64 cid, .int .i64 cvol, .int .i64 cep, .slice A6 cme.length c6, .slice B6 cjo.length d6] 42) = w13 := ⟨_, rfl⟩
                    rw [hw13] at K12
                    have HK13 := hide K12
                    clear hvo hbox hbw q12 K12 hkc gI2
                    have r13 := Below.refl w13.heap.size w13
                    have qE := (r13.alloc (Nat.le_refl _) (.cells #[] 3)).drew
                    have HQE := hide qE
                    have QE : Que (w13.alloc (.cells #[] 3)).drew 3 1 (.slice (some ⟨w13.heap.size, 0, none⟩) 0 0) 0 [] := ⟨rfl, .inr ⟨w13.heap.size, 0, 0, #[], rfl, heap_alloc_new w13 _, Nat.le_refl _, by unfold maxLen; omega, Nat.le_refl _, rfl⟩⟩
                    have HQU := hide QE
                    obtain ⟨i0, hi, hz0, hz1, hz2⟩ := info_parts Try.infoI3
                    have v3 : ∀ w', Below w13.heap.size w13 w' → w'.cell? ⟨w12.heap.size, 3, none⟩ = some (.slice A6 cme.length c6) := HK13.out.2.2.2.blk.rule 3 _ rfl
                    have v4 : ∀ w', Below w13.heap.size w13 w' → w'.cell? ⟨w12.heap.size, 4, none⟩ = some (.slice B6 cjo.length d6) := HK13.out.2.2.2.blk.rule 4 _ rfl
                    have HRA := hide HK13.out.2.2.2.ra
                    have HRB := hide HK13.out.2.2.2.rb
                    have HW13 := hide hw13
                    clear qE QE
                    go_wp2_with fail
                    clear hw13
                    refine region_lexg (fun w' => Below w13.heap.size w13 w') [] 0 [(2, 1), (0, 2), (2, 4), (0, 5), (1, 0), (1, 3), (1, 6), (2, 7)] #[true, true, true, true, true, true, true, true] (by kernel_rfl) (by kernel_rfl) (by decide) (by kernel_rfl) (by kernel_rfl) (fun _ _ _ _ _ h => h) (by (first | exact r13.drew | exact HQE.out | assumption)) (fun hS0 => ?_)
                    simp only [List.map_cons, List.map_nil, List.getElem?_toArray, List.getElem?_cons_succ, List.getElem?_cons_zero]
                    (apply lexg_pure (by rfl); (focus (intro w; go_simp; (try with_reducible rfl); done)); simp only [Act.put, List.setIfInBounds_toArray, List.set_cons_zero, List.set_cons_succ])
                    (apply lexg_take (by rfl); (focus (intro w hw; (try dsimp only at hw); go_simp; (try with_reducible rfl); done)); simp only [Act.put, List.setIfInBounds_toArray, List.set_cons_zero, List.set_cons_succ])
                    (apply lexg_pure (by rfl); (focus (intro w; go_simp; (try with_reducible rfl); done)); simp only [Act.put, List.setIfInBounds_toArray, List.set_cons_zero, List.set_cons_succ])
                    (apply lexg_take (by rfl); (focus (intro w hw; (try dsimp only at hw); go_simp; (try with_reducible rfl); done)); simp only [Act.put, List.setIfInBounds_toArray, List.set_cons_zero, List.set_cons_succ])
                    (refine lexg_eff (by rfl) ?_; go_simp; refine lexg_both (by (first | exact r13.drew | exact HQE.out | assumption)) (fun hS1 => ?_))
                    (refine lexg_eff (by rfl) ?_; (refine wp_append_src _ _ _ 32 rfl 3 i0 _ 1 8 Try.underlying32 hi hz0 hz1 hz2 rfl (by decide) (.slice (some ⟨w13.heap.size, 0, none⟩) 0 0) 0 [] rfl HQU.out A6 cme.length c6 _ (cme.map (Value.int .i64)) rfl (HRA.out.below HQE.out).rd (by intro u hu; obtain ⟨x, _, rfl⟩ := List.mem_map.1 hu; rfl) (by have := HCA.out.1; unfold maxLen; omega) (by have := HCA.out.1; omega) ?_; intro A7 cap7 w14 hq7 hch7 hg7; have hb14 : Below w13.heap.size w13 w14 := Chg.onto HQE.out HQE.out.size hch7 (fun x hx => by simp [Value.ownBlock] at hx; omega); have HQ7 := hide (And.intro hq7 (show ∀ g, A7.map Addr.block = some g → w13.heap.size ≤ g from fun g hg => by rcases hg7 g hg with h | h <;> (simp [Value.ownBlock] at h; omega))); clear hq7 hch7 hg7); simp only [Act.put, List.setIfInBounds_toArray, List.set_cons_zero, List.set_cons_succ]; refine lexg_both (by (first | exact r13.drew | exact HQE.out | assumption)) (fun hS1 => ?_))
                    (refine lexg_eff (by rfl) ?_; (refine wp_append_src _ _ _ 32 rfl 3 i0 _ 1 8 Try.underlying32 hi hz0 hz1 hz2 rfl (by decide) (.slice A7 (0 + cme.length) cap7) (0 + cme.length) ([] ++ cme.map (Value.int .i64)) rfl HQ7.out.1 B6 cjo.length d6 _ (cjo.map (Value.int .i64)) rfl (HRB.out.below hb14).rd (by intro u hu; obtain ⟨x, _, rfl⟩ := List.mem_map.1 hu; rfl) (by have := HCA.out.1; unfold maxLen; omega) (by have := HCA.out.1; omega) ?_; intro A8 cap8 w15 hq8 hch8 hg8; have hb15 : Below w13.heap.size w13 w15 := Chg.onto hb14 hb14.size hch8 (fun x hx => HQ7.out.2 x (by rw [ownBlock_slice] at hx; simpa using hx)); have HQ8 := hide (And.intro hq8 (show ∀ g, A8.map Addr.block = some g → w13.heap.size ≤ g from fun g hg => by rcases hg8 g hg with h | h; exact HQ7.out.2 g (by rw [ownBlock_slice] at h; exact h); have := hb14.size; omega)); clear hq8 hch8 hg8); simp only [Act.put, List.setIfInBounds_toArray, List.set_cons_zero, List.set_cons_succ]; refine lexg_both (by (first | exact r13.drew | exact HQE.out | assumption)) (fun hS1 => ?_))
                    (apply lexg_pure (by rfl); (focus (intro w; go_simp; (try with_reducible rfl); done)); simp only [Act.put, List.setIfInBounds_toArray, List.set_cons_zero, List.set_cons_succ])
                    refine lexg_nil (fun _ => wpAnyG_done (by kernel_rfl) ?_ _)
                    rename_i hunm
                    clear hunm hS0 hS1 hi hz0 hz1 hz2 v3 v4
                    obtain ⟨al, hal⟩ : ∃ al, cme ++ cjo = al := ⟨_, rfl⟩
                    have hall : cme.length + cjo.length = al.length := by rw [← hal, List.length_append]
                    rw [hall]
                    have hq8 := HQ8.out.1
                    rw [Nat.zero_add, hall, List.nil_append, ← List.map_append, hal] at hq8
                    have hal4 : al.length ≤ 4 := by rw [← hall]; exact HCA.out.1.2.2.2.2
                    have HRAL := hide (hq8.rdI rfl (by omega))
                    have hcap8 : al.length ≤ cap8 := by
                      obtain ⟨A9, c9, e9, h9, _⟩ := hq8.form
                      injection e9 with _ _ e9
                      rw [e9]; exact h9
                    have HND : Hid al.Nodup := hide (by rw [← hal]; exact HCA.out.2.2.1)
                    have HK15 := hide (And.intro (HK13.out.1.below hb15) (And.intro (HK13.out.2.1.below hb15) (HK13.out.2.2.1.below hb15)))
                    have HBX := hide (HK13.out.2.2.2.blk.below hb15)
                    have hca := HCA.out
                    have hc200 : cid < 200 := by omega
                    have hepc := HEC.out
                    have hL : L'.length = 200 := hepc.1
                    have hE0 : ∀ w', Below w15.heap.size w15 w' → w'.cell? ⟨eb, cid, none⟩ = some (.int .i64 (L'.getD cid 0)) := fun w' hb => by
                      rw [(HK15.out.2.1.below hb).cell cid, List.getElem?_map, List.getElem?_eq_getElem (by omega), List.getD_eq_getElem?_getD, List.getElem?_eq_getElem (by omega)]
                      rfl
                    have hEf : ∀ w', Below w15.heap.size w15 w' → w'.frozen? ⟨eb, cid, none⟩ = false := fun w' hb => (HK15.out.2.1.below hb).frozen cid
                    have hle : L'.getD cid 0 ≤ cep := by
                      have := hepc.2.1 _ HCM.out
                      simpa using this
                    obtain ⟨e0, he0⟩ : ∃ e0, L'.getD cid 0 = e0 := ⟨_, rfl⟩
                    rw [he0] at hE0 hle
                    have r15 := Below.refl w15.heap.size w15
                    have r15d := r15.drew
                    have v2 : ∀ w', Below w15.heap.size w15 w' → w'.cell? ⟨w12.heap.size, 2, none⟩ = some (.int .i64 cep) := HBX.out.rule 2 _ rfl
                    have v3 : ∀ w', Below w15.heap.size w15 w' → w'.cell? ⟨w12.heap.size, 3, none⟩ = some (.slice A6 cme.length c6) := HBX.out.rule 3 _ rfl
                    have hneI : bI ≠ eb := by
                      have h1 := (HO5.out.ap _ rfl).2.1
                      have h2 := HK9.out.2.2.lt
                      simp only [] at h1
                      omega
                    have gI3 : ∀ w', Below w15.heap.size w15 w' → w'.cell? ⟨bI, oI + jc, none⟩ = some (.int .i64 cid) := fun w' hb => by
                      have hbI : bI < w11.heap.size := (HO5.out.ap _ rfl).2.2
                      have h1 := (HK15.out.2.2.below hb).cell (p := ⟨bI, oI + jc, none⟩) hbI (by simpa using hneI)
                      have h2 := HCC.out.cell (p := ⟨bI, oI + jc, none⟩) hbI (by simpa using hneI)
                      rw [h1, ← h2]
                      exact gI
                    have dl1 : decide ((cme.length : Int) < 1) = false := decide_eq_false (by have := List.length_pos_iff.2 hca.2.2.2; omega)
                    have dl2 : decide ((4 : Int) < al.length) = false := decide_eq_false (by omega)
                    have dl3 : decide ((cid : Int) < 1) = false := decide_eq_false (by omega)
                    have dl4 : decide ((199 : Int) < cid) = false := decide_eq_false (by omega)
                    have dl5 : decide (cep < e0) = false := decide_eq_false (by omega)
                    have dl6 : decide (cep < 1) = false := decide_eq_false (by omega)
                    have il : (cid : Int) < 200 := by omega
                    have HCID := hide hc200
                    have HEPC := hide (And.intro hepc (And.intro hL he0))
                    clear hq8 hal hall hca hepc hL he0 hle hneI gI
                    go_wp2_with fail
                    refine region_q (fun w' => Below w15.heap.size w15 w') (by kernel_rfl) (by kernel_rfl) (by (exact r15d)) ?_
                    (refine wq_step (fun K hK => ?_); apply q_take (by rfl); (focus (intro w hw; (try dsimp only at hw); go_simp; (try with_reducible rfl); done)); simp only [Act.put, List.setIfInBounds_toArray, List.set_cons_zero, List.set_cons_succ]; refine hK _ ?_; clear hK K)
                    (refine wq_step (fun K hK => ?_); apply q_take (by rfl); (focus (intro w hw; (try dsimp only at hw); go_simp; (try with_reducible rfl); done)); simp only [Act.put, List.setIfInBounds_toArray, List.set_cons_zero, List.set_cons_succ]; refine hK _ ?_; clear hK K)
                    (refine wq_step (fun K hK => ?_); apply q_take (by rfl); (focus (intro w hw; (try dsimp only at hw); go_simp; (try with_reducible rfl); done)); simp only [Act.put, List.setIfInBounds_toArray, List.set_cons_zero, List.set_cons_succ]; refine hK _ ?_; clear hK K)
                    (refine wq_step (fun K hK => ?_); apply q_take (by kernel_rfl); (focus (intro w hw; (try dsimp only at hw); go_simp; (try with_reducible rfl); done)); simp only [Act.put, List.setIfInBounds_toArray, List.set_cons_zero, List.set_cons_succ]; refine hK _ ?_; clear hK K)
                    (refine wq_step (fun K hK => ?_); apply q_take (by kernel_rfl); (focus (intro w hw; (try dsimp only at hw); go_simp; (try with_reducible rfl); done)); simp only [Act.put, List.setIfInBounds_toArray, List.set_cons_zero, List.set_cons_succ]; refine hK _ ?_; clear hK K)
                    (refine wq_step (fun K hK => ?_); apply q_take (by kernel_rfl); (focus (intro w hw; (try dsimp only at hw); go_simp; (try with_reducible rfl); done)); simp only [Act.put, List.setIfInBounds_toArray, List.set_cons_zero, List.set_cons_succ]; refine hK _ ?_; clear hK K)
                    (refine wq_step (fun K hK => ?_); apply q_take (by kernel_rfl); (focus (intro w hw; (try dsimp only at hw); go_simp; (try with_reducible rfl); done)); simp only [Act.put, List.setIfInBounds_toArray, List.set_cons_zero, List.set_cons_succ]; refine hK _ ?_; clear hK K)
                    (refine wq_step (fun K hK => ?_); apply q_take (by rfl); (focus (intro w hw; (try dsimp only at hw); go_simp; (try with_reducible rfl); done)); simp only [Act.put, List.setIfInBounds_toArray, List.set_cons_zero, List.set_cons_succ]; refine hK _ ?_; clear hK K)
                    (refine wq_step (fun K hK => ?_); apply q_take (by rfl); (focus (intro w hw; (try dsimp only at hw); go_simp; (try with_reducible rfl); done)); simp only [Act.put, List.setIfInBounds_toArray, List.set_cons_zero, List.set_cons_succ]; refine hK _ ?_; clear hK K)
                    (refine wq_step (fun K hK => ?_); apply q_take (by kernel_rfl); (focus (intro w hw; (try dsimp only at hw); go_simp; (try with_reducible rfl); done)); simp only [Act.put, List.setIfInBounds_toArray, List.set_cons_zero, List.set_cons_succ]; refine hK _ ?_; clear hK K)
                    (refine wq_step (fun K hK => ?_); apply q_take (by kernel_rfl); (focus (intro w hw; (try dsimp only at hw); go_simp; (try with_reducible rfl); done)); simp only [Act.put, List.setIfInBounds_toArray, List.set_cons_zero, List.set_cons_succ]; refine hK _ ?_; clear hK K)
                    (refine wq_step (fun K hK => ?_); apply q_take (by kernel_rfl); (focus (intro w hw; (try dsimp only at hw); go_simp; (try with_reducible rfl); done)); simp only [Act.put, List.setIfInBounds_toArray, List.set_cons_zero, List.set_cons_succ]; refine hK _ ?_; clear hK K)
                    (refine wq_step (fun K hK => ?_); apply q_take (by rfl); (focus (intro w hw; (try dsimp only at hw); go_simp; (try with_reducible rfl); done)); simp only [Act.put, List.setIfInBounds_toArray, List.set_cons_zero, List.set_cons_succ]; refine hK _ ?_; clear hK K)
                    (refine wq_step (fun K hK => ?_); apply q_take (by rfl); (focus (intro w hw; (try dsimp only at hw); go_simp; (try with_reducible rfl); done)); simp only [Act.put, List.setIfInBounds_toArray, List.set_cons_zero, List.set_cons_succ]; refine hK _ ?_; clear hK K)
                    (refine wq_step (fun K hK => ?_); apply q_take (by kernel_rfl); (focus (intro w hw; (try dsimp only at hw); go_simp; (try with_reducible rfl); done)); simp only [Act.put, List.setIfInBounds_toArray, List.set_cons_zero, List.set_cons_succ]; refine hK _ ?_; clear hK K)
                    (refine wq_step (fun K hK => ?_); apply q_take (by kernel_rfl); (focus (intro w hw; (try dsimp only at hw); go_simp; (try with_reducible rfl); done)); simp only [Act.put, List.setIfInBounds_toArray, List.set_cons_zero, List.set_cons_succ]; refine hK _ ?_; clear hK K)
                    (refine wq_step (fun K hK => ?_); apply q_take (by kernel_rfl); (focus (intro w hw; (try dsimp only at hw); go_simp; (try with_reducible rfl); done)); simp only [Act.put, List.setIfInBounds_toArray, List.set_cons_zero, List.set_cons_succ]; refine hK _ ?_; clear hK K)
                    (refine wq_step (fun K hK => ?_); apply q_take (by kernel_rfl); (focus (intro w hw; (try dsimp only at hw); go_simp; (try with_reducible rfl); done)); simp only [Act.put, List.setIfInBounds_toArray, List.set_cons_zero, List.set_cons_succ]; refine hK _ ?_; clear hK K)
                    (refine wq_step (fun K hK => ?_); apply q_take (by kernel_rfl); (focus (intro w hw; (try dsimp only at hw); go_simp; (try with_reducible rfl); done)); simp only [Act.put, List.setIfInBounds_toArray, List.set_cons_zero, List.set_cons_succ]; refine hK _ ?_; clear hK K)
                    (refine wq_step (fun K hK => ?_); apply q_take (by rfl); (focus (intro w hw; (try dsimp only at hw); go_simp; (try with_reducible rfl); done)); simp only [Act.put, List.setIfInBounds_toArray, List.set_cons_zero, List.set_cons_succ]; refine hK _ ?_; clear hK K)
                    (refine wq_step (fun K hK => ?_); apply q_take (by rfl); (focus (intro w hw; (try dsimp only at hw); go_simp; (try with_reducible rfl); done)); simp only [Act.put, List.setIfInBounds_toArray, List.set_cons_zero, List.set_cons_succ]; refine hK _ ?_; clear hK K)
                    (refine wq_step (fun K hK => ?_); apply q_take (by kernel_rfl); (focus (intro w hw; (try dsimp only at hw); go_simp; (try with_reducible rfl); done)); simp only [Act.put, List.setIfInBounds_toArray, List.set_cons_zero, List.set_cons_succ]; refine hK _ ?_; clear hK K)
                    (refine wq_step (fun K hK => ?_); apply q_take (by kernel_rfl); (focus (intro w hw; (try dsimp only at hw); go_simp; (try with_reducible rfl); done)); simp only [Act.put, List.setIfInBounds_toArray, List.set_cons_zero, List.set_cons_succ]; refine hK _ ?_; clear hK K)
                    (refine wq_step (fun K hK => ?_); apply q_take (by kernel_rfl); (focus (intro w hw; (try dsimp only at hw); go_simp; (try with_reducible rfl); done)); simp only [Act.put, List.setIfInBounds_toArray, List.set_cons_zero, List.set_cons_succ]; refine hK _ ?_; clear hK K)
                    (refine wq_step (fun K hK => ?_); apply q_take (by kernel_rfl); (focus (intro w hw; (try dsimp only at hw); go_simp; (try with_reducible rfl); done)); simp only [Act.put, List.setIfInBounds_toArray, List.set_cons_zero, List.set_cons_succ]; refine hK _ ?_; clear hK K)
                    (refine wq_step (fun K hK => ?_); apply q_take (by kernel_rfl); (focus (intro w hw; (try dsimp only at hw); go_simp; (try with_reducible rfl); done)); simp only [Act.put, List.setIfInBounds_toArray, List.set_cons_zero, List.set_cons_succ]; refine hK _ ?_; clear hK K)
                    (refine wq_step (fun K hK => ?_); apply q_take (by rfl); (focus (intro w hw; (try dsimp only at hw); go_simp; (try with_reducible rfl); done)); simp only [Act.put, List.setIfInBounds_toArray, List.set_cons_zero, List.set_cons_succ]; refine hK _ ?_; clear hK K)
                    (refine wq_step (fun K hK => ?_); apply q_take (by rfl); (focus (intro w hw; (try dsimp only at hw); go_simp; (try with_reducible rfl); done)); simp only [Act.put, List.setIfInBounds_toArray, List.set_cons_zero, List.set_cons_succ]; refine hK _ ?_; clear hK K)
                    (refine wq_step (fun K hK => ?_); apply q_take (by kernel_rfl); (focus (intro w hw; (try dsimp only at hw); go_simp; (try with_reducible rfl); done)); simp only [Act.put, List.setIfInBounds_toArray, List.set_cons_zero, List.set_cons_succ]; refine hK _ ?_; clear hK K)
                    (refine wq_step (fun K hK => ?_); apply q_take (by kernel_rfl); (focus (intro w hw; (try dsimp only at hw); go_simp; (try with_reducible rfl); done)); simp only [Act.put, List.setIfInBounds_toArray, List.set_cons_zero, List.set_cons_succ]; refine hK _ ?_; clear hK K)
                    (refine wq_step (fun K hK => ?_); apply q_take (by kernel_rfl); (focus (intro w hw; (try dsimp only at hw); go_simp; (try with_reducible rfl); done)); simp only [Act.put, List.setIfInBounds_toArray, List.set_cons_zero, List.set_cons_succ]; refine hK _ ?_; clear hK K)
                    (refine wq_step (fun K hK => ?_); apply q_take (by kernel_rfl); (focus (intro w hw; (try dsimp only at hw); go_simp; (try with_reducible rfl); done)); simp only [Act.put, List.setIfInBounds_toArray, List.set_cons_zero, List.set_cons_succ]; refine hK _ ?_; clear hK K)
                    (refine wq_step (fun K hK => ?_); apply q_take (by kernel_rfl); (focus (intro w hw; (try dsimp only at hw); go_simp; (try with_reducible rfl); done)); simp only [Act.put, List.setIfInBounds_toArray, List.set_cons_zero, List.set_cons_succ]; refine hK _ ?_; clear hK K)
                    (refine wq_step (fun K hK => ?_); apply q_take (by kernel_rfl); (focus (intro w hw; (try dsimp only at hw); go_simp; (try with_reducible rfl); done)); simp only [Act.put, List.setIfInBounds_toArray, List.set_cons_zero, List.set_cons_succ]; refine hK _ ?_; clear hK K)
                    (refine wq_step (fun K hK => ?_); apply q_take (by kernel_rfl); (focus (intro w hw; (try dsimp only at hw); go_simp; (try with_reducible rfl); done)); simp only [Act.put, List.setIfInBounds_toArray, List.set_cons_zero, List.set_cons_succ]; refine hK _ ?_; clear hK K)
                    (refine wq_step (fun K hK => ?_); apply q_take (by kernel_rfl); (focus (intro w hw; (try dsimp only at hw); go_simp; (try with_reducible rfl); done)); simp only [Act.put, List.setIfInBounds_toArray, List.set_cons_zero, List.set_cons_succ]; refine hK _ ?_; clear hK K)
                    (refine wq_step (fun K hK => ?_); apply q_take (by kernel_rfl); (focus (intro w hw; (try dsimp only at hw); go_simp; (try with_reducible rfl); done)); simp only [Act.put, List.setIfInBounds_toArray, List.set_cons_zero, List.set_cons_succ]; refine hK _ ?_; clear hK K)
                    (refine wq_step (fun K hK => ?_); apply q_take (by rfl); (focus (intro w hw; (try dsimp only at hw); go_simp; (try with_reducible rfl); done)); simp only [Act.put, List.setIfInBounds_toArray, List.set_cons_zero, List.set_cons_succ]; refine hK _ ?_; clear hK K)
                    (refine wq_step (fun K hK => ?_); apply q_take (by rfl); (focus (intro w hw; (try dsimp only at hw); go_simp; (try with_reducible rfl); done)); simp only [Act.put, List.setIfInBounds_toArray, List.set_cons_zero, List.set_cons_succ]; refine hK _ ?_; clear hK K)
                    (refine wq_step (fun K hK => ?_); apply q_take (by kernel_rfl); (focus (intro w hw; (try dsimp only at hw); go_simp; (try with_reducible rfl); done)); simp only [Act.put, List.setIfInBounds_toArray, List.set_cons_zero, List.set_cons_succ]; refine hK _ ?_; clear hK K)
                    (refine wq_step (fun K hK => ?_); apply q_take (by kernel_rfl); (focus (intro w hw; (try dsimp only at hw); go_simp; (try with_reducible rfl); done)); simp only [Act.put, List.setIfInBounds_toArray, List.set_cons_zero, List.set_cons_succ]; refine hK _ ?_; clear hK K)
                    (refine wq_step (fun K hK => ?_); apply q_take (by kernel_rfl); (focus (intro w hw; (try dsimp only at hw); go_simp; (try with_reducible rfl); done)); simp only [Act.put, List.setIfInBounds_toArray, List.set_cons_zero, List.set_cons_succ]; refine hK _ ?_; clear hK K)
                    (refine wq_step (fun K hK => ?_); apply q_take (by rfl); (focus (intro w hw; (try dsimp only at hw); go_simp; (try with_reducible rfl); done)); simp only [Act.put, List.setIfInBounds_toArray, List.set_cons_zero, List.set_cons_succ]; refine hK _ ?_; clear hK K)
                    refine wq_nil ?_
                    intro wq hwq
                    have HQW := hide hwq
                    have rq := Below.refl wq.heap.size wq
                    have HK16 := hide (And.intro (HK15.out.1.below hwq) (And.intro (HK15.out.2.1.below hwq) (HK15.out.2.2.below hwq)))
                    have HRA16 := hide (HRAL.out.below hwq)
                    have hE0q : ∀ w', Below wq.heap.size wq w' → w'.cell? ⟨eb, cid, none⟩ = some (.int .i64 e0) := fun w' hb => hE0 w' (HQW.out.trans (hb.mono HQW.out.size))
                    have hEfq : ∀ w', Below wq.heap.size wq w' → w'.frozen? ⟨eb, cid, none⟩ = false := fun w' hb => hEf w' (HQW.out.trans (hb.mono HQW.out.size))
                    have v2q : ∀ w', Below wq.heap.size wq w' → w'.cell? ⟨w12.heap.size, 2, none⟩ = some (.int .i64 cep) := fun w' hb => v2 w' (HQW.out.trans (hb.mono HQW.out.size))
                    have gIq : ∀ w', Below wq.heap.size wq w' → w'.cell? ⟨bI, oI + jc, none⟩ = some (.int .i64 cid) := fun w' hb => gI3 w' (HQW.out.trans (hb.mono HQW.out.size))
                    clear hE0 hEf v2 v3 gI3 dl1 dl2 dl3 dl4 dl5 dl6 r15 r15d hwq hb14 hb15
                    go_wp2_with fail
                    refine region_lexg (fun w' => Below wq.heap.size wq w') [7] 0 [(2, 0), (2, 1), (2, 2), (0, 3), (2, 4), (0, 5), (2, 6), (3, 7)] #[true, true, true, true, true, true, true, true] (by kernel_rfl) (by kernel_rfl) (by decide) (by kernel_rfl) (by kernel_rfl) (fun _ _ _ _ _ h => h) (by (exact rq.drew)) (fun hS0 => ?_)
                    simp only [List.map_cons, List.map_nil, List.getElem?_toArray, List.getElem?_cons_succ, List.getElem?_cons_zero]
                    (apply lexg_pure (by rfl); (focus (intro w; go_simp; (try with_reducible rfl); done)); simp only [Act.put, List.setIfInBounds_toArray, List.set_cons_zero, List.set_cons_succ])
                    (apply lexg_pure (by rfl); (focus (intro w; go_simp; (try with_reducible rfl); done)); simp only [Act.put, List.setIfInBounds_toArray, List.set_cons_zero, List.set_cons_succ])
                    (apply lexg_pure (by rfl); (focus (intro w; go_simp; (try with_reducible rfl); done)); simp only [Act.put, List.setIfInBounds_toArray, List.set_cons_zero, List.set_cons_succ])
                    (apply lexg_take (by rfl); (focus (intro w hw; (try dsimp only at hw); go_simp; (try with_reducible rfl); done)); simp only [Act.put, List.setIfInBounds_toArray, List.set_cons_zero, List.set_cons_succ])
                    (apply lexg_pure (by rfl); (focus (intro w; go_simp; (try with_reducible rfl); done)); simp only [Act.put, List.setIfInBounds_toArray, List.set_cons_zero, List.set_cons_succ])
                    (apply lexg_take (by rfl); (focus (intro w hw; (try dsimp only at hw); go_simp; (try with_reducible rfl); done)); simp only [Act.put, List.setIfInBounds_toArray, List.set_cons_zero, List.set_cons_succ])
                    (apply lexg_pure (by rfl); (focus (intro w; go_simp; (try with_reducible rfl); done)); simp only [Act.put, List.setIfInBounds_toArray, List.set_cons_zero, List.set_cons_succ])
                    (refine lexg_effN (by rfl) ?_; go_simp)
                    refine lexg_nil (fun _ => wpAnyG_done (by kernel_rfl) ?_ _)
                    rename_i hunm
                    clear hunm hS0
                    have hc17 : Chg [eb] wq.drew (wq.drew.setCell ⟨eb, cid, none⟩ (.int .i64 cep)) := (Chg.refl _ _).setCell (Or.inl (by simp)) _
                    have hnb : eb ≠ sb := by have := HNE.out; omega
                    have K17 : VSK [eb] (wq.drew.setCell ⟨eb, cid, none⟩ (.int .i64 cep)) sb S' (k + 1) ∧ Blk (wq.drew.setCell ⟨eb, cid, none⟩ (.int .i64 cep)) eb 51 ((L'.set cid cep).map (Value.int .i64)) ∧ Chg [eb] w11 (wq.drew.setCell ⟨eb, cid, none⟩ (.int .i64 cep)) ∧ RdI (wq.drew.setCell ⟨eb, cid, none⟩ (.int .i64 cep)) A8 al := by
                      refine ⟨(HK16.out.1.below rq.drew).chg hc17 (fun x hx => by rw [List.mem_singleton.1 hx]; exact ⟨by simp, hnb, _, _, HK16.out.2.1.below rq.drew⟩), ?_, (HK16.out.2.2.below rq.drew).same hc17, (HRA16.out.below rq.drew).chg hc17 (fun a ha => ?_)⟩
                      · have := (HK16.out.2.1.below rq.drew).set cid (.int .i64 cep)
                        rw [List.map_set]
                        exact this
                      · have h1 := HQ8.out.2 a.block (by rw [ha]; rfl)
                        have h2 := HK13.out.2.1.lt
                        simp
                        omega
                    have HEP' : Hid (EpOk S' (L'.set cid cep)) := hide (by
                      have := HEPC.out.1.set HVC.out.vs.ok HCM.out (by simp only []; have := HCID.out; omega)
                      simpa using this)
                    obtain ⟨w17, hw17⟩ : ∃ w17, wq.drew.setCell ⟨eb, cid, none⟩ (.int .i64 cep) = w17 := ⟨_, rfl⟩
                    rw [hw17] at K17
                    rw [show (wq.setCell ⟨eb, cid, none⟩ (.int .i64 cep)).drew = w17 from hw17]
                    have HK17 := hide K17
                    have HW17 := hide hw17
                    clear K17 hw17 hc17 hE0q hEfq v2q gIq hnb
                    go_wp2_with fail
                    go_loopw [17, 171, 172, 173, 174, 175, 176, 177, 178, 179, 180, 181, 182, 183, 184] (fun i _ _ _ _ _ _ _ _ _ _ _ _ _ _ wi => ∃ ji : Nat, ji ≤ al.length ∧ i = .int .i64 ji ∧ Below w17.heap.size w17 wi) (fun i _ _ _ _ _ _ _ _ _ _ _ _ _ _ _ => al.length - (intOf i).toNat)
                    case atStart => exact ⟨0, Nat.zero_le _, rfl, Below.refl _ _⟩
                    case round =>
                      obtain ⟨ji, hji, rfl, hbi⟩ := hrel
                      have HBI := hide hbi
                      clear hbi
                      by_cases hlji : ji < al.length
                      · have iji : (ji : Int) < al.length := by omega
                        have ri := Below.refl wr.heap.size wr
                        have rda := HK17.out.2.2.2.below HBI.out
                        obtain ⟨b8, o8, e8, hb8', hc8⟩ := rda.rd.2 (by omega)
                        have hel := nodup_take HND.out hlji
                        obtain ⟨x8, hx8⟩ : ∃ x8, al[ji] = x8 := ⟨_, rfl⟩
                        have g8 : ∀ w', Below wr.heap.size wr w' → w'.cell? ⟨b8, o8 + ji, none⟩ = some (.int .i64 x8) := fun w' hb => (hb.cell (p := ⟨b8, o8 + ji, none⟩) hb8').trans (hc8 ji _ (by simp [hlji, hx8]))
                        rw [hx8] at hel
                        have rdt := hide (rda.take (k := ji) (by omega))
                        have htl : (al.take ji).length = ji := by rw [List.length_take]; omega
                        have hcj : ji ≤ cap8 := by omega
                        have HHS : Hid (∀ w', Below wr.heap.size wr w' → Calls Try.prog 19 #[.slice A8 ji cap8, .int .i64 x8] w' fun e w'' => e = .returned (.bool false) ∧ ∃ nq, w'' = w'.drewN nq) := hide (fun w' hb => by
                          have := has15_calls A8 ji cap8 (al.take ji) x8 w' htl (by omega) (by have := (rdt.out.below hb).rd; rwa [htl] at this)
                          rwa [hel] at this)
                        subst e8
                        have HEL := hide hel
                        clear hc8 hx8 hel rda htl hb8'
                        go_wp2_with fail
                        refine region_lexg (fun w' => Below wr.heap.size wr w') [] 0 [(2, 0), (2, 1), (2, 2), (2, 3), (2, 4), (2, 5), (0, 6), (1, 7)] #[true, true, true, true, true, true, true, true] (by kernel_rfl) (by kernel_rfl) (by decide) (by kernel_rfl) (by kernel_rfl) (fun _ _ _ _ _ h => h) (by (first | exact ri.drew | exact below_drewN ri.drew _ | assumption)) (fun hS0 => ?_)
                        simp only [List.map_cons, List.map_nil, List.getElem?_toArray, List.getElem?_cons_succ, List.getElem?_cons_zero]
                        (apply lexg_pure (by rfl); (focus (intro w; go_simp; (try with_reducible rfl); done)); simp only [Act.put, List.setIfInBounds_toArray, List.set_cons_zero, List.set_cons_succ])
                        (apply lexg_pure (by rfl); (focus (intro w; go_simp; (try with_reducible rfl); done)); simp only [Act.put, List.setIfInBounds_toArray, List.set_cons_zero, List.set_cons_succ])
                        (apply lexg_pure (by rfl); (focus (intro w; go_simp; (try with_reducible rfl); done)); simp only [Act.put, List.setIfInBounds_toArray, List.set_cons_zero, List.set_cons_succ])
                        (apply lexg_pure (by rfl); (focus (intro w; go_simp; (try with_reducible rfl); done)); simp only [Act.put, List.setIfInBounds_toArray, List.set_cons_zero, List.set_cons_succ])
                        (apply lexg_pure (by rfl); (focus (intro w; go_simp; (try with_reducible rfl); done)); simp only [Act.put, List.setIfInBounds_toArray, List.set_cons_zero, List.set_cons_succ])
                        (apply lexg_pure (by rfl); (focus (intro w; go_simp; (try with_reducible rfl); done)); simp only [Act.put, List.setIfInBounds_toArray, List.set_cons_zero, List.set_cons_succ])
                        (apply lexg_take (by rfl); (focus (intro w hw; (try dsimp only at hw); go_simp; (try with_reducible rfl); done)); simp only [Act.put, List.setIfInBounds_toArray, List.set_cons_zero, List.set_cons_succ])
                        (refine lexg_eff (by rfl) ?_; go_simp; ((go_at_call 19; refine (HHS.out _ ri.drew).mono ?_; rintro e w18 ⟨rfl, nq, hw18⟩; have hb18 : Below wr.heap.size wr w18 := hw18 ▸ below_drewN ri.drew nq; clear hw18)); refine lexg_both (by (first | exact ri.drew | exact below_drewN ri.drew _ | assumption)) (fun hS1 => ?_))
                        refine lexg_nil (fun _ => wpAnyG_done (by kernel_rfl) ?_ _)
                        have HBN := hide (HBI.out.trans (hb18.mono HBI.out.size))
                        clear hb18 g8
                        go_wp2
                        go_roundw
                        case rel => exact ⟨ji + 1, by omega, by go_num, HBN.out⟩
                        case measure => simp [intOf]; omega
                      · have iji : ¬ ((ji : Int) < al.length) := by omega
                        have hji2 : ji = al.length := by omega
                        clear hlji
                        go_wp2
                        go_roundw
                        case rel => exact ⟨jc + 1, L'.set cid cep, by omega, by go_num, HK17.out.1.below HBI.out, HEP'.out, HK17.out.2.1.below HBI.out, HK17.out.2.2.1.below HBI.out⟩
                        case measure => simp [intOf]; omega
                  · have ijc : ¬ ((jc : Int) < S'.cs.length) := by omega
                    have hjc2 : ¬ (jc < S'.cs.length) := by omega
                    have HBW : Hid (Below W.heap.size W wr) := hide (HK11.out.2.1.trans (HCC.out.toBelow HK11.out.2.1.size (fun x hx => by rw [List.mem_singleton.1 hx]; have := HNE.out; omega)))
                    clear hljc
                    go_wp2
                    go_roundw
                    case rel => exact ⟨k + 1, S', L', by omega, by go_num, HVC.out, HS1.out.1, HS1.out.2.1, HEC.out, HBC.out, HS1.out.2.2.2.1, HBW.out⟩
                    case measure => simp [intOf]; omega
      · have i1 : ¬ ((k : Int) < cs.length) := by omega
        go_wp2_with fail
        refine (awake18_calls _).mono ?_
        rintro e w10 ⟨rfl, hb10⟩
        have HF := hide (HBR.out.trans (hb10.mono HBR.out.size))
        clear hb10
        go_wp2
        go_ret
        exact ⟨rfl, HF.out⟩
end Go.Proofs.Ytcgecalbgkkinaa
