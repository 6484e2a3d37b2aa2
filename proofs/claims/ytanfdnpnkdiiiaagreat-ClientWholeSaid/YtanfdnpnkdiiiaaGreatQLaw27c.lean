/- One text of: Law27c. -/
import Derived.Test.YtanfdnpnkdiiiaaGreatQWH
import Derived.Test.YtanfdnpnkdiiiaaGreatQBase
namespace Go.Proofs.YtanfdnpnkdiiiaaGreat
open Go.RowKit Go.Proofs Go.Maps
set_option linter.unusedVariables false
set_option linter.unusedSimpArgs false
theorem Blk.rb {w : World} {b c : Nat} {L no : List Nat} (h : Blk w b 5 (bys L)) (hc : L.length ≤ c) (hn : b ∉ no) : Rb w no (some ⟨b, 0, none⟩) c L :=
  ⟨hc, ⟨by simp [bys], fun _ => ⟨b, 0, rfl, h.lt, fun j u hu => by rw [Nat.zero_add, h.cell j]; exact hu⟩⟩, fun a ha => by cases ha; exact ⟨rfl, hn, h.lt⟩⟩

set_option maxHeartbeats 16000000 in
set_option maxRecDepth 100000 in
/-- THE WALK of ClientWhole: whatever comes in, it answers true, and nothing that was there turns. -/
theorem clientWhole_walk {H : Type} {enc : TypeId × Value → H} (W : World) (base : Nat) (v0 v1 : Value) (d0 d1 : DataW H) (p0 p1 : List MemPlace)
    (ok0 : Value.okWide Tryz.prog W .any base 51 v0) (h0 : DataW.Trod enc Tryz.prog W 0 (fun _ => true) true 51 v0 d0 p0)
    (ok1 : Value.okWide Tryz.prog W .any base 23 v1) (h1 : DataW.Trod enc Tryz.prog W 0 (fun _ => true) true 23 v1 d1 p1) :
    Calls Tryz.prog 5 #[v0, v1] W fun e w' => e = .returned (.bool true) ∧ Below W.heap.size W w' := by
  obtain ⟨A1, c1, L1, rfl, hL1, R1⟩ := open_asks ok0 h0
  obtain ⟨A2, c2, L2, rfl, l2, m2, F2, R2⟩ := open_intsR Tryz.underlying23 Tryz.underlying5 (by kernel_rfl) ok1 h1
  clear ok0 h0 ok1 h1
  by_cases hbad : 12 < L1.length ∨ 300 < L2.length
  · skip
    by_cases h30 : 12 < L1.length
    · have q1 : (12 : Int) < L1.length := by omega
      go_enter Tryz.func5, Tryz.ntmps5
      go_wp2_with fail
      refine (awake27_calls _).mono ?_
      rintro e w9 ⟨rfl, hb9⟩
      have HBA := hide hb9
      clear hb9
      go_wp2
      go_ret
      exact ⟨rfl, HBA.out⟩
    · have q1 : ¬ (12 : Int) < L1.length := by omega
      have q2 : (300 : Int) < L2.length := by omega
      go_enter Tryz.func5, Tryz.ntmps5
      go_wp2_with fail
      refine (awake27_calls _).mono ?_
      rintro e w9 ⟨rfl, hb9⟩
      have HBA := hide hb9
      clear hb9
      go_wp2
      go_ret
      exact ⟨rfl, HBA.out⟩
  · have q1 : ¬ (12 : Int) < L1.length := by omega
    have q2 : ¬ (300 : Int) < L2.length := by omega
    have HLN : Hid (L1.length ≤ 12 ∧ L2.length ≤ 300) := hide (by omega)
    have HR := hide (And.intro R1 (And.intro R2 (And.intro F2 hL1)))
    clear hbad R1 R2 F2 hL1 l2
    go_enter Tryz.func5, Tryz.ntmps5
    go_wp2_with fail
    refine (cnew_calls 3 (by omega) mPr _).mono ?_
    rintro e w1 ⟨c, F, mt, rfl, rfl, hg1, hc1, hb1, hf1⟩
    have HB1 := hide hb1
    have HC1 := hide (And.intro hg1 (And.intro hc1 hf1))
    clear hb1 hg1 hc1 hf1 q1 q2
    go_wp2_with fail
    refine (made_calls [c, mt] w1 HC1.out.2.1.lt 40 5 mS_40 (by omega)).mono ?_
    rintro e w2 ⟨sb, rfl, hv2, hser, hb2, hsb⟩
    have HB2 := hide (HB1.out.trans (hb2.mono HB1.out.size))
    have hvf : VF [c, mt] w2 sb S40 := by
      have h3 := HC1.out.2.1.below hb2
      obtain ⟨xp, mt', cur, ans, out, Ft, Fc, Fa, Fo, hp⟩ := h3
      exact VF.ofK hv2 hp.blk (HC1.out.1.below hb2) (by simp [mS]) (by simp [mS]) (by simp [mS, mCk, List.range, List.range.loop])
    have HC2 := hide (And.intro (HC1.out.1.below hb2) (And.intro (HC1.out.2.1.below hb2) (And.intro hv2 (And.intro hser hvf))))
    clear hb2 hv2 hser hsb hvf
    have HVW := hide (cview_calls HC2.out.2.1 rfl HC2.out.1 HC2.out.2.2.1.vs (by omega) HC2.out.2.2.2.1 (by simp [mS]) (by simp [mS]) (by simp [mS, mCk, List.range, List.range.loop]))
    go_wp2_with fail
    refine HVW.out.mono ?_
    rintro e w4 ⟨rfl, xb, hc4, hch4⟩
    have HCF := hide HC1.out.2.2
    have hb4 : Below W.heap.size W w4 := Chg.onto HB2.out HB2.out.size hch4 (fun z hz => by rw [List.mem_singleton.1 hz]; exact HCF.out c (by simp))
    have HV4 := hide (HC2.out.2.2.2.2.chg hch4 (fun z hz => Or.inl (by rw [List.mem_singleton.1 hz]; simp)))
    have HB4 := hide hb4
    have HC4 := hide (show CM w4 [c, mt] c (some (xb, S40)) mPr 0 (cI 0 .zero) from hc4)
    clear hc4 hch4 hb4 HVW
    go_upto_region 8 with fail
    obtain ⟨xB, hxB⟩ : ∃ xB, w4.heap.size = xB := ⟨_, rfl⟩
    obtain ⟨w5, hw5⟩ : ∃ w5, w4.alloc (.cells #[.int .i64 0, .int .i64 0, .int .i64 0, .int .i64 0, .int .i64 0, .int .i64 0, .int .i64 0, .int .i64 0, .int .i64 0, .int .i64 0, .int .i64 0, .int .i64 0, .int .i64 0, .int .i64 0, .int .i64 0, .int .i64 0, .int .i64 0, .int .i64 0, .int .i64 0, .int .i64 0, .int .i64 0, .int .i64 0, .int .i64 0, .int .i64 0, .int .i64 0, .int .i64 0, .int .i64 0, .int .i64 0, .int .i64 0, .int .i64 0, .int .i64 0, .int .i64 0, .int .i64 0, .int .i64 0, .int .i64 0, .int .i64 0, .int .i64 0, .int .i64 0, .int .i64 0, .int .i64 0] 52) = w5 := ⟨_, rfl⟩
    have hJ5 : WJ W w5 [c, mt] c xb sb 0 (cI 0 .zero) xB none (List.replicate 40 0) (.slice none 0 0) [] :=
      WJ.start HC4.out HV4.out HB4.out HCF.out (hw5 ▸ belowL (Below.refl _ _) _) (Nat.le_of_eq hxB) (by rw [← hw5, ← hxB]; exact Blk.new rfl) rfl (by simp)
    have HJ5 := hide hJ5
    rw [hxB, hw5]
    clear hxB hw5 hJ5
    go_wp2
    go_loopw [8, 9, 10, 11, 12, 13, 14, 15, 16, 17, 18, 19, 20, 21, 22, 45, 46, 47, 48, 49, 50, 51, 52, 53, 54, 55, 56, 57, 58, 59, 60, 61, 62, 63, 64, 65, 66, 67, 68, 69, 70, 71, 72, 73, 74, 75, 76, 77, 78, 79, 80, 81, 82, 83, 84, 85, 86, 87, 88, 89, 90, 91, 92, 93, 94, 95, 96, 97, 98, 99, 100, 101, 102, 103, 104, 105, 106, 107, 108, 109, 110, 111, 112, 113, 114, 115, 116, 117, 118, 119, 120, 121, 122, 123, 124, 125, 126, 127, 128, 129, 130, 131, 132, 133, 134, 135, 136, 137, 138, 139, 140, 141, 142, 143, 144, 145, 146, 147, 148, 149, 150, 151, 152, 153, 154, 155, 156, 157, 158, 159, 160, 161, 162, 163, 164, 165, 166, 167, 168, 169, 170, 171, 172, 173, 174, 175, 176, 177, 178, 179, 180, 181, 182, 183, 184, 185, 186, 187, 188, 189, 190, 191, 192, 193, 194, 195, 196, 197, 198, 199, 200, 201, 202, 203, 204, 205, 206, 207, 208, 209, 210, 211, 212, 213, 214, 215, 216, 217, 218, 219, 220, 221, 222, 223, 224, 225, 226, 227, 228, 229, 230, 231, 232, 233, 234, 235, 236, 237, 238, 239, 240, 241, 242, 243, 244] (fun nu tu v _ _ _ _ _ _ _ _ _ _ _ _ _ _ _ _ _ _ _ _ _ _ _ _ _ _ _ _ _ _ _ _ _ _ _ _ _ _ _ _ _ _ _ _ _ _ _ _ _ _ _ _ _ _ _ _ _ _ _ _ _ _ _ _ _ _ _ _ _ _ _ _ _ _ _ _ _ _ _ _ _ _ _ _ _ _ _ _ _ _ _ _ _ _ _ _ _ _ _ _ _ _ _ _ _ _ _ _ _ _ _ _ _ _ _ _ _ _ _ _ _ _ _ _ _ _ _ _ _ _ _ _ _ _ _ _ _ _ _ _ _ _ _ _ _ _ _ _ _ _ _ _ _ _ _ _ _ _ _ _ _ _ _ _ _ _ _ _ _ _ _ _ _ _ _ _ _ _ _ _ _ _ _ _ _ _ _ _ _ _ _ _ _ _ _ _ _ _ _ _ _ _ _ _ _ _ _ _ _ _ _ _ wr => ∃ (i num : Nat) (F : List Nat) (T : Trk) (Bl : List Nat), i ≤ L1.length ∧ v = .int .i64 i ∧ nu = .int .i64 num ∧ tu = .int .i64 num ∧ num ≤ 20 * i ∧ WJ W wr F c xb sb (500 * i) (cI num T) xB none Bl (.slice none 0 0) []) (fun nu tu v _ _ _ _ _ _ _ _ _ _ _ _ _ _ _ _ _ _ _ _ _ _ _ _ _ _ _ _ _ _ _ _ _ _ _ _ _ _ _ _ _ _ _ _ _ _ _ _ _ _ _ _ _ _ _ _ _ _ _ _ _ _ _ _ _ _ _ _ _ _ _ _ _ _ _ _ _ _ _ _ _ _ _ _ _ _ _ _ _ _ _ _ _ _ _ _ _ _ _ _ _ _ _ _ _ _ _ _ _ _ _ _ _ _ _ _ _ _ _ _ _ _ _ _ _ _ _ _ _ _ _ _ _ _ _ _ _ _ _ _ _ _ _ _ _ _ _ _ _ _ _ _ _ _ _ _ _ _ _ _ _ _ _ _ _ _ _ _ _ _ _ _ _ _ _ _ _ _ _ _ _ _ _ _ _ _ _ _ _ _ _ _ _ _ _ _ _ _ _ _ _ _ _ _ _ _ _ _ _ _ _ _ _ => L1.length - (intOf v).toNat)
    case atStart => exact ⟨0, 0, [c, mt], .zero, _, Nat.zero_le _, rfl, rfl, rfl, Nat.zero_le _, HJ5.out⟩
    case round =>
      obtain ⟨i, num, F, T, Bl, hi, rfl, rfl, rfl, hnum, hj⟩ := hrel
      have HI := hide (And.intro hj hnum)
      by_cases hlt : i < L1.length
      · have i1 : (i : Int) < L1.length := by omega
        obtain ⟨b1, o1, rfl, hb1, hc1⟩ := HR.out.1.at_ (by omega)
        obtain ⟨⟨kind0, from0, many0, A3, V3, c3⟩, ha⟩ : ∃ a, L1[i] = a := ⟨_, rfl⟩
        have hok := HR.out.2.2.2 L1[i] (List.getElem_mem _)
        rw [ha] at hok
        have hcell : ∀ w', Below W.heap.size W w' → ∀ j, (hj : j < 4) → w'.cell? ⟨b1, o1 + i * 4 + j, none⟩ = (PAsk.cells ⟨kind0, from0, many0, A3, V3, c3⟩)[j]? := fun w' hb j hj => by
          rw [hb.cell (p := ⟨b1, o1 + i * 4 + j, none⟩) hb1]
          have h2 := askCells_get L1 i j hlt hj
          rw [ha] at h2
          have h3 : j < (PAsk.cells ⟨kind0, from0, many0, A3, V3, c3⟩).length := hj
          rw [List.getElem?_eq_getElem h3] at h2 ⊢
          rw [← hc1 _ _ h2]
          congr 2
          omega
        have a0 : wr.cell? ⟨b1, o1 + i * 4, none⟩ = some (.int .i64 kind0) := hcell wr hj.b.b 0 (by omega)
        have a1 : wr.cell? ⟨b1, o1 + i * 4 + 1, none⟩ = some (.int .i64 from0) := hcell wr hj.b.b 1 (by omega)
        have a2 : wr.cell? ⟨b1, o1 + i * 4 + 2, none⟩ = some (.int .i64 many0) := hcell wr hj.b.b 2 (by omega)
        have a3 : wr.cell? ⟨b1, o1 + i * 4 + 3, none⟩ = some (.slice A3 V3.length c3) := hcell wr hj.b.b 3 (by omega)
        have HOK := hide hok
        obtain ⟨aB, haB⟩ : ∃ aB, wr.heap.size = aB := ⟨_, rfl⟩
        obtain ⟨w6, hw6⟩ : ∃ w6, wr.alloc (.cells #[.int .i64 kind0, .int .i64 from0, .int .i64 many0, .slice A3 V3.length c3] 54) = w6 := ⟨_, rfl⟩
        have hbK : Blk w6 aB 54 (PAsk.cells ⟨kind0, from0, many0, A3, V3, c3⟩) := by rw [← hw6, ← haB]; exact Blk.new rfl
        have hJ6 := hj.lay rfl (hw6 ▸ belowL (Below.refl _ _) _) (Nat.le_of_eq haB) hbK
        have HJ6 := hide hJ6
        have HW6 := hide (And.intro haB hw6)
        have d0 : w6.cell? ⟨aB, 0, none⟩ = some (.int .i64 kind0) := hbK.cell 0
        have d1 : w6.cell? ⟨aB, 1, none⟩ = some (.int .i64 from0) := hbK.cell 1
        have d2 : w6.cell? ⟨aB, 2, none⟩ = some (.int .i64 many0) := hbK.cell 2
        have d3 : w6.cell? ⟨aB, 3, none⟩ = some (.slice A3 V3.length c3) := hbK.cell 3
        clear hj hnum hcell hc1 ha hok haB hw6 hJ6 hbK
        go_upto_region 13 with fail
        rw [HW6.out.1, HW6.out.2]
        clear a0 a1 a2 a3
        go_cut [93] from 93 to 93 (fun tv wx => (tv = .bool true ∨ (tv = .bool false ∧ 0 ≤ from0 ∧ 1 ≤ many0 ∧ many0 ≤ 20 ∧ from0 ≤ 40 - many0 ∧ 1 ≤ kind0 ∧ kind0 ≤ 3 ∧ many0 ≤ (V3.length : Int))) ∧ wx = w6)
        case first =>
          by_cases v1 : from0 < 0
          · go_wp2
            go_meet
            exact ⟨Or.inl rfl, rfl⟩
          by_cases v2 : many0 < 1
          · go_wp2
            go_meet
            exact ⟨Or.inl rfl, rfl⟩
          by_cases v3 : 20 < many0
          · go_wp2
            go_meet
            exact ⟨Or.inl rfl, rfl⟩
          have v0 : IntKind.i64.wrap (40 - many0) = 40 - many0 := IntWalk.i64_in _ (by omega)
          by_cases v4 : 40 - many0 < from0
          · go_wp2
            go_meet
            exact ⟨Or.inl rfl, rfl⟩
          by_cases v5 : kind0 < 1
          · go_wp2
            go_meet
            exact ⟨Or.inl rfl, rfl⟩
          by_cases v6 : 3 < kind0
          · go_wp2
            go_meet
            exact ⟨Or.inl rfl, rfl⟩
          by_cases v7 : (V3.length : Int) < many0
          · go_wp2
            go_meet
            exact ⟨Or.inl rfl, rfl⟩
          go_wp2
          go_meet
          exact ⟨Or.inr ⟨rfl, by omega⟩, rfl⟩
        case rest =>
        obtain ⟨hbv, hwc⟩ := hcut
        rw [hwc]
        clear hwc
        rcases hbv with hbv | ⟨hbv, hvl⟩
        · rw [hbv]
          have HBW := hide HJ6.out.b.b
          go_wp2_with fail
          refine (awake27_calls _).mono ?_
          rintro e w9 ⟨rfl, hb9⟩
          have HBA := hide (HBW.out.trans (hb9.mono HBW.out.size))
          clear hb9
          go_wp2
          go_ret
          exact ⟨rfl, HBA.out⟩
        rw [hbv]
        obtain ⟨kind, rfl⟩ : ∃ n : Nat, kind0 = n := ⟨kind0.toNat, by omega⟩
        obtain ⟨fr, rfl⟩ : ∃ n : Nat, from0 = n := ⟨from0.toNat, by omega⟩
        obtain ⟨many, rfl⟩ : ∃ n : Nat, many0 = n := ⟨many0.toNat, by omega⟩
        have HVL : Hid (1 ≤ kind ∧ kind ≤ 3 ∧ 1 ≤ many ∧ many ≤ 20 ∧ fr + many ≤ 40 ∧ many ≤ V3.length) := hide (by omega)
        go_upto_region 15 with fail
        have F7 := Below.refl w6.heap.size w6
        obtain ⟨i0, hi0, hz0, hz1, hz2⟩ := info_parts Tryz.infoB
        clear hvl hbv
        go_cut [12] from 54 to 54 (fun b wx => b = .slice none 0 0 ∧ wx = w6)
        case first =>
          go_wp2
          go_meet
          exact ⟨rfl, rfl⟩
        case rest =>
        obtain ⟨rfl, hwc⟩ := hcut
        rw [hwc]
        clear hwc
        go_upto_block 2 with fail
        go_cut [12] from 45 to 45 (fun b wx => ∃ (Lb : List Nat), b = b ∧ (kind = 1 → Lb.length = many * 16) ∧ Lb.length ≤ 320 ∧ wx.ownsRow 0 5 1 b Lb.length (bys Lb) ∧ (∀ g, b.ownBlock = some g → w6.heap.size ≤ g) ∧ Below w6.heap.size w6 wx)
        case first =>
          go_wp2
          go_loopw [12, 13, 95, 96, 97, 98, 99, 100, 101, 102, 103, 104, 105, 106, 107, 108, 109, 110, 111, 112, 113, 114] (fun b kv _ _ _ _ _ _ _ _ _ _ _ _ _ _ _ _ _ _ _ _ wx => ∃ (k : Nat) (Lb : List Nat), kv = .int .i64 k ∧ k ≤ many ∧ Lb.length = 16 * k ∧ (kind ≠ 1 → k = 0) ∧ wx.ownsRow 0 5 1 b Lb.length (bys Lb) ∧ (∀ g, b.ownBlock = some g → w6.heap.size ≤ g) ∧ Below w6.heap.size w6 wx) (fun b kv _ _ _ _ _ _ _ _ _ _ _ _ _ _ _ _ _ _ _ _ _ => many - (intOf kv).toNat)
          case atStart => exact ⟨0, [], rfl, Nat.zero_le _, rfl, fun _ => rfl, ownsRow_nil _ _ _, fun g hg => (by cases hg), F7⟩
          case round =>
            obtain ⟨k, Lb, rfl, hk, hLb, hk1, hob, hgb, hbx⟩ := hrel
            have x0 := (hbx.cell (p := ⟨aB, 0, none⟩) (HJ6.out.l.ab _ rfl).lt).trans d0
            have x3 := (hbx.cell (p := ⟨aB, 3, none⟩) (HJ6.out.l.ab _ rfl).lt).trans d3
            have x2 := (hbx.cell (p := ⟨aB, 2, none⟩) (HJ6.out.l.ab _ rfl).lt).trans d2
            have HX := hide (And.intro hLb (And.intro hk1 (And.intro hob (And.intro hgb hbx))))
            have hk20 : k ≤ 20 := by have := HVL.out; omega
            clear hob hgb hbx hk1 hLb
            by_cases hmore : k < many ∧ kind = 1
            · have j1 : (k : Int) < many := by omega
              have j2 : ((kind : Int) == 1) = true := by simp; omega
              have hkV : k < V3.length := by have := HVL.out; omega
              obtain ⟨b3, o3, rfl, hb3, hc3⟩ := HOK.out.rd.at_ (by simp only []; omega)
              have y0 : wr.cell? ⟨b3, o3 + k, none⟩ = some (.int .u8 (V3[k] : Nat)) := ((HJ6.out.b.b.trans (HX.out.2.2.2.2.mono HJ6.out.b.b.size)).cell (p := ⟨b3, o3 + k, none⟩) hb3).trans (hc3 k _ (by unfold bys; simp [hkV]))
              have hv255 : V3[k] ≤ 255 := HOK.out.b _ (List.getElem_mem _)
              obtain ⟨vk, hvk⟩ : ∃ vk, V3[k] = vk := ⟨_, rfl⟩
              rw [hvk] at y0 hv255
              have cv : IntKind.i64.wrap (vk : Int) = vk := IntWalk.i64_in _ (by omega)
              clear hvk hc3
              go_wp2_with fail
              refine (value_calls vk hv255 _).mono ?_
              rintro e wv ⟨bv, rfl, hbv, hnv, hbv2⟩
              obtain ⟨Ab, cb, rfl, hle, hml, hown, hnone, hrd⟩ := own_view HX.out.2.2.1
              go_wp2_with (at_builtin; refine wpList_append_lies _ rfl _ _ 23 rfl 0 5 i0 _ 1 1 Tryz.underlying23 hi0 hz0 hz1 hz2 rfl (by decide) (.slice Ab Lb.length cb) Lb.length (bys Lb) rfl (own_chg HX.out.2.2.1 (Chg.of_below (L := []) hbv2) (fun _ _ hx => by cases hx)) ⟨bv, 0, none⟩ 16 16 (bys (val16 vk)) rfl (by simp [bys, val16]) (fun j u hu => by rw [add_addr, Nat.zero_add, hbv.cell j]; exact hu) ?c1 (by omega) ?c3 ?c4 (Nat.zero_le _) _ rfl ?_)
              case c1 => exact bys_one _
              case c3 => have := HX.out.1; unfold maxLen; omega
              case c4 => have := HX.out.1; omega
              intro g2 cap2 w8 hown2 hgr2 hor2 hlt2
              have hch2 := Chg.of_grown hgr2
              have hgw : w6.heap.size ≤ g2 := by
                rcases hor2 with h | h
                · exact HX.out.2.2.2.1 _ (by rw [hown]; simpa using h)
                · have := HX.out.2.2.2.2.size; have := hbv2.size; omega
              have hb8 : Below w6.heap.size w6 w8 := Chg.onto (HX.out.2.2.2.2.trans (hbv2.mono HX.out.2.2.2.2.size)) (HX.out.2.2.2.2.trans (hbv2.mono HX.out.2.2.2.2.size)).size hch2 (fun x hx => HX.out.2.2.2.1 x (by rw [hown]; simpa using hx))
              have HN := hide (And.intro hown2 (And.intro hgw hb8))
              clear hown2 hgr2 hor2 hlt2 hch2 hgw hb8 hrd hbv hbv2 hnv y0 x0 x2 x3
              go_wp2
              go_roundw
              case rel =>
                exact ⟨k + 1, Lb ++ val16 vk, by go_num, by omega, by have := HX.out.1; simp [val16]; omega, fun h => absurd hmore.2 h, by rw [bys_app, List.length_append]; exact HN.out.1, fun g hg => by cases hg; exact HN.out.2.1, HN.out.2.2⟩
              case measure => simp [intOf]; omega
            · by_cases hj : k < many
              · have j1 : (k : Int) < many := by omega
                have j2 : ((kind : Int) == 1) = false := by simp; omega
                have hne : kind ≠ 1 := by omega
                clear hmore
                go_wp2
                go_meet
                exact ⟨Lb, by trivial, fun h => absurd h hne, by have := HX.out.1; omega, HX.out.2.2.1, HX.out.2.2.2.1, HX.out.2.2.2.2⟩
              · have j1 : ¬ (k : Int) < many := by omega
                clear hmore
                go_wp2
                go_meet
                exact ⟨Lb, by trivial, fun _ => by have := HX.out.1; omega, by have := HX.out.1; omega, HX.out.2.2.1, HX.out.2.2.2.1, HX.out.2.2.2.2⟩
        case rest =>
          obtain ⟨Lb, hbe, hk16, hl320, hob, hgb, hbx⟩ := hcut
          obtain ⟨Ab, cb, rfl, hle, hml, hown, hnone, hrd⟩ := own_view hob
          have hLB : Rb wc [] Ab cb Lb := ⟨hle, hrd _ (fun g hg => own_lt hob hg), fun a ha => by
            have hg : (Value.slice Ab Lb.length cb).ownBlock = some a.block := by rw [hown, ha]; rfl
            refine ⟨?_, by simp, own_lt hob hg⟩
            rcases hob.2 with ⟨h6, _⟩ | ⟨g, cap2, cur2, e2, _⟩
            · injection h6 with q1 q2 q3
              rw [q1] at ha
              cases ha
            · cases e2; cases ha; rfl⟩
          have x0 := (hbx.cell (p := ⟨aB, 0, none⟩) (HJ6.out.l.ab _ rfl).lt).trans d0
          have x1 := (hbx.cell (p := ⟨aB, 1, none⟩) (HJ6.out.l.ab _ rfl).lt).trans d1
          have x2 := (hbx.cell (p := ⟨aB, 2, none⟩) (HJ6.out.l.ab _ rfl).lt).trans d2
          have hJ7 := HJ6.out.below hbx
          have HBG := hide (cbegin_calls (X := cI num T) hJ7.b.cm rfl rfl seen40 kind fr many HVL.out.1 HVL.out.2.1 HVL.out.2.2.1 HVL.out.2.2.2.2.1 hLB hk16 (by omega) (by have := HLN.out; omega) (by have := HI.out.2; have := HLN.out; simp only [cI]; omega) (by simp [cI]))
          have HJ7 := hide hJ7
          clear hLB hk16 hJ7 hle hml hown hnone hrd hob hgb hbx hl320 d0 d1 d2 d3
          go_wp2_with fail
          refine HBG.out.mono ?_
          rintro e w8 ⟨rfl, hco⟩
          obtain ⟨T8, x8, hbe8⟩ := cI_begin num T kind fr many HVL.out.2.2.1
          rw [hbe8] at hco
          obtain ⟨F8, hJ8⟩ := HJ7.out.co hco
          have HJ8 := hide hJ8
          clear hco hJ8 hbe8 HBG x0 x1 x2
          go_wp2
          go_loopw [8, 9, 14, 15, 16, 17, 18, 19, 20, 125, 126, 127, 128, 129, 130, 131, 132, 133, 134, 135, 136, 137, 138, 139, 140, 141, 142, 143, 144, 145, 146, 147, 148, 149, 150, 151, 152, 153, 154, 155, 156, 157, 158, 159, 160, 161, 162, 163, 164, 165, 166, 167, 168, 169, 170, 171, 172, 173, 174, 175, 176, 177, 178, 179, 180, 181, 182, 183, 184, 185, 186, 187, 188, 189, 190, 191, 192, 193, 194, 195, 196, 197, 198, 199, 200, 201, 202, 203, 204, 205, 206, 207, 208, 209, 210, 211, 212] (fun nu tu wa kv _ _ _ _ _ _ _ _ _ _ _ _ _ _ _ _ _ _ _ _ _ _ _ _ _ _ _ _ _ _ _ _ _ _ _ _ _ _ _ _ _ _ _ _ _ _ _ _ _ _ _ _ _ _ _ _ _ _ _ _ _ _ _ _ _ _ _ _ _ _ _ _ _ _ _ _ _ _ _ _ _ _ _ _ _ _ _ _ _ _ _ _ _ wx => ∃ (k nn tn : Nat) (F8 : List Nat) (Y : Cl) (Bl8 rd : List Nat), k ≤ many ∧ kv = .int .i64 k ∧ nu = .int .i64 tn ∧ tu = .int .i64 tn ∧ Hid (tn = num + k) ∧ nn ≤ 500 * i + 1 + 20 * k ∧ WJ W wx F8 c xb sb nn Y xB (some (aB, ⟨kind, fr, many, A3, V3, c3⟩)) Bl8 wa rd ∧ Stg Y tn kind fr many k rd ∧ (kind = 3 → rd.length = 16 * k) ∧ (kind ≠ 3 → rd = [])) (fun nu tu wa kv _ _ _ _ _ _ _ _ _ _ _ _ _ _ _ _ _ _ _ _ _ _ _ _ _ _ _ _ _ _ _ _ _ _ _ _ _ _ _ _ _ _ _ _ _ _ _ _ _ _ _ _ _ _ _ _ _ _ _ _ _ _ _ _ _ _ _ _ _ _ _ _ _ _ _ _ _ _ _ _ _ _ _ _ _ _ _ _ _ _ _ _ _ _ => many - (intOf kv).toNat)
          case atStart =>
            exact ⟨0, _, num, F8, _, Bl, [], Nat.zero_le _, rfl, rfl, rfl, hide rfl, by omega, HJ8.out, Or.inl ⟨HVL.out.2.2.1, T8, x8, rfl⟩, fun _ => rfl, fun _ => rfl⟩
          case round =>
            obtain ⟨k, nn, tn, G8, Y, Bl8, rd, hk, rfl, rfl, rfl, htn, hnn, hj8, hst, hr3, hrn⟩ := hrel
            have hb8 := hj8.l.ab _ rfl
            have y0 : wr.cell? ⟨aB, 0, none⟩ = some (.int .i64 kind) := hb8.cell 0
            have y1 : wr.cell? ⟨aB, 1, none⟩ = some (.int .i64 fr) := hb8.cell 1
            have y2 : wr.cell? ⟨aB, 2, none⟩ = some (.int .i64 many) := hb8.cell 2
            have HR8 := hide (And.intro hnn (And.intro hr3 hrn))
            have HTB : Hid (tn ≤ 20 * i + k ∧ nn ≤ 10000) := hide (by have := htn.out; have := HI.out.2; have := HLN.out; have := HVL.out; have := i1; omega)
            by_cases hmore : k < many
            · have j1 : (k : Int) < many := by omega
              obtain ⟨ati, hati⟩ : ∃ a, fr + k = a := ⟨_, rfl⟩
              have c1 : IntKind.i64.wrap ((fr : Int) + k) = (ati : Int) := by rw [IntWalk.i64_in _ (by have := HVL.out; omega)]; omega
              obtain ⟨t1, ht1⟩ : ∃ a, tn + 1 = a := ⟨_, rfl⟩
              have c2 : IntKind.i64.wrap ((tn : Int) + 1) = (t1 : Int) := by rw [IntWalk.i64_in _ (by have := HTB.out; have := HLN.out; have := HVL.out; omega)]; omega
              have HAT := hide hati
              have HT1 := hide ht1
              obtain ⟨T9, x9, rfl⟩ : ∃ T x, Y = cR t1 T ⟨kind, fr, many, rd, k, 0, true⟩ x := by
                rcases hst with ⟨_, h⟩ | ⟨h, _⟩
                · rw [← ht1]; exact h
                · omega
              have ia0 : (0 : Int) ≤ (ati : Int) := by omega
              have ia1 : (ati : Int) < 40 := by have := HVL.out; omega
              have HJ9 := hide hj8
              have HK9 := hide hmore
              clear hj8 hst hnn hr3 hrn hb8 hmore hati ht1
              go_upto_if 137 with fail
              go_cut [14] from 137 to 137 (fun wa' wx => ∃ L, WJ W wx G8 c xb sb nn (cR t1 T9 ⟨kind, fr, many, rd, k, 0, true⟩ x9) xB (some (aB, ⟨kind, fr, many, A3, V3, c3⟩)) Bl8 wa' (rd ++ L) ∧ (kind = 3 → L = val16 (Bl8.getD ati 0)) ∧ (kind ≠ 3 → L = []))
              case first =>
                by_cases hk3 : kind = 3
                · have j2 : ((kind : Int) == 3) = true := by simp; omega
                  have hfk : ati < Bl8.length := by have := HJ9.out.l.len; omega
                  have z0 := HJ9.out.l.cell hfk
                  have hv255 := HJ9.out.l.le _ (List.getElem_mem hfk)
                  obtain ⟨vk, hvk⟩ : ∃ vk, Bl8[ati] = vk := ⟨_, rfl⟩
                  have hvd : Bl8.getD ati 0 = vk := by rw [← hvk]; simp [List.getD_eq_getElem?_getD, hfk]
                  rw [hvk] at z0 hv255
                  have HVD := hide (And.intro hvd hk3)
                  clear hvk hvd hfk hk3
                  go_wp2_with fail
                  refine (value_calls vk hv255 _).mono ?_
                  rintro e wv ⟨bv, rfl, hbv, hnv, hbv2⟩
                  obtain ⟨Ab2, cb2, rfl, hle, hml, hown, hnone, hrd⟩ := own_view HJ9.out.l.row
                  have HJV := hide (HJ9.out.below hbv2)
                  clear hle hml hown hnone hrd hbv2 hnv
                  go_wp2_with (at_builtin; refine wpList_append_lies _ rfl _ _ 23 rfl 0 5 i0 _ 1 1 Tryz.underlying23 hi0 hz0 hz1 hz2 rfl (by decide) (.slice Ab2 rd.length cb2) rd.length (bys rd) rfl HJV.out.l.row ⟨bv, 0, none⟩ 16 16 (bys (val16 vk)) rfl (by simp [bys, val16]) (fun j u hu => by rw [add_addr, Nat.zero_add, hbv.cell j]; exact hu) ?c1 (by omega) ?c3 ?c4 (Nat.zero_le _) _ rfl ?_)
                  case c1 => exact bys_one _
                  case c3 => have := HR8.out.2.1 HVD.out.2; have := HK9.out; have := HVL.out; unfold maxLen; omega
                  case c4 => have := HR8.out.2.1 HVD.out.2; have := HK9.out; have := HVL.out; omega
                  intro g2 cap2 w9 hown2 hgr2 hor2 hlt2
                  have hch2 := Chg.of_grown hgr2
                  have hown3 : w9.ownsRow 0 5 1 (.slice (some ⟨g2, 0, none⟩) (rd.length + 16) cap2) (rd ++ val16 vk).length (bys (rd ++ val16 vk)) := by rw [bys_app, List.length_append]; exact hown2
                  have HJn := hide (HJV.out.want rfl hown3 hch2 (fun g hg => by
                    cases hg
                    exact hor2))
                  clear hown2 hgr2 hor2 hlt2 hch2 hown3 hbv y0 y1 y2 z0
                  go_wp2
                  go_meet
                  exact ⟨val16 vk, HJn.out, fun _ => by rw [HVD.out.1], fun h => absurd HVD.out.2 h⟩
                · have j2 : ((kind : Int) == 3) = false := by simp; omega
                  have HN3 := hide hk3
                  clear hk3
                  go_wp2
                  go_meet
                  exact ⟨[], by rw [List.append_nil]; exact HJ9.out, fun h => absurd h HN3.out, fun _ => rfl⟩
              case rest =>
                obtain ⟨L, hjA, hL3, hLn⟩ := hcut
                obtain ⟨wA, rfl⟩ : ∃ x, x = wc := ⟨_, rfl⟩
                have HJA := hide hjA
                have HL := hide (And.intro hL3 hLn)
                clear hjA hL3 hLn y0 y1 y2
                go_upto_if 147 with fail
                go_cut [17] from 147 to 147 (fun nv wx => ∃ no : Nat, nv = .int .i64 no ∧ no ≤ 3 ∧ wx = wA)
                case first =>
                  by_cases hrf : tn < L2.length
                  · have j3 : (tn : Int) < L2.length := by omega
                    obtain ⟨b2, o2, rfl, hb2, hc2⟩ := HR.out.2.1.at_ (by omega)
                    have g2 : wA.cell? ⟨b2, o2 + tn, none⟩ = some (.int .u8 L2[tn]) := (HJA.out.b.b.cell (p := ⟨b2, o2 + tn, none⟩) hb2).trans (hc2 tn _ (by simp [hrf]))
                    obtain ⟨ph, hph⟩ : ∃ ph, L2[tn] = ph := ⟨_, rfl⟩
                    have hpb := bounds_u8 (HR.out.2.2.1 L2[tn] (List.getElem_mem _))
                    rw [hph] at g2 hpb
                    have cv : IntKind.i64.wrap ph = ph := IntWalk.i64_in _ (by omega)
                    have cm : IntKind.i64.wrap (Int.tmod ph 4) = ((ph.toNat % 4 : Nat) : Int) := by rw [Int.tmod_eq_emod_of_nonneg (by omega), IntWalk.i64_in _ (by omega)]; omega
                    have cm2 : Int.tmod ph 4 = ((ph.toNat % 4 : Nat) : Int) := by rw [Int.tmod_eq_emod_of_nonneg (by omega)]; omega
                    clear hph hc2
                    go_wp2
                    go_meet
                    exact ⟨ph.toNat % 4, by first | rfl | simp, by omega, rfl⟩
                  · have j3 : ¬ (tn : Int) < L2.length := by omega
                    go_wp2
                    go_meet
                    exact ⟨0, rfl, by omega, rfl⟩
                case rest =>
                  obtain ⟨no, rfl, hno, hwc⟩ := hcut
                  subst hwc
                  go_wp2
                  have cw0 : Hid (no ≤ 3) := hide hno
                  go_loopw [18, 19, 158, 159, 160, 161, 162, 163, 164, 165, 166, 167, 168, 169, 170, 171, 172, 173, 174, 175, 176, 177, 178, 179, 180] (fun tv _ _ _ _ _ _ _ _ _ _ _ _ _ _ _ _ _ _ _ _ _ _ _ _ wx => ∃ (t mm : Nat) (F9 : List Nat) (T : Trk) (x : Cnt), t ≤ no ∧ tv = .int .i64 t ∧ mm ≤ nn + 6 * t ∧ WJ W wx F9 c xb sb mm (cR t1 T ⟨kind, fr, many, rd, k, 4 * t, true⟩ x) xB (some (aB, ⟨kind, fr, many, A3, V3, c3⟩)) Bl8 u14 (rd ++ L)) (fun tv _ _ _ _ _ _ _ _ _ _ _ _ _ _ _ _ _ _ _ _ _ _ _ _ _ => no - (intOf tv).toNat)
                  case atStart => exact ⟨0, nn, G8, T9, x9, Nat.zero_le _, rfl, by omega, HJA.out⟩
                  case round =>
                    obtain ⟨t, mm, F9, T, x, ht, rfl, hmm, hjt⟩ := hrel
                    have y0 : wr.cell? ⟨aB, 0, none⟩ = some (.int .i64 kind) := (hjt.l.ab _ rfl).cell 0
                    by_cases htn' : t < no
                    · have j4 : (t : Int) < no := by omega
                      obtain ⟨dn, hdn⟩ : ∃ d : Int, (no : Int) - t + 100 = d := ⟨_, rfl⟩
                      have cq3 : IntKind.i64.wrap ((no : Int) - t) = (no : Int) - t := IntWalk.i64_in _ (by omega)
                      have cq4 : IntKind.i64.wrap ((no : Int) - t + 100) = dn := by rw [IntWalk.i64_in _ (by omega)]; exact hdn
                      obtain ⟨z, hz⟩ : ∃ z : Int, (dn = 0 ∧ z = 0) ∨ (dn = 101 ∧ z = 18) ∨ (dn = 102 ∧ z = 12) ∨ (dn = 103 ∧ z = 7) := by
                        have h3 : dn = 101 ∨ dn = 102 ∨ dn = 103 := by omega
                        rcases h3 with h | h | h
                        · exact ⟨18, Or.inr (Or.inl ⟨h, rfl⟩)⟩
                        · exact ⟨12, Or.inr (Or.inr (Or.inl ⟨h, rfl⟩))⟩
                        · exact ⟨7, Or.inr (Or.inr (Or.inr ⟨h, rfl⟩))⟩
                      have AS := asks_calls (k := ⟨kind, fr, many, rd, k, 4 * t, true⟩) (X := cR t1 T ⟨kind, fr, many, rd, k, 4 * t, true⟩ x) hjt.b.cm rfl seen40 HVL.out.2.2.2.2.1 HK9.out (hjt.b.vs.sub (fun z hz => List.mem_append_right _ hz)) rfl rfl HVL.out.1 HVL.out.2.1 hz (Rb.nil _ _ 0) (fun h => by omega) (by simp) (by simp only []; have h3 := HR8.out.2; have := HK9.out; by_cases e : kind = 3; (have := h3.1 e; have := HVL.out; omega); (rw [h3.2 e]; simp)) (by have := HTB.out; omega) (by have := HT1.out; simp only [cR]; omega) (by have := HT1.out; have := HTB.out; have := HLN.out; have := HVL.out; simp only [cR]; omega)
                      rw [show Wk.at_ ⟨kind, fr, many, rd, k, 4 * t, true⟩ = ati from HAT.out, if_neg (by omega : ¬ dn = 0), cR_out] at AS
                      have AS := hide AS
                      have HJT := hide hjt
                      have HMM := hide (And.intro hmm (And.intro htn' ht))
                      clear hz hdn hjt hmm ht htn'
                      go_wp2_with fail
                      refine AS.out.mono ?_
                      rintro e w2 ⟨rfl, hco⟩
                      obtain ⟨F2, hj2⟩ := HJT.out.co hco
                      have HJ2 := hide hj2
                      clear hco hj2 y0 AS
                      go_wp2
                      go_loopw [19, 175, 176, 177, 178, 179, 180] (fun jv _ _ _ _ _ _ wx => ∃ (j m3 : Nat) (F3 : List Nat) (Y3 : Cl), j ≤ 4 ∧ jv = .int .i64 j ∧ m3 ≤ mm + 2 + j ∧ WJ W wx F3 c xb sb m3 Y3 xB (some (aB, ⟨kind, fr, many, A3, V3, c3⟩)) Bl8 u14 (rd ++ L) ∧ ((j < 4 ∧ Y3 = cW t1 T ⟨kind, fr, many, rd, k, 4 * t + j, true⟩) ∨ (j = 4 ∧ ∃ x', Y3 = cR t1 T ⟨kind, fr, many, rd, k, 4 * (t + 1), true⟩ x'))) (fun jv _ _ _ _ _ _ _ => 4 - (intOf jv).toNat)
                      case atStart => exact ⟨0, _, F2, _, Nat.zero_le _, rfl, Nat.le_refl _, HJ2.out, Or.inl ⟨by omega, rfl⟩⟩
                      case round =>
                        obtain ⟨j, m3, F3, Y3, hj4, rfl, hm3, hj3, hy3⟩ := hrel
                        by_cases hjl : j < 4
                        · have j5 : (j : Int) < 4 := by omega
                          obtain rfl : Y3 = cW t1 T ⟨kind, fr, many, rd, k, 4 * t + j, true⟩ := by
                            rcases hy3 with ⟨_, h⟩ | ⟨h, _⟩
                            · exact h
                            · omega
                          have TK := hide (ctick_calls (k := ⟨kind, fr, many, rd, k, 4 * t + j, true⟩) hj3.b.cm rfl seen40 HVL.out.2.2.2.2.1 HK9.out (by have := HTB.out; have := HMM.out; have := cw0.out; omega) (by have := HT1.out; have := HTB.out; have := HLN.out; have := HVL.out; simp only [cW]; omega) (by simp [cW]) (by have := HMM.out; have := cw0.out; simp only []; omega))
                          have HJ3 := hide hj3
                          have HJL := hide (And.intro hjl hm3)
                          clear hj3 hy3 hjl hm3
                          go_wp2_with fail
                          refine TK.out.mono ?_
                          rintro e w3 ⟨rfl, hco⟩
                          obtain ⟨F4, hj4'⟩ := HJ3.out.co hco
                          have HJ4 := hide hj4'
                          clear hco hj4' TK
                          go_wp2
                          go_roundw
                          case rel =>
                            refine ⟨j + 1, m3 + 1, F4, _, by have := HJL.out; omega, by go_num, by have := HJL.out; omega, HJ4.out, ?_⟩
                            by_cases h3 : j = 3
                            · refine Or.inr ⟨by omega, .zero, ?_⟩
                              rw [cW_send _ _ _ (by have := HMM.out; have := cw0.out; simp only []; omega) rfl (by simp only []; omega)]
                              congr 2
                              subst h3
                              simp only [Wk.mk.injEq, true_and, and_true]
                              omega
                            · refine Or.inl ⟨by have := HJL.out; omega, ?_⟩
                              rw [cW_tick _ _ _ (by have := HMM.out; have := cw0.out; simp only []; omega) rfl (by simp only []; omega)]
                              rfl
                          case measure => have := HJL.out; simp [intOf]; omega
                        · have j5 : ¬ (j : Int) < 4 := by omega
                          obtain rfl : j = 4 := by omega
                          obtain ⟨x', rfl⟩ : ∃ x', Y3 = cR t1 T ⟨kind, fr, many, rd, k, 4 * (t + 1), true⟩ x' := by
                            rcases hy3 with ⟨h, _⟩ | ⟨_, h⟩
                            · omega
                            · exact h
                          have HJ3 := hide (And.intro hj3 hm3)
                          clear hj3 hy3 hm3
                          go_wp2
                          go_roundw
                          case rel => exact ⟨t + 1, m3, F3, T, x', by have := HMM.out; omega, by go_num, by have := HMM.out; have := HJ3.out.2; omega, HJ3.out.1⟩
                          case measure => have := HMM.out; simp [intOf]; omega
                    · have j4 : ¬ (t : Int) < no := by omega
                      obtain rfl : t = no := by omega
                      have HJT := hide (And.intro hjt hmm)
                      clear hjt hmm ht htn'
                      go_upto_if 183 with fail
                      go_cut [] from 183 to 183 (fun wx => ∃ Bl9, WJ W wx F9 c xb sb mm (cR t1 T ⟨kind, fr, many, rd, k, 4 * t, true⟩ x) xB (some (aB, ⟨kind, fr, many, A3, V3, c3⟩)) Bl9 u14 (rd ++ L) ∧ (kind = 3 → Bl9 = Bl8))
                      case first =>
                        by_cases hk1 : kind = 1
                        · have j6 : ((kind : Int) == 1) = true := by simp; omega
                          have y3 : wr.cell? ⟨aB, 3, none⟩ = some (.slice A3 V3.length c3) := (HJT.out.1.l.ab _ rfl).cell 3
                          have hkV : k < V3.length := by have := HVL.out; have := HK9.out; omega
                          have j7 : (k : Int) < V3.length := by omega
                          obtain ⟨b3, o3, rfl, hb3, hc3⟩ := HOK.out.rd.at_ (by simp only []; omega)
                          have y4 : wr.cell? ⟨b3, o3 + k, none⟩ = some (.int .u8 (V3[k] : Nat)) := (HJT.out.1.b.b.cell (p := ⟨b3, o3 + k, none⟩) hb3).trans (hc3 k _ (by unfold bys; simp [hkV]))
                          have hv255 : V3[k] ≤ 255 := HOK.out.b _ (List.getElem_mem _)
                          obtain ⟨vk, hvk⟩ : ∃ vk, V3[k] = vk := ⟨_, rfl⟩
                          rw [hvk] at y4 hv255
                          have cv : IntKind.i64.wrap (vk : Int) = vk := IntWalk.i64_in _ (by omega)
                          have z9 := HJT.out.1.l.cell (show ati < Bl8.length by have := HJT.out.1.l.len; omega)
                          have fz9 := HJT.out.1.l.bk.frozen ati
                          have HWr := hide (HJT.out.1.write rfl ati vk hv255)
                          have HK1 := hide hk1
                          clear hvk hc3 hk1
                          go_wp2
                          go_meet
                          exact ⟨_, HWr.out, fun h => by have := HK1.out; omega⟩
                        · have j6 : ((kind : Int) == 1) = false := by simp; omega
                          clear hk1
                          go_wp2
                          go_meet
                          exact ⟨Bl8, HJT.out.1, fun _ => rfl⟩
                      case rest =>
                        obtain ⟨Bl9, hj9, hB9⟩ := hcut
                        obtain ⟨wB, rfl⟩ : ∃ x, x = wc := ⟨_, rfl⟩
                        have y0 : wB.cell? ⟨aB, 0, none⟩ = some (.int .i64 kind) := (hj9.l.ab _ rfl).cell 0
                        have HJX := hide (And.intro hj9 hB9)
                        clear hj9 hB9
                        go_upto_if 194 with fail
                        go_cut [] from 194 to 194 (fun wx => ∃ Bl9, WJ W wx F9 c xb sb mm (cR t1 T ⟨kind, fr, many, rd, k, 4 * t, true⟩ x) xB (some (aB, ⟨kind, fr, many, A3, V3, c3⟩)) Bl9 u14 (rd ++ L) ∧ (kind = 3 → Bl9 = Bl8))
                        case first =>
                          by_cases hk2 : kind = 2
                          · have j6 : ((kind : Int) == 2) = true := by simp; omega
                            have z9 := HJX.out.1.l.cell (show ati < Bl9.length by have := HJX.out.1.l.len; omega)
                            have fz9 := HJX.out.1.l.bk.frozen ati
                            have HWr := hide (HJX.out.1.write rfl ati 0 (by omega))
                            have HK2 := hide hk2
                            clear hk2
                            go_wp2
                            go_meet
                            exact ⟨_, HWr.out, fun h => by have := HK2.out; omega⟩
                          · have j6 : ((kind : Int) == 2) = false := by simp; omega
                            clear hk2
                            go_wp2
                            go_meet
                            exact ⟨Bl9, HJX.out.1, HJX.out.2⟩
                        case rest =>
                          obtain ⟨BlC, hjC, hBC⟩ := hcut
                          obtain ⟨wC, rfl⟩ : ∃ x, x = wc := ⟨_, rfl⟩
                          have y0 : wC.cell? ⟨aB, 0, none⟩ = some (.int .i64 kind) := (hjC.l.ab _ rfl).cell 0
                          have HJC := hide (And.intro hjC hBC)
                          clear hjC hBC
                          go_upto_if 199 with fail
                          go_cut [20] from 199 to 199 (fun rv wx => ∃ A cap L', rv = .slice A L'.length cap ∧ WJ W wx F9 c xb sb mm (cR t1 T ⟨kind, fr, many, rd, k, 4 * t, true⟩ x) xB (some (aB, ⟨kind, fr, many, A3, V3, c3⟩)) BlC u14 (rd ++ L) ∧ Rb wx F9 A cap L' ∧ (kind = 3 → L' = val16 (Bl8.getD ati 0)) ∧ (kind ≠ 3 → L' = []))
                          case first =>
                            by_cases hk3 : kind = 3
                            · have j6 : ((kind : Int) == 3) = true := by simp; omega
                              have hfk : ati < BlC.length := by have := HJC.out.1.l.len; omega
                              have z0 := HJC.out.1.l.cell hfk
                              have hv255 := HJC.out.1.l.le _ (List.getElem_mem hfk)
                              obtain ⟨vk, hvk⟩ : ∃ vk, BlC[ati] = vk := ⟨_, rfl⟩
                              have hvd : BlC.getD ati 0 = vk := by rw [← hvk]; simp [List.getD_eq_getElem?_getD, hfk]
                              rw [hvk] at z0 hv255
                              have HVD := hide (And.intro hvd hk3)
                              clear hvk hvd hfk hk3
                              go_wp2_with fail
                              refine (value_calls vk hv255 _).mono ?_
                              rintro e wv ⟨bv, rfl, hbv, hnv, hbv2⟩
                              have HRB : Hid (Rb wv F9 (some ⟨bv, 0, none⟩) 16 (val16 vk)) := hide (hbv.rb (by simp [val16]) (fun hx => by have := HJC.out.1.b.cm.lt _ hx; omega))
                              have HJV := hide (HJC.out.1.below hbv2)
                              clear hbv hnv hbv2
                              go_wp2
                              go_meet
                              exact ⟨some ⟨bv, 0, none⟩, 16, val16 vk, rfl, HJV.out, HRB.out, fun h => by rw [← HJC.out.2 h, HVD.out.1], fun h => absurd HVD.out.2 h⟩
                            · have j6 : ((kind : Int) == 3) = false := by simp; omega
                              have HN3 := hide hk3
                              clear hk3
                              go_wp2
                              go_meet
                              exact ⟨none, 0, [], rfl, HJC.out.1, Rb.nil _ _ 0, fun h => absurd h HN3.out, fun _ => rfl⟩
                          case rest =>
                            obtain ⟨A', cap', L', rfl, hjD, hrb, hL3', hLn'⟩ := hcut
                            obtain rfl : L' = L := by
                              by_cases e : kind = 3
                              · rw [hL3' e, HL.out.1 e]
                              · rw [hLn' e, HL.out.2 e]
                            obtain ⟨wD, rfl⟩ : ∃ x, x = wc := ⟨_, rfl⟩
                            have y0 : wD.cell? ⟨aB, 0, none⟩ = some (.int .i64 kind) := (hjD.l.ab _ rfl).cell 0
                            have AS := asks_calls (k := ⟨kind, fr, many, rd, k, 4 * t, true⟩) (X := cR t1 T ⟨kind, fr, many, rd, k, 4 * t, true⟩ x) (no := 0) (z := 0) hjD.b.cm rfl seen40 HVL.out.2.2.2.2.1 HK9.out (hjD.b.vs.sub (fun z hz => List.mem_append_right _ hz)) rfl rfl HVL.out.1 HVL.out.2.1 (Or.inl ⟨rfl, rfl⟩) hrb (fun _ e => by rw [HL.out.1 e]; rfl) (by by_cases e : kind = 3; (rw [HL.out.1 e]; simp [val16]); (rw [HL.out.2 e]; simp)) (by simp only []; have h3 := HR8.out.2; have := HK9.out; by_cases e : kind = 3; (have := h3.1 e; have := HVL.out; omega); (rw [h3.2 e]; simp)) (by have := HTB.out; have := HJT.out.2; have := cw0.out; omega) (by have := HT1.out; simp only [cR]; omega) (by have := HT1.out; have := HTB.out; have := HLN.out; have := HVL.out; simp only [cR]; omega)
                            rw [show Wk.at_ ⟨kind, fr, many, rd, k, 4 * t, true⟩ = ati from HAT.out, if_pos rfl, cR_out] at AS
                            have AS := hide AS
                            have HJD := hide hjD
                            clear hjD hrb hL3' hLn'
                            go_wp2_with fail
                            refine AS.out.mono ?_
                            rintro e w9 ⟨rfl, hco⟩
                            obtain ⟨FE, hjE⟩ := HJD.out.co hco
                            have HJE := hide hjE
                            clear hco hjE y0 AS
                            have hk20 : k ≤ 20 := by have := HVL.out; have := HK9.out; omega
                            go_wp2
                            go_roundw
                            case rel =>
                              refine ⟨k + 1, mm + 2, t1, FE, _, BlC, rd ++ L', by have := HK9.out; omega, by go_num, rfl, rfl, hide (by have := HT1.out; have := htn.out; omega), by have := HJT.out.2; have := cw0.out; have := HR8.out.1; omega, HJE.out, ?_, fun e => by rw [List.length_append, HR8.out.2.1 e, HL.out.1 e]; simp [val16]; omega, fun e => by rw [HR8.out.2.2 e, HL.out.2 e]; rfl⟩
                              rcases cW_okay t1 T ⟨kind, fr, many, rd, k, 4 * t, true⟩ (mPr (ati / 8)).2 2 L' with ⟨h1, T', h2⟩ | ⟨h1, T', x', h2⟩
                              · exact Or.inr ⟨h1, T', h2⟩
                              · exact Or.inl ⟨by have := HK9.out; simp only [] at h1; omega, T', x', h2⟩
                            case measure => have := HK9.out; simp [intOf]; omega
            · have j1 : ¬ (k : Int) < many := by omega
              obtain rfl : k = many := by omega
              obtain ⟨T9, rfl⟩ : ∃ T, Y = cE tn T rd k := by
                rcases hst with ⟨h, _⟩ | ⟨_, h⟩
                · omega
                · exact h
              have HJ9 := hide hj8
              clear hj8 hst hnn hr3 hrn hb8
              have HTK := hide (ctake_some HJ9.out.b.cm (a := ⟨0, rd, k⟩) rfl)
              go_wp2_with fail
              refine HTK.out.mono ?_
              rintro e w6 ⟨A6, c6, F6, rfl, hr6, hc6, hch6, hf6⟩
              have hj6 : WJ W w6 F6 c xb sb nn (cI tn T9) xB (some (aB, ⟨kind, fr, k, A3, V3, c3⟩)) Bl8 u14 rd := HJ9.out.step hc6 hch6 (fun z hz => Or.inl (hf6 z hz))
              obtain ⟨Aw, cw, rfl, hle, hml, hown, hnone, hrdw⟩ := own_view hj6.l.row
              obtain ⟨w7, hw7⟩ : ∃ w7, w6.alloc (.cells #[.int .i64 0, .slice A6 rd.length c6, .int .i64 k] 45) = w7 := ⟨_, rfl⟩
              obtain ⟨ab, hab⟩ : ∃ ab, w6.heap.size = ab := ⟨_, rfl⟩
              have hb67 : Below w6.heap.size w6 w7 := hw7 ▸ belowL (Below.refl _ _) _
              have hA7 : Blk w7 ab 45 [.int .i64 0, .slice A6 rd.length c6, .int .i64 k] := by rw [← hw7, ← hab]; exact Blk.new rfl
              have hj7 := hj6.below hb67
              have z0 : w7.cell? ⟨ab, 0, none⟩ = some (.int .i64 0) := hA7.cell 0
              have z1 : w7.cell? ⟨ab, 1, none⟩ = some (.slice A6 rd.length c6) := hA7.cell 1
              have z2 : w7.cell? ⟨ab, 2, none⟩ = some (.int .i64 k) := hA7.cell 2
              have y2 : w7.cell? ⟨aB, 2, none⟩ = some (.int .i64 k) := (hj7.l.ab _ rfl).cell 2
              have hlr : rd.length ≤ 100000 := by by_cases e : kind = 3; (have := HR8.out.2.1 e; have := HVL.out; omega); (rw [HR8.out.2.2 e]; simp)
              have HSA := hide (sameBytes_calls rd rd A6 Aw c6 cw w7 (hr6.below hb67).rd (by have h3 := own_view hj7.l.row; obtain ⟨A9, c9, e9, _, _, _, _, h9⟩ := h3; cases e9; exact h9 _ (fun g hg => own_lt hj7.l.row hg)) (by omega) (by omega))
              have HJ7' := hide hj7
              have HWW := hide (And.intro hw7 hab)
              clear hr6 hc6 hch6 hf6 hj6 hle hml hown hnone hrdw hw7 hab hb67 hA7 hj7 HTK y0 y1
              go_upto_region 53 with fail
              rw [HWW.out.2, HWW.out.1]
              go_wp2_with fail
              refine HSA.out.mono ?_
              rintro e w8 ⟨rfl, q8, rfl⟩
              have HJ8' := hide (HJ7'.out.below (below_drewN (Below.refl _ _) q8))
              simp only [decide_true]
              go_wp2_with fail
              refine (cnum_calls HJ8'.out.b.cm).mono ?_
              rintro e w9 ⟨rfl, rfl⟩
              simp only [cI]
              have hi12 : i ≤ 12 := by have := HLN.out; omega
              go_wp2
              go_roundw
              case rel =>
                have HK2 := HTB.out
                exact ⟨i + 1, tn, F6, T9, Bl8, by omega, by go_num, rfl, rfl, by have := htn.out; have := HI.out.2; have := HVL.out; omega, HJ8'.out.drop.mono (by have := HR8.out.1; have := HVL.out; omega)⟩
              case measure => simp [intOf]; omega
      · skip
        have i1 : ¬ (i : Int) < L1.length := by omega
        have HTK := hide (ctake_none hj.b.cm rfl)
        have HBW := hide hj.b
        clear hj
        go_wp2_with fail
        refine HTK.out.mono ?_
        rintro e w9 ⟨rfl, hb9⟩
        have HB9 := hide (HBW.out.below hb9)
        clear hb9 HTK
        go_wp2_with fail
        refine (cout_calls (HB9.out.below (by first | exact Below.refl _ _ | exact belowL (Below.refl _ _) _)).cm).mono ?_
        rintro e w10 ⟨A, cap, P, F1, rfl, hP, hps, hcap, hc1, hch1, hf1⟩
        have hP0 : P = [] := by simpa [cI] using hP
        subst hP0
        have HB10 := hide (Chg.onto HB9.out.b HB9.out.b.size (show Chg F w9 w10 from (Chg.of_below (L := F) (by first | exact Below.refl _ _ | exact belowL (Below.refl _ _) _)).trans hch1 (fun z hz => Or.inl hz)) HB9.out.nf)
        simp only [List.length_nil]
        clear hP hps hcap hc1 hch1 hf1
        go_wp2_with fail
        refine (awake27_calls _).mono ?_
        rintro e w11 ⟨rfl, hb11⟩
        have HBA := hide (HB10.out.trans (hb11.mono HB10.out.size))
        clear hb11
        go_wp2
        go_ret
        exact ⟨rfl, HBA.out⟩
end Go.Proofs.YtanfdnpnkdiiiaaGreat
