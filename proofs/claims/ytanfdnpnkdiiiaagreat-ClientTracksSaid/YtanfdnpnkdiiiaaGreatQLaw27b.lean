/- One text of: Law27b. -/
import Derived.Test.YtanfdnpnkdiiiaaGreatQAwk
import Derived.Test.YtanfdnpnkdiiiaaGreatQLoc
import Derived.Test.YtanfdnpnkdiiiaaGreatQOpen
namespace Go.Proofs.YtanfdnpnkdiiiaaGreat
open Go.ChangeShapes Go.WideShapes Go.ChangeAt Go.RowKit Go.Maps Go.Joins Go.Deep
set_option linter.unusedVariables false
set_option linter.unusedSimpArgs false

section
variable {H : Type} {enc : TypeId × Value → H} {P : Program} {w : World} {base b0 : Nat} {spare : Nat → Bool} {held : Bool}
theorem trod_bool_inv {t : TypeId} {fuel : Nat} {cs : List Value} {x : DataW H × List MemPlace} (ht : P.underlying t = some .bool) (h : DataW.trod enc P w base spare held fuel t cs = some x) : ∃ b, cs = [.bool b] := by
  cases fuel with
  | zero => simp [DataW.trod] at h
  | succ n =>
    unfold DataW.trod at h
    simp only [ht] at h
    split at h <;> simp_all
/-- a slice of bools -/
theorem open_boolsR {r : Reach} {t e : TypeId} {v : Value} {d : DataW H} {ps : List MemPlace} (ht : P.underlying t = some (.slice e)) (he : P.underlying e = some .bool) (hC : P.cellsOf e = 1)
    (hv : Value.okWide P w r b0 t v) (h : DataW.Trod enc P w base spare held t v d ps) :
    ∃ (A : Option Addr) (c : Nat) (xs : List Bool), v = .slice A xs.length c ∧ xs.length ≤ c ∧ c ≤ maxLen ∧ Reads w w.heap.size 1 A xs.length (xs.map Value.bool) := by
  obtain ⟨A, n, c, rfl⟩ := okWide_slice ht hv
  obtain ⟨fuel, hf⟩ := h
  rcases open_slice ht hf with ⟨h0, _⟩ | ⟨a, len, cap, m, k, D, Pl, hcs, hb, hl, hm, hmm, hx, hi⟩
  · have e0 : A = none ∧ n = 0 ∧ c = 0 := by simpa [Value.cells] using h0
    obtain ⟨rfl, rfl, rfl⟩ := e0
    exact ⟨none, 0, [], rfl, Nat.le_refl _, by unfold maxLen; omega, Reads.none_⟩
  · have e0 : A = some a ∧ n = len ∧ c = cap := by simpa [Value.cells] using hcs
    obtain ⟨rfl, rfl, rfl⟩ := e0
    have hnm : n ≤ m := by rw [hmm]; split <;> omega
    have hall : ∀ i, i < n → ∃ b : Bool, w.cell? (a.add i) = some (.bool b) := by
      intro i hin
      obtain ⟨cs', hc, ht'⟩ := hi i (by omega)
      obtain ⟨b, rfl⟩ := trod_bool_inv he ht'
      rw [hC] at hc
      obtain ⟨_, hcl, hat⟩ := World.cells?_some hc
      have := hat 0 (by omega)
      refine ⟨b, ?_⟩
      rw [Nat.mul_one] at this
      simpa [Addr.add] using this
    obtain ⟨g, hg⟩ := choose_lt hall
    have hln : ((List.range n).map g).length = n := by simp
    refine ⟨some a, c, (List.range n).map g, by rw [hln], by rw [hln]; exact hl, hm, ?_⟩
    rw [hln]
    refine ⟨by simp, fun hn => ?_⟩
    obtain ⟨b, o, spot⟩ := a
    have h00 := hg 0 hn
    have hspot : spot = none := by simpa [Addr.add] using World.cell?_spot h00
    subst hspot
    refine ⟨b, o, rfl, ?_, fun j u hu => ?_⟩
    · have := World.block_lt_of_cell? w _ h00
      simpa [Addr.add] using this
    · have hj : j < n := by
        have := (List.getElem?_eq_some_iff.1 hu).1
        simpa using this
      rw [← Go.WideShapes.add_plain, hg j hj]
      simpa [hj] using hu
end

/-- the client between two reads: i reads were made, T is its tracker -/
def cT (i : Nat) (T : Trk) : Cl := ⟨3, i, T, none, none, []⟩
def wT (q : Nat) (r : List Nat) (d : Nat) : Wk := ⟨3, 8 * q, 1, r, d, 0, true⟩
theorem cT_begin (i q : Nat) (hq : q < 2) (T : Trk) : (cT i T).begin mPr 3 (8 * q) 1 = ⟨3, i + 1, T.beg q, some (wT q [] 0), none, [⟨40 + (q : Int), [((q + 1 : Nat) : Int), 3, ((i + 1 : Nat) : Int), 3, 0, 4, (T.delta q).d, (T.delta q).r], 0⟩]⟩ := by
  have h1 : 8 * q / 8 = q := by omega
  have h2 : q % 2 = q := by omega
  have h3 : 8 * q % 8 = 0 := by omega
  simp [Cl.begin, Cl.next, Cl.send, Wk.at_, Wk.post, mPr, cT, wT, h1, h2, h3]
theorem cT_okay (i q : Nat) (T : Trk) (p : Int) (L : List Nat) : (⟨3, i + 1, T, some (wT q [] 0), none, []⟩ : Cl).okay mPr (wT q [] 0) q p L = ⟨3, i + 1, T.fin q p, none, some ⟨0, L, 1⟩, []⟩ := by
  simp [Cl.okay, Cl.next, Cl.end_, wT]
theorem delta_step (T : Trk) (q r : Int) (hne : r ≠ q) (p : Int) (hp : p = 1 ∨ p = 2) : ((T.beg q).fin q p).delta q = ⟨0, 0⟩ ∧ ((T.beg q).fin q p).delta r = ⟨(T.delta r).d + 1, (T.delta r).r + if p = 1 then 1 else 0⟩ := by
  rcases hp with rfl | rfl
  · constructor <;> simp [Trk.delta, Trk.now, Trk.beg, Trk.fin, upC, Cnt.less, Cnt.more, hne] <;> omega
  · constructor <;> simp [Trk.delta, Trk.now, Trk.beg, Trk.fin, upC, Cnt.less, Cnt.more, hne] <;> omega
/-- what the law's two rows hold, and what the tracker tells -/
structure Tr2 (T : Trk) (a0 a1 r0 r1 : Int) (i : Nat) : Prop where
  d0 : T.delta 0 = ⟨a0, r0⟩
  d1 : T.delta 1 = ⟨a1, r1⟩
  b : 0 ≤ a0 ∧ a0 ≤ i ∧ 0 ≤ a1 ∧ a1 ≤ i ∧ 0 ≤ r0 ∧ r0 ≤ i ∧ 0 ≤ r1 ∧ r1 ≤ i
theorem Tr2.start : Tr2 .zero 0 0 0 0 0 := ⟨Trk.zero_delta 0, Trk.zero_delta 1, by omega⟩
theorem Tr2.at0 {T : Trk} {a0 a1 r0 r1 : Int} {i : Nat} (h : Tr2 T a0 a1 r0 r1 i) {p : Int} (hp : p = 1 ∨ p = 2) : Tr2 ((T.beg 0).fin 0 p) 0 (a1 + 1) 0 (r1 + if p = 1 then 1 else 0) (i + 1) := by
  have h1 := delta_step T 0 1 (by omega) p hp
  refine ⟨h1.1, by rw [h1.2, h.d1], ?_⟩
  have := h.b
  split <;> omega
theorem Tr2.at1 {T : Trk} {a0 a1 r0 r1 : Int} {i : Nat} (h : Tr2 T a0 a1 r0 r1 i) {p : Int} (hp : p = 1 ∨ p = 2) : Tr2 ((T.beg 1).fin 1 p) (a0 + 1) 0 (r0 + if p = 1 then 1 else 0) 0 (i + 1) := by
  have h1 := delta_step T 1 0 (by omega) p hp
  refine ⟨by rw [h1.2, h.d0], h1.1, ?_⟩
  have := h.b
  split <;> omega
set_option maxHeartbeats 16000000 in
set_option maxRecDepth 100000 in
/-- THE WALK of ClientTracks: whatever comes in, it answers true, and nothing that was there turns. -/
theorem clientTracks_walk {H : Type} {enc : TypeId × Value → H} (W : World) (base : Nat) (v0 v1 : Value) (d0 d1 : DataW H) (p0 p1 : List MemPlace)
    (ok0 : Value.okWide Tryz.prog W .any base 22 v0) (h0 : DataW.Trod enc Tryz.prog W 0 (fun _ => true) true 22 v0 d0 p0)
    (ok1 : Value.okWide Tryz.prog W .any base 23 v1) (h1 : DataW.Trod enc Tryz.prog W 0 (fun _ => true) true 23 v1 d1 p1) :
    Calls Tryz.prog 3 #[v0, v1] W fun e w' => e = .returned (.bool true) ∧ Below W.heap.size W w' := by
  obtain ⟨A1, c1, L1, rfl, l1, m1, R1⟩ := open_boolsR Tryz.underlying22 Tryz.underlying4 (by kernel_rfl) ok0 h0
  obtain ⟨A2, c2, L2, rfl, l2, m2, F2, R2⟩ := open_intsR Tryz.underlying23 Tryz.underlying5 (by kernel_rfl) ok1 h1
  clear ok0 h0 ok1 h1
  by_cases hbad : 30 < L1.length ∨ L2.length < L1.length
  · by_cases h30 : 30 < L1.length
    · have q1 : (30 : Int) < L1.length := by omega
      go_enter Tryz.func3, Tryz.ntmps3
      go_wp2_with fail
      refine (awake27_calls _).mono ?_
      rintro e w9 ⟨rfl, hb9⟩
      have HBA := hide hb9
      clear hb9
      go_wp2
      go_ret
      exact ⟨rfl, HBA.out⟩
    · have q1 : ¬ (30 : Int) < L1.length := by omega
      have q2 : (L2.length : Int) < L1.length := by omega
      go_enter Tryz.func3, Tryz.ntmps3
      go_wp2_with fail
      refine (awake27_calls _).mono ?_
      rintro e w9 ⟨rfl, hb9⟩
      have HBA := hide hb9
      clear hb9
      go_wp2
      go_ret
      exact ⟨rfl, HBA.out⟩
  · have q1 : ¬ (30 : Int) < L1.length := by omega
    have q2 : ¬ (L2.length : Int) < L1.length := by omega
    have HLN : Hid (L1.length ≤ 30 ∧ L1.length ≤ L2.length) := hide (by omega)
    have HR := hide (And.intro R1 (And.intro R2 F2))
    clear hbad R1 R2 F2 l1 l2
    go_enter Tryz.func3, Tryz.ntmps3
    go_wp2_with fail
    refine (cnew_calls 3 (by omega) mPr _).mono ?_
    rintro e w1 ⟨c, F, mt, rfl, rfl, hg1, hc1, hb1, hf1⟩
    have HB1 := hide hb1
    have HC1 := hide (And.intro hg1 (And.intro hc1 hf1))
    clear hb1 hg1 hc1 hf1 q1 q2
    go_wp2_with fail
    refine (made_calls [c, mt] w1 HC1.out.2.1.lt 16 2 mS_16 (by omega)).mono ?_
    rintro e w2 ⟨sb, rfl, hv2, hser, hb2, hsb⟩
    have HB2 := hide (HB1.out.trans (hb2.mono HB1.out.size))
    have HC2 := hide (And.intro (HC1.out.1.below hb2) (And.intro (HC1.out.2.1.below hb2) (And.intro hv2 hser)))
    clear hb2 hv2 hser hsb
    have HVW := hide (cview_calls HC2.out.2.1 rfl HC2.out.1 HC2.out.2.2.1.vs (by omega) HC2.out.2.2.2 (by simp [mS]) (by simp [mS]) (by simp [mS, mCk, List.range, List.range.loop]))
    go_wp2_with fail
    refine HVW.out.mono ?_
    rintro e w4 ⟨rfl, xb, hc4, hch4⟩
    have HCF := hide HC1.out.2.2
    have hb4 : Below W.heap.size W w4 := Chg.onto HB2.out HB2.out.size hch4 (fun z hz => by rw [List.mem_singleton.1 hz]; exact HCF.out c (by simp))
    have HB4 := hide hb4
    have HC4 := hide (show CM w4 [c, mt] c (some (xb, mS 16 2)) mPr 0 (cT 0 .zero) from hc4)
    clear hc4 hch4 hb4 HVW
    go_upto_region 8 with fail
    obtain ⟨xa, hxa⟩ : ∃ xa, w4.heap.size = xa := ⟨_, rfl⟩
    obtain ⟨xr, hxr⟩ : ∃ xr, w4.heap.size + 1 = xr := ⟨_, rfl⟩
    obtain ⟨w5, hw5⟩ : ∃ w5, (w4.alloc (.cells #[.int .i64 0, .int .i64 0] 30)).alloc (.cells #[.int .i64 0, .int .i64 0] 30) = w5 := ⟨_, rfl⟩
    have hb45 : Below w4.heap.size w4 w5 := hw5 ▸ belowL (belowL (Below.refl _ _) _) _
    have hA5 : Blk w5 xa 30 [.int .i64 0, .int .i64 0] := by rw [← hw5, ← hxa]; exact (Blk.new rfl).alloc _
    have hR5 : Blk w5 xr 30 [.int .i64 0, .int .i64 0] := by rw [← hw5, ← hxr]; exact Blk.new (by simp)
    have hlt4 := HC4.out.lt
    have HS5 := hide (And.intro (HC4.out.below hb45) (And.intro hA5 (And.intro hR5 (And.intro (HB4.out.trans (hb45.mono HB4.out.size)) (And.intro (show xa ∉ [c, mt] ∧ xr ∉ [c, mt] from ⟨fun hx => by have := hlt4 _ hx; omega, fun hx => by have := hlt4 _ hx; omega⟩) (show VF ([xa, xr] ++ [c, mt]) w5 xb (mS 16 2) from HC4.out.vf.grow (L := []) (Chg.of_below hb45) (by simp) (fun z hz => by
      rcases List.mem_append.1 hz with hz | hz
      · simp only [List.mem_cons, List.not_mem_nil, or_false] at hz
        have h3 := hA5.lt
        have h4 := hR5.lt
        rcases hz with rfl | rfl
        · exact ⟨Or.inr (by omega), h3⟩
        · exact ⟨Or.inr (by omega), h4⟩
      · exact ⟨Or.inl hz, Nat.lt_of_lt_of_le (hlt4 z hz) hb45.size⟩)))))))
    have HXX : Hid (xa ≠ xr ∧ W.heap.size ≤ xa ∧ W.heap.size ≤ xr) := hide ⟨by omega, by have := HB4.out.size; omega, by have := HB4.out.size; omega⟩
    rw [hxr, hxa, hw5]
    clear hxa hxr hw5 hb45 hA5 hR5 hlt4
    go_wp2
    go_loopw [9, 10, 11, 12, 13, 14, 15, 38, 39, 40, 41, 42, 43, 44, 45, 46, 47, 48, 49, 50, 51, 52, 53, 54, 55, 56, 57, 58, 59, 60, 61, 62, 63, 64, 65, 66, 67, 68, 69, 70, 71, 72, 73, 74, 75, 76, 77, 78, 79, 80, 81, 82, 83, 84, 85, 86, 87, 88, 89, 90, 91, 92, 93, 94, 95, 96, 97, 98, 99, 100, 101, 102, 103, 104, 105, 106, 107, 108, 109, 110, 111, 112, 113, 114, 115, 116, 117, 118, 119, 120, 121, 122, 123, 124, 125, 126, 127, 128, 129, 130, 131, 132, 133, 134, 135, 136, 137, 138, 139] (fun v _ _ _ _ _ _ _ _ _ _ _ _ _ _ _ _ _ _ _ _ _ _ _ _ _ _ _ _ _ _ _ _ _ _ _ _ _ _ _ _ _ _ _ _ _ _ _ _ _ _ _ _ _ _ _ _ _ _ _ _ _ _ _ _ _ _ _ _ _ _ _ _ _ _ _ _ _ _ _ _ _ _ _ _ _ _ _ _ _ _ _ _ _ _ _ _ _ _ _ _ _ _ _ _ _ _ _ _ wr => ∃ (i : Nat) (F : List Nat) (T : Trk) (a0 a1 r0 r1 : Int), i ≤ L1.length ∧ v = .int .i64 i ∧ CM wr F c (some (xb, mS 16 2)) mPr (3 * i) (cT i T) ∧ Tr2 T a0 a1 r0 r1 i ∧ Blk wr xa 30 [.int .i64 a0, .int .i64 a1] ∧ Blk wr xr 30 [.int .i64 r0, .int .i64 r1] ∧ Below W.heap.size W wr ∧ (∀ z ∈ F, W.heap.size ≤ z) ∧ xa ∉ F ∧ xr ∉ F ∧ VF ([xa, xr] ++ F) wr xb (mS 16 2)) (fun v _ _ _ _ _ _ _ _ _ _ _ _ _ _ _ _ _ _ _ _ _ _ _ _ _ _ _ _ _ _ _ _ _ _ _ _ _ _ _ _ _ _ _ _ _ _ _ _ _ _ _ _ _ _ _ _ _ _ _ _ _ _ _ _ _ _ _ _ _ _ _ _ _ _ _ _ _ _ _ _ _ _ _ _ _ _ _ _ _ _ _ _ _ _ _ _ _ _ _ _ _ _ _ _ _ _ _ _ _ => L1.length - (intOf v).toNat)
    case atStart => exact ⟨0, [c, mt], .zero, 0, 0, 0, 0, Nat.zero_le _, rfl, HS5.out.1, Tr2.start, HS5.out.2.1, HS5.out.2.2.1, HS5.out.2.2.2.1, HCF.out, HS5.out.2.2.2.2.1.1, HS5.out.2.2.2.2.1.2, HS5.out.2.2.2.2.2⟩
    case round =>
      obtain ⟨i, F, T, a0, a1, r0, r1, hi, rfl, hc, htr, hxa, hxr, hb, hF, hnA, hnR, hvf⟩ := hrel
      have HI := hide (And.intro hc (And.intro htr (And.intro hxa (And.intro hxr (And.intro hb (And.intro hF (And.intro hnA (And.intro hnR hvf))))))))
      by_cases hlt : i < L1.length
      · have i1 : (i : Int) < L1.length := by omega
        obtain ⟨b1, o1, rfl, hb1, hc1⟩ := HR.out.1.at_ (by omega)
        obtain ⟨b2, o2, rfl, hb2, hc2⟩ := HR.out.2.1.at_ (by have := HLN.out; omega)
        have g1 : ∀ w', Below W.heap.size W w' → w'.cell? ⟨b1, o1 + i, none⟩ = some (.bool L1[i]) := fun w' h => (h.cell (p := ⟨b1, o1 + i, none⟩) hb1).trans (hc1 i _ (by simp [hlt]))
        have hl2 : i < L2.length := by have := HLN.out; omega
        have g2 : ∀ w', Below W.heap.size W w' → w'.cell? ⟨b2, o2 + i, none⟩ = some (.int .u8 L2[i]) := fun w' h => (h.cell (p := ⟨b2, o2 + i, none⟩) hb2).trans (hc2 i _ (by simp [hl2]))
        obtain ⟨lb, hlb⟩ : ∃ lb, L1[i] = lb := ⟨_, rfl⟩
        obtain ⟨ph, hph⟩ : ∃ ph, L2[i] = ph := ⟨_, rfl⟩
        have hpb := bounds_u8 (HR.out.2.2 L2[i] (List.getElem_mem _))
        rw [hlb] at g1
        rw [hph] at g2 hpb
        have g1' := g1 wr hb
        have HG2 := hide g2
        clear hc1 hc2 hlb hph g1 g2 hc htr hxa hxr hb hF hnA hnR hvf
        cases lb with
        | false =>
          go_upto_region 14 with fail
          have HBG := hide (cbegin_calls (X := cT i T) HI.out.1 rfl rfl (mPr_seen 16 2 (by omega) (by omega)) 3 (8 * 0) 1 (by omega) (by omega) (by omega) (by omega) (A := none) (cap := 0) (L := []) (Rb.nil _ _ _) (by omega) (by simp) (by have := HLN.out; omega) (by have := HLN.out; simp [cT]; omega) (by simp [cT]))
          rw [cT_begin i 0 (by omega) T] at HBG
          go_wp2_with fail
          refine HBG.out.mono ?_
          rintro e w6 ⟨rfl, F6, hc6, hch6, hf6⟩
          have HOU := hide (cout_calls hc6)
          have hA6 := HI.out.2.2.1.chg hch6 HI.out.2.2.2.2.2.2.1
          have hR6 := HI.out.2.2.2.1.chg hch6 HI.out.2.2.2.2.2.2.2.1
          have hnA6 := notin_step HI.out.2.2.2.2.2.2.1 HI.out.2.2.1.lt hf6
          have hnR6 := notin_step HI.out.2.2.2.2.2.2.2.1 HI.out.2.2.2.1.lt hf6
          have hb6 : Below W.heap.size W w6 := Chg.onto HI.out.2.2.2.2.1 HI.out.2.2.2.2.1.size hch6 HI.out.2.2.2.2.2.1
          have hF6 : ∀ z ∈ F6, W.heap.size ≤ z := fun z hz => (hf6 z hz).elim (HI.out.2.2.2.2.2.1 z) (fun h3 => Nat.le_trans HI.out.2.2.2.2.1.size h3)
          have hv6 : VF ([xa, xr] ++ F6) w6 xb (mS 16 2) := HI.out.2.2.2.2.2.2.2.2.step hch6 hf6 hc6.lt (fun g hg => by
            simp only [List.mem_cons, List.not_mem_nil, or_false] at hg
            rcases hg with rfl | rfl
            · exact hA6.lt
            · exact hR6.lt)
          have H6 := hide (And.intro hA6 (And.intro hR6 (And.intro hnA6 (And.intro hnR6 (And.intro hb6 (And.intro hF6 hv6))))))
          clear hc6 hch6 hf6 hA6 hR6 hnA6 hnR6 hb6 hF6 hv6 HBG
          go_wp2_with fail
          refine HOU.out.mono ?_
          rintro e w7 ⟨A7, cap7, P7, F7, rfl, hP7, hps7, hcap7, hc7, hch7, hf7⟩
          (try simp only [] at hP7)
          obtain ⟨b, o, nb, Bm, cm, rfl, hl, hbl, hbF, e0, e1, e2, e3, e4, hN, hnF⟩ := hps7.one hP7
          rw [hl]
          have hA7 := H6.out.1.chg hch7 H6.out.2.2.1
          have hR7 := H6.out.2.1.chg hch7 H6.out.2.2.2.1
          have hb7 : Below W.heap.size W w7 := Chg.onto H6.out.2.2.2.2.1 H6.out.2.2.2.2.1.size hch7 H6.out.2.2.2.2.2.1
          have hv7 : VF ([xa, xr] ++ F7) w7 xb (mS 16 2) := H6.out.2.2.2.2.2.2.step hch7 (fun z hz => Or.inl (hf7 z hz)) hc7.lt (fun g hg => by
            simp only [List.mem_cons, List.not_mem_nil, or_false] at hg
            rcases hg with rfl | rfl
            · exact hA7.lt
            · exact hR7.lt)
          have r7 := Below.refl w7.heap.size w7
          have e0' : ∀ w', Below w7.heap.size w7 w' → w'.cell? ⟨b, o, none⟩ = some (.int .i64 (40 + 0)) := fun w' hb => (hb.cell (p := ⟨b, o, none⟩) hbl).trans e0
          have e2' : ∀ w', Below w7.heap.size w7 w' → w'.cell? ⟨b, o + 2, none⟩ = some (.slice (some ⟨nb, 0, none⟩) 8 8) := fun w' hb => (hb.cell (p := ⟨b, o + 2, none⟩) hbl).trans e2
          have hdl : T.delta ((0 : Nat) : Int) = ⟨a0, r0⟩ := HI.out.2.1.d0
          have n6 : ∀ w', Below w7.heap.size w7 w' → w'.cell? ⟨nb, 6, none⟩ = some (.int .i64 a0) := fun w' hb => by rw [hN.rule 6 _ rfl w' hb, hdl]
          have n7 : ∀ w', Below w7.heap.size w7 w' → w'.cell? ⟨nb, 7, none⟩ = some (.int .i64 r0) := fun w' hb => by rw [hN.rule 7 _ rfl w' hb, hdl]
          have x0 : ∀ w', Below w7.heap.size w7 w' → w'.cell? ⟨xa, 0, none⟩ = some (.int .i64 a0) := hA7.rule 0 _ rfl
          have y0 : ∀ w', Below w7.heap.size w7 w' → w'.cell? ⟨xr, 0, none⟩ = some (.int .i64 r0) := hR7.rule 0 _ rfl
          have hbx : b ≠ xa := fun e => by
            have h3 := hA7.cell (o + 2)
            rw [← e, e2] at h3
            simp at h3
          have hbr : b ≠ xr := fun e => by
            have h3 := hR7.cell (o + 2)
            rw [← e, e2] at h3
            simp at h3
          have HC7 := hide (show CM w7 F7 c (some (xb, mS 16 2)) mPr (3 * i + 1) ⟨3, i + 1, T.beg 0, some (wT 0 [] 0), none, []⟩ from hc7)
          have H7 := hide (And.intro hA7 (And.intro hR7 (And.intro (fun hx => H6.out.2.2.1 (hf7 _ hx)) (And.intro (fun hx => H6.out.2.2.2.1 (hf7 _ hx)) (And.intro hb7 (And.intro (fun z (hz : z ∈ F7) => H6.out.2.2.2.2.2.1 z (hf7 z hz)) (And.intro hv7 (And.intro hbl (And.intro e0 (And.intro hbx hbr))))))))))
          clear hbx hbr hP7 hps7 hcap7 hc7 hch7 hf7 hA7 hR7 hb7 hv7 hbF e0 e1 e2 e3 e4 hN hnF hdl HOU g1'
          go_upto_region 17 with fail
          refine region_q (fun w' => Below w7.heap.size w7 w') (by kernel_rfl) (by kernel_rfl) (by (exact r7.drew)) ?_
          (refine wq_step (fun K hK => ?_); apply q_take (by rfl); (focus (intro w hw; (try dsimp only at hw); go_simp; (try with_reducible rfl); done)); simp only [Act.put, List.setIfInBounds_toArray, List.set_cons_zero, List.set_cons_succ]; refine hK _ ?_; clear hK K)
          (refine wq_step (fun K hK => ?_); apply q_take (by rfl); (focus (intro w hw; (try dsimp only at hw); go_simp; (try with_reducible rfl); done)); simp only [Act.put, List.setIfInBounds_toArray, List.set_cons_zero, List.set_cons_succ]; refine hK _ ?_; clear hK K)
          (refine wq_step (fun K hK => ?_); apply q_take (by rfl); (focus (intro w hw; (try dsimp only at hw); go_simp; (try with_reducible rfl); done)); simp only [Act.put, List.setIfInBounds_toArray, List.set_cons_zero, List.set_cons_succ]; refine hK _ ?_; clear hK K)
          (refine wq_step (fun K hK => ?_); apply q_take (by rfl); (focus (intro w hw; (try dsimp only at hw); go_simp; (try with_reducible rfl); done)); simp only [Act.put, List.setIfInBounds_toArray, List.set_cons_zero, List.set_cons_succ]; refine hK _ ?_; clear hK K)
          (refine wq_step (fun K hK => ?_); apply q_take (by kernel_rfl); (focus (intro w hw; (try dsimp only at hw); go_simp; (try with_reducible rfl); done)); simp only [Act.put, List.setIfInBounds_toArray, List.set_cons_zero, List.set_cons_succ]; refine hK _ ?_; clear hK K)
          (refine wq_step (fun K hK => ?_); apply q_take (by kernel_rfl); (focus (intro w hw; (try dsimp only at hw); go_simp; (try with_reducible rfl); done)); simp only [Act.put, List.setIfInBounds_toArray, List.set_cons_zero, List.set_cons_succ]; refine hK _ ?_; clear hK K)
          (refine wq_step (fun K hK => ?_); apply q_take (by kernel_rfl); (focus (intro w hw; (try dsimp only at hw); go_simp; (try with_reducible rfl); done)); simp only [Act.put, List.setIfInBounds_toArray, List.set_cons_zero, List.set_cons_succ]; refine hK _ ?_; clear hK K)
          (refine wq_step (fun K hK => ?_); apply q_take (by kernel_rfl); (focus (intro w hw; (try dsimp only at hw); go_simp; (try with_reducible rfl); done)); simp only [Act.put, List.setIfInBounds_toArray, List.set_cons_zero, List.set_cons_succ]; refine hK _ ?_; clear hK K)
          (refine wq_step (fun K hK => ?_); apply q_take (by kernel_rfl); (focus (intro w hw; (try dsimp only at hw); go_simp; (try with_reducible rfl); done)); simp only [Act.put, List.setIfInBounds_toArray, List.set_cons_zero, List.set_cons_succ]; refine hK _ ?_; clear hK K)
          (refine wq_step (fun K hK => ?_); apply q_take (by kernel_rfl); (focus (intro w hw; (try dsimp only at hw); go_simp; (try with_reducible rfl); done)); simp only [Act.put, List.setIfInBounds_toArray, List.set_cons_zero, List.set_cons_succ]; refine hK _ ?_; clear hK K)
          (refine wq_step (fun K hK => ?_); apply q_take (by kernel_rfl); (focus (intro w hw; (try dsimp only at hw); go_simp; (try with_reducible rfl); done)); simp only [Act.put, List.setIfInBounds_toArray, List.set_cons_zero, List.set_cons_succ]; refine hK _ ?_; clear hK K)
          (refine wq_step (fun K hK => ?_); apply q_take (by rfl); (focus (intro w hw; (try dsimp only at hw); go_simp; (try with_reducible rfl); done)); simp only [Act.put, List.setIfInBounds_toArray, List.set_cons_zero, List.set_cons_succ]; refine hK _ ?_; clear hK K)
          (refine wq_step (fun K hK => ?_); apply q_take (by rfl); (focus (intro w hw; (try dsimp only at hw); go_simp; (try with_reducible rfl); done)); simp only [Act.put, List.setIfInBounds_toArray, List.set_cons_zero, List.set_cons_succ]; refine hK _ ?_; clear hK K)
          (refine wq_step (fun K hK => ?_); apply q_take (by kernel_rfl); (focus (intro w hw; (try dsimp only at hw); go_simp; (try with_reducible rfl); done)); simp only [Act.put, List.setIfInBounds_toArray, List.set_cons_zero, List.set_cons_succ]; refine hK _ ?_; clear hK K)
          (refine wq_step (fun K hK => ?_); apply q_take (by kernel_rfl); (focus (intro w hw; (try dsimp only at hw); go_simp; (try with_reducible rfl); done)); simp only [Act.put, List.setIfInBounds_toArray, List.set_cons_zero, List.set_cons_succ]; refine hK _ ?_; clear hK K)
          (refine wq_step (fun K hK => ?_); apply q_take (by kernel_rfl); (focus (intro w hw; (try dsimp only at hw); go_simp; (try with_reducible rfl); done)); simp only [Act.put, List.setIfInBounds_toArray, List.set_cons_zero, List.set_cons_succ]; refine hK _ ?_; clear hK K)
          (refine wq_step (fun K hK => ?_); apply q_take (by kernel_rfl); (focus (intro w hw; (try dsimp only at hw); go_simp; (try with_reducible rfl); done)); simp only [Act.put, List.setIfInBounds_toArray, List.set_cons_zero, List.set_cons_succ]; refine hK _ ?_; clear hK K)
          (refine wq_step (fun K hK => ?_); apply q_take (by kernel_rfl); (focus (intro w hw; (try dsimp only at hw); go_simp; (try with_reducible rfl); done)); simp only [Act.put, List.setIfInBounds_toArray, List.set_cons_zero, List.set_cons_succ]; refine hK _ ?_; clear hK K)
          (refine wq_step (fun K hK => ?_); apply q_take (by kernel_rfl); (focus (intro w hw; (try dsimp only at hw); go_simp; (try with_reducible rfl); done)); simp only [Act.put, List.setIfInBounds_toArray, List.set_cons_zero, List.set_cons_succ]; refine hK _ ?_; clear hK K)
          (refine wq_step (fun K hK => ?_); apply q_take (by kernel_rfl); (focus (intro w hw; (try dsimp only at hw); go_simp; (try with_reducible rfl); done)); simp only [Act.put, List.setIfInBounds_toArray, List.set_cons_zero, List.set_cons_succ]; refine hK _ ?_; clear hK K)
          (refine wq_step (fun K hK => ?_); apply q_take (by kernel_rfl); (focus (intro w hw; (try dsimp only at hw); go_simp; (try with_reducible rfl); done)); simp only [Act.put, List.setIfInBounds_toArray, List.set_cons_zero, List.set_cons_succ]; refine hK _ ?_; clear hK K)
          (refine wq_step (fun K hK => ?_); apply q_take (by kernel_rfl); (focus (intro w hw; (try dsimp only at hw); go_simp; (try with_reducible rfl); done)); simp only [Act.put, List.setIfInBounds_toArray, List.set_cons_zero, List.set_cons_succ]; refine hK _ ?_; clear hK K)
          (refine wq_step (fun K hK => ?_); apply q_take (by kernel_rfl); (focus (intro w hw; (try dsimp only at hw); go_simp; (try with_reducible rfl); done)); simp only [Act.put, List.setIfInBounds_toArray, List.set_cons_zero, List.set_cons_succ]; refine hK _ ?_; clear hK K)
          (refine wq_step (fun K hK => ?_); apply q_take (by kernel_rfl); (focus (intro w hw; (try dsimp only at hw); go_simp; (try with_reducible rfl); done)); simp only [Act.put, List.setIfInBounds_toArray, List.set_cons_zero, List.set_cons_succ]; refine hK _ ?_; clear hK K)
          (refine wq_step (fun K hK => ?_); apply q_take (by rfl); (focus (intro w hw; (try dsimp only at hw); go_simp; (try with_reducible rfl); done)); simp only [Act.put, List.setIfInBounds_toArray, List.set_cons_zero, List.set_cons_succ]; refine hK _ ?_; clear hK K)
          (refine wq_step (fun K hK => ?_); apply q_take (by rfl); (focus (intro w hw; (try dsimp only at hw); go_simp; (try with_reducible rfl); done)); simp only [Act.put, List.setIfInBounds_toArray, List.set_cons_zero, List.set_cons_succ]; refine hK _ ?_; clear hK K)
          (refine wq_step (fun K hK => ?_); apply q_take (by kernel_rfl); (focus (intro w hw; (try dsimp only at hw); go_simp; (try with_reducible rfl); done)); simp only [Act.put, List.setIfInBounds_toArray, List.set_cons_zero, List.set_cons_succ]; refine hK _ ?_; clear hK K)
          (refine wq_step (fun K hK => ?_); apply q_take (by kernel_rfl); (focus (intro w hw; (try dsimp only at hw); go_simp; (try with_reducible rfl); done)); simp only [Act.put, List.setIfInBounds_toArray, List.set_cons_zero, List.set_cons_succ]; refine hK _ ?_; clear hK K)
          (refine wq_step (fun K hK => ?_); apply q_take (by kernel_rfl); (focus (intro w hw; (try dsimp only at hw); go_simp; (try with_reducible rfl); done)); simp only [Act.put, List.setIfInBounds_toArray, List.set_cons_zero, List.set_cons_succ]; refine hK _ ?_; clear hK K)
          (refine wq_step (fun K hK => ?_); apply q_take (by kernel_rfl); (focus (intro w hw; (try dsimp only at hw); go_simp; (try with_reducible rfl); done)); simp only [Act.put, List.setIfInBounds_toArray, List.set_cons_zero, List.set_cons_succ]; refine hK _ ?_; clear hK K)
          (refine wq_step (fun K hK => ?_); apply q_take (by kernel_rfl); (focus (intro w hw; (try dsimp only at hw); go_simp; (try with_reducible rfl); done)); simp only [Act.put, List.setIfInBounds_toArray, List.set_cons_zero, List.set_cons_succ]; refine hK _ ?_; clear hK K)
          (refine wq_step (fun K hK => ?_); apply q_take (by kernel_rfl); (focus (intro w hw; (try dsimp only at hw); go_simp; (try with_reducible rfl); done)); simp only [Act.put, List.setIfInBounds_toArray, List.set_cons_zero, List.set_cons_succ]; refine hK _ ?_; clear hK K)
          (refine wq_step (fun K hK => ?_); apply q_take (by kernel_rfl); (focus (intro w hw; (try dsimp only at hw); go_simp; (try with_reducible rfl); done)); simp only [Act.put, List.setIfInBounds_toArray, List.set_cons_zero, List.set_cons_succ]; refine hK _ ?_; clear hK K)
          (refine wq_step (fun K hK => ?_); apply q_take (by kernel_rfl); (focus (intro w hw; (try dsimp only at hw); go_simp; (try with_reducible rfl); done)); simp only [Act.put, List.setIfInBounds_toArray, List.set_cons_zero, List.set_cons_succ]; refine hK _ ?_; clear hK K)
          (refine wq_step (fun K hK => ?_); apply q_take (by kernel_rfl); (focus (intro w hw; (try dsimp only at hw); go_simp; (try with_reducible rfl); done)); simp only [Act.put, List.setIfInBounds_toArray, List.set_cons_zero, List.set_cons_succ]; refine hK _ ?_; clear hK K)
          (refine wq_step (fun K hK => ?_); apply q_take (by kernel_rfl); (focus (intro w hw; (try dsimp only at hw); go_simp; (try with_reducible rfl); done)); simp only [Act.put, List.setIfInBounds_toArray, List.set_cons_zero, List.set_cons_succ]; refine hK _ ?_; clear hK K)
          (refine wq_step (fun K hK => ?_); apply q_take (by kernel_rfl); (focus (intro w hw; (try dsimp only at hw); go_simp; (try with_reducible rfl); done)); simp only [Act.put, List.setIfInBounds_toArray, List.set_cons_zero, List.set_cons_succ]; refine hK _ ?_; clear hK K)
          (refine wq_step (fun K hK => ?_); apply q_take (by rfl); (focus (intro w hw; (try dsimp only at hw); go_simp; (try with_reducible rfl); done)); simp only [Act.put, List.setIfInBounds_toArray, List.set_cons_zero, List.set_cons_succ]; refine hK _ ?_; clear hK K)
          refine wq_nil ?_
          intro wq hwq
          have hAq := H7.out.1.below hwq
          have hRq := H7.out.2.1.below hwq
          have f0 := hAq.cell 0
          have f1 := hAq.cell 1
          have ff := hAq.frozen
          have k0 := hRq.cell 0
          have k1 := hRq.cell 1
          have kf := hRq.frozen
          simp only [List.getElem?_cons_succ, List.getElem?_cons_zero] at f0 f1 k0 k1
          have hlA := hAq.lt
          have hlR := hRq.lt
          have hne1 := HXX.out.1
          have hne2 := HXX.out.1.symm
          have nb1 : b2 ≠ xa := by have := HXX.out.2; omega
          have nb2 : b2 ≠ xr := by have := HXX.out.2; omega
          have g2 := HG2.out wq (H7.out.2.2.2.2.1.trans (hwq.mono H7.out.2.2.2.2.1.size))
          have HWQ := hide hwq
          have c1 : IntKind.i64.wrap ph = ph := IntWalk.i64_in _ (by omega)
          have c2 : Int.tmod ph 2 = ph % 2 := Int.tmod_eq_emod_of_nonneg hpb.1
          have c3 : IntKind.i64.wrap (ph % 2) = ph % 2 := IntWalk.i64_in _ (by omega)
          have c5 : IntKind.i64.wrap (a1 + 1) = a1 + 1 := IntWalk.i64_in _ (by have := HI.out.2.1.b; have := HLN.out; omega)
          have c6 : IntKind.i64.wrap (r1 + 1) = r1 + 1 := IntWalk.i64_in _ (by have := HI.out.2.1.b; have := HLN.out; omega)
          have HAR := hide (And.intro hAq hRq)
          clear hAq hRq x0 y0 n6 n7 e0' e2' r7 hwq
          by_cases hp1 : ph % 2 = 0
          · have c4 : IntKind.i64.wrap (1 + ph % 2) = 1 := by rw [hp1]; exact IntWalk.i64_in _ (by omega)
            have HP1 := hide hp1
            clear hp1
            go_upto_region 25 with fail
            obtain ⟨w8, hw8⟩ : ∃ w8, (((wq.setCell ⟨xa, 0, none⟩ (.int .i64 0)).setCell ⟨xr, 0, none⟩ (.int .i64 0)).setCell ⟨xa, 1, none⟩ (.int .i64 (a1 + 1))).setCell ⟨xr, 1, none⟩ (.int .i64 (r1 + 1)) = w8 := ⟨_, rfl⟩
            have hX : Blk w8 xa 30 [.int .i64 0, .int .i64 (a1 + 1)] ∧ Blk w8 xr 30 [.int .i64 0, .int .i64 (r1 + 1)] ∧ Chg [xa, xr] wq w8 := by
              subst hw8
              exact ⟨(((HAR.out.1.set 0 _).oth HXX.out.1 _).set 1 _).oth HXX.out.1 _, (((HAR.out.2.oth HXX.out.1.symm _).set 0 _).oth HXX.out.1.symm _).set 1 _, ((((Chg.refl _ _).setCell (Or.inl (by simp)) _).setCell (Or.inl (by simp)) _).setCell (Or.inl (by simp)) _).setCell (Or.inl (by simp)) _⟩
            rw [hw8]
            have hal : Alien wq [xa, xr] := fun g hg => by
              simp only [List.mem_cons, List.not_mem_nil, or_false] at hg
              rcases hg with rfl | rfl
              · exact ⟨_, _, HAR.out.1, by decide, by decide, by decide, by decide, by decide⟩
              · exact ⟨_, _, HAR.out.2, by decide, by decide, by decide, by decide, by decide⟩
            have hcl := (HC7.out.below HWQ.out).local rfl rfl (H7.out.2.2.2.2.2.2.1.chg (L := []) (Chg.of_below HWQ.out) (by simp)) hal hX.2.2
            have hb8 : Below W.heap.size W w8 := Chg.onto (H7.out.2.2.2.2.1.trans (HWQ.out.mono H7.out.2.2.2.2.1.size)) (Nat.le_trans H7.out.2.2.2.2.1.size HWQ.out.size) hX.2.2 (fun z hz => by
              simp only [List.mem_cons, List.not_mem_nil, or_false] at hz
              rcases hz with rfl | rfl
              · exact HXX.out.2.1
              · exact HXX.out.2.2)
            have hE8 : w8.cell? ⟨b, o, none⟩ = some (.int .i64 (40 + 0)) := by
              rw [hX.2.2.cell (p := ⟨b, o, none⟩) (Nat.lt_of_lt_of_le H7.out.2.2.2.2.2.2.2.1 HWQ.out.size) (by simp; exact ⟨H7.out.2.2.2.2.2.2.2.2.2.1, H7.out.2.2.2.2.2.2.2.2.2.2⟩), HWQ.out.cell (p := ⟨b, o, none⟩) H7.out.2.2.2.2.2.2.2.1]
              exact H7.out.2.2.2.2.2.2.2.2.1
            have hbl8 : b < w8.heap.size := Nat.lt_of_lt_of_le H7.out.2.2.2.2.2.2.2.1 (Nat.le_trans HWQ.out.size hX.2.2.size)
            have e0' : ∀ w', Below w8.heap.size w8 w' → w'.cell? ⟨b, o, none⟩ = some (.int .i64 (40 + 0)) := fun w' hb => (hb.cell (p := ⟨b, o, none⟩) hbl8).trans hE8
            have r8 := Below.refl w8.heap.size w8
            have HNM := hide (fun w' (hb : Below w8.heap.size w8 w') => cnum_calls (hcl.1.below hb))
            simp only [] at HNM
            have H8 := hide (And.intro hcl.1 (And.intro hcl.2 (And.intro hX (And.intro hb8 (And.intro H7.out.2.2.1 (And.intro H7.out.2.2.2.1 H7.out.2.2.2.2.2.1))))))
            have HHD : Hid (∀ w' n2 bb, Below w8.heap.size w8 w' → w8.heap.size ≤ n2 → w8.heap.size ≤ bb → Blk w' n2 3 [.int .i64 3, .int .i64 ((i + 1 : Nat) : Int), .int .i64 0, .int .i64 1] → Blk w' bb 5 (bys (val16 1)) → Calls Tryz.prog 12 #[.pointer (some ⟨c, 0, none⟩), .int .i64 (40 + 0), .agg #[.int .i64 16, .slice (some ⟨n2, 0, none⟩) 4 4, .slice (some ⟨bb, 0, none⟩) 16 16, .slice none 0 0]] w' fun e w'' => e = .returned (.tuple #[]) ∧
                ∃ F9, CM w'' F9 c (some (xb, mS 16 2)) mPr (3 * i + 1 + 2) ⟨3, i + 1, (T.beg 0).fin 0 1, none, some ⟨0, val16 1, 1⟩, []⟩ ∧ Chg F7 w8 w'' ∧ ∀ z ∈ F9, z ∈ F7 ∨ w8.heap.size ≤ z) := hide (fun w' n2 bb hb h1 h2 hn2 hbb => by
              have h3 := chandle_ok (k := wT 0 [] 0) (H8.out.1.below hb) rfl (mPr_seen 16 2 (by omega) (by omega)) (by simp [wT]) (by simp [wT]) (nb := n2) (p := 1) (fr := 40 + 0) hn2 (fun hx => by have := H8.out.1.lt n2 hx; omega) (B := some ⟨bb, 0, none⟩) (cB := 16) (L := val16 1)
                ⟨by simp [val16], ⟨by simp [val16, bys], fun _ => ⟨bb, 0, rfl, hbb.lt, fun j u hu => by rw [Nat.zero_add, hbb.cell j]; exact hu⟩⟩, fun a ha => by cases ha; exact ⟨rfl, fun hx => by have := H8.out.1.lt bb hx; omega, hbb.lt⟩⟩ (by simp [val16]) (by simp [val16]) (by simp [wT]) (by unfold i64ok; omega) (by have := HLN.out; omega) (by have := HLN.out; simp only []; omega) (by simp)
              have h4 := cT_okay i 0 (T.beg 0) 1 (val16 1)
              rw [show ((40 : Int) + 0 - 40) = ((0 : Nat) : Int) from by omega, h4] at h3
              refine h3.mono fun e w'' ⟨he, F9, hc9, hch9, hf9⟩ => ⟨he, F9, hc9, (Chg.of_below (L := F7) hb).trans hch9 (fun z hz => Or.inl hz), fun z hz => (hf9 z hz).imp id (fun h5 => Nat.le_trans hb.size h5)⟩)
            clear hX hal hcl hb8 hE8 hbl8 hw8 f0 f1 ff k0 k1 kf hlA hlR hne1 hne2 nb1 nb2 g2 c1 c2 c3 c4 c5 c6
            refine region_lexg (fun w' => Below w8.heap.size w8 w') [11] 4 [(2, 0), (2, 1), (2, 2), (2, 3), (0, 4), (2, 5), (2, 7), (1, 6)] #[true, true, true, true, true, true, true, true, false, false, false, false] (by kernel_rfl) (by kernel_rfl) (by decide) (by kernel_rfl) (by kernel_rfl) (fun _ _ _ _ _ h => h) (by (first | (with_reducible assumption) | (repeat (first | (with_reducible assumption) | (with_reducible refine Below.drew ?_) | (with_reducible refine belowL ?_ _))))) (fun hS0 => ?_)
            simp only [List.map_cons, List.map_nil, List.getElem?_toArray, List.getElem?_cons_succ, List.getElem?_cons_zero]
            (apply lexg_pure (by rfl); (focus (intro w; go_simp; (try with_reducible rfl); done)); simp only [Act.put, List.setIfInBounds_toArray, List.set_cons_zero, List.set_cons_succ])
            (apply lexg_pure (by rfl); (focus (intro w; go_simp; (try with_reducible rfl); done)); simp only [Act.put, List.setIfInBounds_toArray, List.set_cons_zero, List.set_cons_succ])
            (apply lexg_pure (by rfl); (focus (intro w; go_simp; (try with_reducible rfl); done)); simp only [Act.put, List.setIfInBounds_toArray, List.set_cons_zero, List.set_cons_succ])
            (apply lexg_pure (by rfl); (focus (intro w; go_simp; (try with_reducible rfl); done)); simp only [Act.put, List.setIfInBounds_toArray, List.set_cons_zero, List.set_cons_succ])
            (apply lexg_take (by rfl); (focus (intro w hw; (try dsimp only at hw); go_simp; (try with_reducible rfl); done)); simp only [Act.put, List.setIfInBounds_toArray, List.set_cons_zero, List.set_cons_succ])
            (apply lexg_pure (by rfl); (focus (intro w; go_simp; (try with_reducible rfl); done)); simp only [Act.put, List.setIfInBounds_toArray, List.set_cons_zero, List.set_cons_succ])
            (apply lexg_pure (by rfl); (focus (intro w; go_simp; (try with_reducible rfl); done)); simp only [Act.put, List.setIfInBounds_toArray, List.set_cons_zero, List.set_cons_succ])
            (refine lexg_eff (by rfl) ?_; go_simp; (first
                                | (go_at_call 13; refine (HNM.out _ (by repeat (first | (with_reducible assumption) | (with_reducible refine Below.drew ?_)))).mono ?_; rintro e w9 ⟨rfl, rfl⟩)
                                | (go_at_call 14; refine (value_calls 1 (by omega) _).mono ?_; rintro e w9 ⟨bb, rfl, hbb, hbl9, hb9⟩; have hb9q : Below w8.heap.size w8 w9 := belowA hb9 (by (repeat (first | (with_reducible assumption) | (with_reducible refine Below.drew ?_) | (with_reducible refine belowL ?_ _)))); have hbl8 : w8.heap.size ≤ bb := (by first | exact hbl9 | (simp at hbl9; omega)); (try (have hn2 : Blk w9 w8.heap.size 3 [.int .i64 3, .int .i64 ((i + 1 : Nat) : Int), .int .i64 0, .int .i64 1] := (by refine Blk.below ?_ hb9; first | exact Blk.new rfl | exact Blk.drewT (Blk.new rfl) | exact Blk.drewT (Blk.drewT (Blk.new rfl))))); have H9 := hide (And.intro hbb hbl8); clear hbb hbl9 hbl8 hb9)
                                | (go_at_call 12; refine (HHD.out w9 w8.heap.size bb hb9q (Nat.le_refl _) H9.out.2 hn2 H9.out.1).mono ?_; rintro e wh ⟨rfl, hh⟩; have HH := hide hh; clear hh)
                                | (go_at_call 12; refine (HHD.out _ w9.heap.size bb (belowL hb9q _) hb9q.size H9.out.2 (Blk.new rfl) (H9.out.1.alloc _)).mono ?_; rintro e wh ⟨rfl, hh⟩; have HH := hide hh; clear hh)); refine lexg_both (by (first | (with_reducible assumption) | (repeat (first | (with_reducible assumption) | (with_reducible refine Below.drew ?_) | (with_reducible refine belowL ?_ _))))) (fun hS1 => ?_))
            refine lexg_nil (fun hS2 => ?_)
            refine lexg_fork2 (i := 8) (j := 9) (by kernel_rfl) (by kernel_rfl : _ = #[true, true, true, true, true, true, true, true, true, false, false, false]) (by kernel_rfl : _ = #[true, true, true, true, true, true, true, true, false, true, false, false]) ?_ ?_
            focus
              apply lexg_act (by simp only [List.getElem?_toArray, List.getElem?_cons_succ, List.getElem?_cons_zero]; rfl) (by rfl)
              go_simp
              refine lexg_both (by (first | (with_reducible assumption) | (repeat (first | (with_reducible assumption) | (with_reducible refine Below.drew ?_) | (with_reducible refine belowL ?_ _))))) (fun hS1 => ?_)
              refine lexg_more 0 [(1, 9), (2, 10), (3, 11)] #[true, true, true, true, true, true, true, true, true, true, true, true] (by kernel_rfl) (by decide) (by kernel_rfl) (by kernel_rfl) (fun _ _ _ _ _ h => h) (fun _ => by assumption) ?_
              simp only [List.map_cons, List.map_nil, List.getElem?_toArray, List.getElem?_cons_succ, List.getElem?_cons_zero]
              (refine lexg_eff (by rfl) ?_; go_simp; (first
                                | (go_at_call 13; refine (HNM.out _ (by repeat (first | (with_reducible assumption) | (with_reducible refine Below.drew ?_)))).mono ?_; rintro e w9 ⟨rfl, rfl⟩)
                                | (go_at_call 14; refine (value_calls 1 (by omega) _).mono ?_; rintro e w9 ⟨bb, rfl, hbb, hbl9, hb9⟩; have hb9q : Below w8.heap.size w8 w9 := belowA hb9 (by (repeat (first | (with_reducible assumption) | (with_reducible refine Below.drew ?_) | (with_reducible refine belowL ?_ _)))); have hbl8 : w8.heap.size ≤ bb := (by first | exact hbl9 | (simp at hbl9; omega)); (try (have hn2 : Blk w9 w8.heap.size 3 [.int .i64 3, .int .i64 ((i + 1 : Nat) : Int), .int .i64 0, .int .i64 1] := (by refine Blk.below ?_ hb9; first | exact Blk.new rfl | exact Blk.drewT (Blk.new rfl) | exact Blk.drewT (Blk.drewT (Blk.new rfl))))); have H9 := hide (And.intro hbb hbl8); clear hbb hbl9 hbl8 hb9)
                                | (go_at_call 12; refine (HHD.out w9 w8.heap.size bb hb9q (Nat.le_refl _) H9.out.2 hn2 H9.out.1).mono ?_; rintro e wh ⟨rfl, hh⟩; have HH := hide hh; clear hh)
                                | (go_at_call 12; refine (HHD.out _ w9.heap.size bb (belowL hb9q _) hb9q.size H9.out.2 (Blk.new rfl) (H9.out.1.alloc _)).mono ?_; rintro e wh ⟨rfl, hh⟩; have HH := hide hh; clear hh)); refine lexg_both (by (first | (with_reducible assumption) | (repeat (first | (with_reducible assumption) | (with_reducible refine Below.drew ?_) | (with_reducible refine belowL ?_ _))))) (fun hS1 => ?_))
              (apply lexg_pure (by rfl); (focus (intro w; go_simp; (try with_reducible rfl); done)); simp only [Act.put, List.setIfInBounds_toArray, List.set_cons_zero, List.set_cons_succ])
              (refine lexg_effN (by rfl) ?_; go_simp; (first
                                | (go_at_call 13; refine (HNM.out _ (by repeat (first | (with_reducible assumption) | (with_reducible refine Below.drew ?_)))).mono ?_; rintro e w9 ⟨rfl, rfl⟩)
                                | (go_at_call 14; refine (value_calls 1 (by omega) _).mono ?_; rintro e w9 ⟨bb, rfl, hbb, hbl9, hb9⟩; have hb9q : Below w8.heap.size w8 w9 := belowA hb9 (by (repeat (first | (with_reducible assumption) | (with_reducible refine Below.drew ?_) | (with_reducible refine belowL ?_ _)))); have hbl8 : w8.heap.size ≤ bb := (by first | exact hbl9 | (simp at hbl9; omega)); (try (have hn2 : Blk w9 w8.heap.size 3 [.int .i64 3, .int .i64 ((i + 1 : Nat) : Int), .int .i64 0, .int .i64 1] := (by refine Blk.below ?_ hb9; first | exact Blk.new rfl | exact Blk.drewT (Blk.new rfl) | exact Blk.drewT (Blk.drewT (Blk.new rfl))))); have H9 := hide (And.intro hbb hbl8); clear hbb hbl9 hbl8 hb9)
                                | (go_at_call 12; refine (HHD.out w9 w8.heap.size bb hb9q (Nat.le_refl _) H9.out.2 hn2 H9.out.1).mono ?_; rintro e wh ⟨rfl, hh⟩; have HH := hide hh; clear hh)
                                | (go_at_call 12; refine (HHD.out _ w9.heap.size bb (belowL hb9q _) hb9q.size H9.out.2 (Blk.new rfl) (H9.out.1.alloc _)).mono ?_; rintro e wh ⟨rfl, hh⟩; have HH := hide hh; clear hh)))
              refine lexg_nil (fun _ => wpAnyG_done (by kernel_rfl) ?_ _)
            rotate_left
            focus
              apply lexg_act (by simp only [List.getElem?_toArray, List.getElem?_cons_succ, List.getElem?_cons_zero]; rfl) (by rfl)
              go_simp
              (first
                                | (go_at_call 13; refine (HNM.out _ (by repeat (first | (with_reducible assumption) | (with_reducible refine Below.drew ?_)))).mono ?_; rintro e w9 ⟨rfl, rfl⟩)
                                | (go_at_call 14; refine (value_calls 1 (by omega) _).mono ?_; rintro e w9 ⟨bb, rfl, hbb, hbl9, hb9⟩; have hb9q : Below w8.heap.size w8 w9 := belowA hb9 (by (repeat (first | (with_reducible assumption) | (with_reducible refine Below.drew ?_) | (with_reducible refine belowL ?_ _)))); have hbl8 : w8.heap.size ≤ bb := (by first | exact hbl9 | (simp at hbl9; omega)); (try (have hn2 : Blk w9 w8.heap.size 3 [.int .i64 3, .int .i64 ((i + 1 : Nat) : Int), .int .i64 0, .int .i64 1] := (by refine Blk.below ?_ hb9; first | exact Blk.new rfl | exact Blk.drewT (Blk.new rfl) | exact Blk.drewT (Blk.drewT (Blk.new rfl))))); have H9 := hide (And.intro hbb hbl8); clear hbb hbl9 hbl8 hb9)
                                | (go_at_call 12; refine (HHD.out w9 w8.heap.size bb hb9q (Nat.le_refl _) H9.out.2 hn2 H9.out.1).mono ?_; rintro e wh ⟨rfl, hh⟩; have HH := hide hh; clear hh)
                                | (go_at_call 12; refine (HHD.out _ w9.heap.size bb (belowL hb9q _) hb9q.size H9.out.2 (Blk.new rfl) (H9.out.1.alloc _)).mono ?_; rintro e wh ⟨rfl, hh⟩; have HH := hide hh; clear hh))
              refine lexg_both (by (first | (with_reducible assumption) | (repeat (first | (with_reducible assumption) | (with_reducible refine Below.drew ?_) | (with_reducible refine belowL ?_ _))))) (fun hS1 => ?_)
              refine lexg_more 0 [(1, 8), (2, 10), (3, 11)] #[true, true, true, true, true, true, true, true, true, true, true, true] (by kernel_rfl) (by decide) (by kernel_rfl) (by kernel_rfl) (fun _ _ _ _ _ h => h) (fun _ => by assumption) ?_
              simp only [List.map_cons, List.map_nil, List.getElem?_toArray, List.getElem?_cons_succ, List.getElem?_cons_zero]
              (refine lexg_eff (by rfl) ?_; go_simp; refine lexg_both (by (first | (with_reducible assumption) | (repeat (first | (with_reducible assumption) | (with_reducible refine Below.drew ?_) | (with_reducible refine belowL ?_ _))))) (fun hS1 => ?_))
              (apply lexg_pure (by rfl); (focus (intro w; go_simp; (try with_reducible rfl); done)); simp only [Act.put, List.setIfInBounds_toArray, List.set_cons_zero, List.set_cons_succ])
              (refine lexg_effN (by rfl) ?_; go_simp; (first
                                | (go_at_call 13; refine (HNM.out _ (by repeat (first | (with_reducible assumption) | (with_reducible refine Below.drew ?_)))).mono ?_; rintro e w9 ⟨rfl, rfl⟩)
                                | (go_at_call 14; refine (value_calls 1 (by omega) _).mono ?_; rintro e w9 ⟨bb, rfl, hbb, hbl9, hb9⟩; have hb9q : Below w8.heap.size w8 w9 := belowA hb9 (by (repeat (first | (with_reducible assumption) | (with_reducible refine Below.drew ?_) | (with_reducible refine belowL ?_ _)))); have hbl8 : w8.heap.size ≤ bb := (by first | exact hbl9 | (simp at hbl9; omega)); (try (have hn2 : Blk w9 w8.heap.size 3 [.int .i64 3, .int .i64 ((i + 1 : Nat) : Int), .int .i64 0, .int .i64 1] := (by refine Blk.below ?_ hb9; first | exact Blk.new rfl | exact Blk.drewT (Blk.new rfl) | exact Blk.drewT (Blk.drewT (Blk.new rfl))))); have H9 := hide (And.intro hbb hbl8); clear hbb hbl9 hbl8 hb9)
                                | (go_at_call 12; refine (HHD.out w9 w8.heap.size bb hb9q (Nat.le_refl _) H9.out.2 hn2 H9.out.1).mono ?_; rintro e wh ⟨rfl, hh⟩; have HH := hide hh; clear hh)
                                | (go_at_call 12; refine (HHD.out _ w9.heap.size bb (belowL hb9q _) hb9q.size H9.out.2 (Blk.new rfl) (H9.out.1.alloc _)).mono ?_; rintro e wh ⟨rfl, hh⟩; have HH := hide hh; clear hh)))
              refine lexg_nil (fun _ => wpAnyG_done (by kernel_rfl) ?_ _)
            rotate_left
            · skip
              rename_i hunm
              clear hunm e0' r8
              (try clear hS0 hS1 hS2 hn2 hb9q)
              obtain ⟨F9, hc9, hch9, hf9⟩ := HH.out
              have HTK := hide (ctake_some hc9 rfl)
              have hA9 := H8.out.2.2.1.1.chg hch9 H8.out.2.2.2.2.1
              have hR9 := H8.out.2.2.1.2.1.chg hch9 H8.out.2.2.2.2.2.1
              have hnA9 := notin_step H8.out.2.2.2.2.1 H8.out.2.2.1.1.lt hf9
              have hnR9 := notin_step H8.out.2.2.2.2.2.1 H8.out.2.2.1.2.1.lt hf9
              have hb9 : Below W.heap.size W wh := Chg.onto H8.out.2.2.2.1 H8.out.2.2.2.1.size hch9 H8.out.2.2.2.2.2.2
              have hF9 : ∀ z ∈ F9, W.heap.size ≤ z := fun z hz => (hf9 z hz).elim (H8.out.2.2.2.2.2.2 z) (fun h3 => Nat.le_trans H8.out.2.2.2.1.size h3)
              have hv9 : VF ([xa, xr] ++ F9) wh xb (mS 16 2) := H8.out.2.1.step hch9 hf9 hc9.lt (fun g hg => by
                simp only [List.mem_cons, List.not_mem_nil, or_false] at hg
                rcases hg with rfl | rfl
                · exact hA9.lt
                · exact hR9.lt)
              have H10 := hide (And.intro hA9 (And.intro hR9 (And.intro hnA9 (And.intro hnR9 (And.intro hb9 (And.intro hF9 hv9))))))
              clear hc9 hch9 hf9 hA9 hR9 hnA9 hnR9 hb9 hF9 hv9
              go_wp2_with fail
              refine HTK.out.mono ?_
              rintro e wt ⟨At, ct, Ft, rfl, hrt, hct, hcht, hft⟩
              have hAt := H10.out.1.chg hcht H10.out.2.2.1
              have hRt := H10.out.2.1.chg hcht H10.out.2.2.2.1
              have hbt : Below W.heap.size W wt := Chg.onto H10.out.2.2.2.2.1 H10.out.2.2.2.2.1.size hcht H10.out.2.2.2.2.2.1
              have hvt : VF ([xa, xr] ++ Ft) wt xb (mS 16 2) := H10.out.2.2.2.2.2.2.step hcht (fun z hz => Or.inl (hft z hz)) hct.lt (fun g hg => by
                simp only [List.mem_cons, List.not_mem_nil, or_false] at hg
                rcases hg with rfl | rfl
                · exact hAt.lt
                · exact hRt.lt)
              have HT := hide (And.intro hct (And.intro hAt (And.intro hRt (And.intro hbt (And.intro hvt hft)))))
              clear hrt hct hcht hft hAt hRt hbt hvt HTK
              have hi30 : i ≤ 30 := by have := HLN.out; omega
              go_wp2
              go_roundw
              case rel =>
                have hbw : ∀ ob, Below wt.heap.size wt (wt.alloc ob) := fun ob => belowL (Below.refl _ _) _
                have htr := HI.out.2.1.at0 (p := 1) (by omega)
                rw [if_pos rfl] at htr
                exact ⟨i + 1, Ft, _, 0, (a1 + 1), 0, (r1 + 1), by omega, by go_num, (HT.out.1.below (hbw _)).mono (by omega), (by simpa using htr), HT.out.2.1.below (hbw _), HT.out.2.2.1.below (hbw _), HT.out.2.2.2.1.trans ((hbw _).mono HT.out.2.2.2.1.size), fun z hz => H10.out.2.2.2.2.2.1 z (HT.out.2.2.2.2.2 z hz), fun hx => H10.out.2.2.1 (HT.out.2.2.2.2.2 _ hx), fun hx => H10.out.2.2.2.1 (HT.out.2.2.2.2.2 _ hx), HT.out.2.2.2.2.1.chg (L := []) (Chg.of_below (hbw _)) (by simp)⟩
              case measure => simp [intOf]; omega
            · skip
              rename_i hunm
              clear hunm e0' r8
              (try clear hS0 hS1 hS2 hn2 hb9q)
              obtain ⟨F9, hc9, hch9, hf9⟩ := HH.out
              have HTK := hide (ctake_some hc9 rfl)
              have hA9 := H8.out.2.2.1.1.chg hch9 H8.out.2.2.2.2.1
              have hR9 := H8.out.2.2.1.2.1.chg hch9 H8.out.2.2.2.2.2.1
              have hnA9 := notin_step H8.out.2.2.2.2.1 H8.out.2.2.1.1.lt hf9
              have hnR9 := notin_step H8.out.2.2.2.2.2.1 H8.out.2.2.1.2.1.lt hf9
              have hb9 : Below W.heap.size W wh := Chg.onto H8.out.2.2.2.1 H8.out.2.2.2.1.size hch9 H8.out.2.2.2.2.2.2
              have hF9 : ∀ z ∈ F9, W.heap.size ≤ z := fun z hz => (hf9 z hz).elim (H8.out.2.2.2.2.2.2 z) (fun h3 => Nat.le_trans H8.out.2.2.2.1.size h3)
              have hv9 : VF ([xa, xr] ++ F9) wh xb (mS 16 2) := H8.out.2.1.step hch9 hf9 hc9.lt (fun g hg => by
                simp only [List.mem_cons, List.not_mem_nil, or_false] at hg
                rcases hg with rfl | rfl
                · exact hA9.lt
                · exact hR9.lt)
              have H10 := hide (And.intro hA9 (And.intro hR9 (And.intro hnA9 (And.intro hnR9 (And.intro hb9 (And.intro hF9 hv9))))))
              clear hc9 hch9 hf9 hA9 hR9 hnA9 hnR9 hb9 hF9 hv9
              go_wp2_with fail
              refine HTK.out.mono ?_
              rintro e wt ⟨At, ct, Ft, rfl, hrt, hct, hcht, hft⟩
              have hAt := H10.out.1.chg hcht H10.out.2.2.1
              have hRt := H10.out.2.1.chg hcht H10.out.2.2.2.1
              have hbt : Below W.heap.size W wt := Chg.onto H10.out.2.2.2.2.1 H10.out.2.2.2.2.1.size hcht H10.out.2.2.2.2.2.1
              have hvt : VF ([xa, xr] ++ Ft) wt xb (mS 16 2) := H10.out.2.2.2.2.2.2.step hcht (fun z hz => Or.inl (hft z hz)) hct.lt (fun g hg => by
                simp only [List.mem_cons, List.not_mem_nil, or_false] at hg
                rcases hg with rfl | rfl
                · exact hAt.lt
                · exact hRt.lt)
              have HT := hide (And.intro hct (And.intro hAt (And.intro hRt (And.intro hbt (And.intro hvt hft)))))
              clear hrt hct hcht hft hAt hRt hbt hvt HTK
              have hi30 : i ≤ 30 := by have := HLN.out; omega
              go_wp2
              go_roundw
              case rel =>
                have hbw : ∀ ob, Below wt.heap.size wt (wt.alloc ob) := fun ob => belowL (Below.refl _ _) _
                have htr := HI.out.2.1.at0 (p := 1) (by omega)
                rw [if_pos rfl] at htr
                exact ⟨i + 1, Ft, _, 0, (a1 + 1), 0, (r1 + 1), by omega, by go_num, (HT.out.1.below (hbw _)).mono (by omega), (by simpa using htr), HT.out.2.1.below (hbw _), HT.out.2.2.1.below (hbw _), HT.out.2.2.2.1.trans ((hbw _).mono HT.out.2.2.2.1.size), fun z hz => H10.out.2.2.2.2.2.1 z (HT.out.2.2.2.2.2 z hz), fun hx => H10.out.2.2.1 (HT.out.2.2.2.2.2 _ hx), fun hx => H10.out.2.2.2.1 (HT.out.2.2.2.2.2 _ hx), HT.out.2.2.2.2.1.chg (L := []) (Chg.of_below (hbw _)) (by simp)⟩
              case measure => simp [intOf]; omega
          · have c4 : IntKind.i64.wrap (1 + ph % 2) = 2 := by rw [show ph % 2 = 1 from by omega]; exact IntWalk.i64_in _ (by omega)
            have HP1 := hide hp1
            clear hp1
            go_upto_region 25 with fail
            obtain ⟨w8, hw8⟩ : ∃ w8, ((wq.setCell ⟨xa, 0, none⟩ (.int .i64 0)).setCell ⟨xr, 0, none⟩ (.int .i64 0)).setCell ⟨xa, 1, none⟩ (.int .i64 (a1 + 1)) = w8 := ⟨_, rfl⟩
            have hX : Blk w8 xa 30 [.int .i64 0, .int .i64 (a1 + 1)] ∧ Blk w8 xr 30 [.int .i64 0, .int .i64 r1] ∧ Chg [xa, xr] wq w8 := by
              subst hw8
              exact ⟨((HAR.out.1.set 0 _).oth HXX.out.1 _).set 1 _, ((HAR.out.2.oth HXX.out.1.symm _).set 0 _).oth HXX.out.1.symm _, (((Chg.refl _ _).setCell (Or.inl (by simp)) _).setCell (Or.inl (by simp)) _).setCell (Or.inl (by simp)) _⟩
            rw [hw8]
            have hal : Alien wq [xa, xr] := fun g hg => by
              simp only [List.mem_cons, List.not_mem_nil, or_false] at hg
              rcases hg with rfl | rfl
              · exact ⟨_, _, HAR.out.1, by decide, by decide, by decide, by decide, by decide⟩
              · exact ⟨_, _, HAR.out.2, by decide, by decide, by decide, by decide, by decide⟩
            have hcl := (HC7.out.below HWQ.out).local rfl rfl (H7.out.2.2.2.2.2.2.1.chg (L := []) (Chg.of_below HWQ.out) (by simp)) hal hX.2.2
            have hb8 : Below W.heap.size W w8 := Chg.onto (H7.out.2.2.2.2.1.trans (HWQ.out.mono H7.out.2.2.2.2.1.size)) (Nat.le_trans H7.out.2.2.2.2.1.size HWQ.out.size) hX.2.2 (fun z hz => by
              simp only [List.mem_cons, List.not_mem_nil, or_false] at hz
              rcases hz with rfl | rfl
              · exact HXX.out.2.1
              · exact HXX.out.2.2)
            have hE8 : w8.cell? ⟨b, o, none⟩ = some (.int .i64 (40 + 0)) := by
              rw [hX.2.2.cell (p := ⟨b, o, none⟩) (Nat.lt_of_lt_of_le H7.out.2.2.2.2.2.2.2.1 HWQ.out.size) (by simp; exact ⟨H7.out.2.2.2.2.2.2.2.2.2.1, H7.out.2.2.2.2.2.2.2.2.2.2⟩), HWQ.out.cell (p := ⟨b, o, none⟩) H7.out.2.2.2.2.2.2.2.1]
              exact H7.out.2.2.2.2.2.2.2.2.1
            have hbl8 : b < w8.heap.size := Nat.lt_of_lt_of_le H7.out.2.2.2.2.2.2.2.1 (Nat.le_trans HWQ.out.size hX.2.2.size)
            have e0' : ∀ w', Below w8.heap.size w8 w' → w'.cell? ⟨b, o, none⟩ = some (.int .i64 (40 + 0)) := fun w' hb => (hb.cell (p := ⟨b, o, none⟩) hbl8).trans hE8
            have r8 := Below.refl w8.heap.size w8
            have HNM := hide (fun w' (hb : Below w8.heap.size w8 w') => cnum_calls (hcl.1.below hb))
            simp only [] at HNM
            have H8 := hide (And.intro hcl.1 (And.intro hcl.2 (And.intro hX (And.intro hb8 (And.intro H7.out.2.2.1 (And.intro H7.out.2.2.2.1 H7.out.2.2.2.2.2.1))))))
            have HHD : Hid (∀ w' n2 bb, Below w8.heap.size w8 w' → w8.heap.size ≤ n2 → w8.heap.size ≤ bb → Blk w' n2 3 [.int .i64 3, .int .i64 ((i + 1 : Nat) : Int), .int .i64 0, .int .i64 2] → Blk w' bb 5 (bys (val16 1)) → Calls Tryz.prog 12 #[.pointer (some ⟨c, 0, none⟩), .int .i64 (40 + 0), .agg #[.int .i64 16, .slice (some ⟨n2, 0, none⟩) 4 4, .slice (some ⟨bb, 0, none⟩) 16 16, .slice none 0 0]] w' fun e w'' => e = .returned (.tuple #[]) ∧
                ∃ F9, CM w'' F9 c (some (xb, mS 16 2)) mPr (3 * i + 1 + 2) ⟨3, i + 1, (T.beg 0).fin 0 2, none, some ⟨0, val16 1, 1⟩, []⟩ ∧ Chg F7 w8 w'' ∧ ∀ z ∈ F9, z ∈ F7 ∨ w8.heap.size ≤ z) := hide (fun w' n2 bb hb h1 h2 hn2 hbb => by
              have h3 := chandle_ok (k := wT 0 [] 0) (H8.out.1.below hb) rfl (mPr_seen 16 2 (by omega) (by omega)) (by simp [wT]) (by simp [wT]) (nb := n2) (p := 2) (fr := 40 + 0) hn2 (fun hx => by have := H8.out.1.lt n2 hx; omega) (B := some ⟨bb, 0, none⟩) (cB := 16) (L := val16 1)
                ⟨by simp [val16], ⟨by simp [val16, bys], fun _ => ⟨bb, 0, rfl, hbb.lt, fun j u hu => by rw [Nat.zero_add, hbb.cell j]; exact hu⟩⟩, fun a ha => by cases ha; exact ⟨rfl, fun hx => by have := H8.out.1.lt bb hx; omega, hbb.lt⟩⟩ (by simp [val16]) (by simp [val16]) (by simp [wT]) (by unfold i64ok; omega) (by have := HLN.out; omega) (by have := HLN.out; simp only []; omega) (by simp)
              have h4 := cT_okay i 0 (T.beg 0) 2 (val16 1)
              rw [show ((40 : Int) + 0 - 40) = ((0 : Nat) : Int) from by omega, h4] at h3
              refine h3.mono fun e w'' ⟨he, F9, hc9, hch9, hf9⟩ => ⟨he, F9, hc9, (Chg.of_below (L := F7) hb).trans hch9 (fun z hz => Or.inl hz), fun z hz => (hf9 z hz).imp id (fun h5 => Nat.le_trans hb.size h5)⟩)
            clear hX hal hcl hb8 hE8 hbl8 hw8 f0 f1 ff k0 k1 kf hlA hlR hne1 hne2 nb1 nb2 g2 c1 c2 c3 c4 c5 c6
            refine region_lexg (fun w' => Below w8.heap.size w8 w') [11] 4 [(2, 0), (2, 1), (2, 2), (2, 3), (0, 4), (2, 5), (2, 7), (1, 6)] #[true, true, true, true, true, true, true, true, false, false, false, false] (by kernel_rfl) (by kernel_rfl) (by decide) (by kernel_rfl) (by kernel_rfl) (fun _ _ _ _ _ h => h) (by (first | (with_reducible assumption) | (repeat (first | (with_reducible assumption) | (with_reducible refine Below.drew ?_) | (with_reducible refine belowL ?_ _))))) (fun hS0 => ?_)
            simp only [List.map_cons, List.map_nil, List.getElem?_toArray, List.getElem?_cons_succ, List.getElem?_cons_zero]
            (apply lexg_pure (by rfl); (focus (intro w; go_simp; (try with_reducible rfl); done)); simp only [Act.put, List.setIfInBounds_toArray, List.set_cons_zero, List.set_cons_succ])
            (apply lexg_pure (by rfl); (focus (intro w; go_simp; (try with_reducible rfl); done)); simp only [Act.put, List.setIfInBounds_toArray, List.set_cons_zero, List.set_cons_succ])
            (apply lexg_pure (by rfl); (focus (intro w; go_simp; (try with_reducible rfl); done)); simp only [Act.put, List.setIfInBounds_toArray, List.set_cons_zero, List.set_cons_succ])
            (apply lexg_pure (by rfl); (focus (intro w; go_simp; (try with_reducible rfl); done)); simp only [Act.put, List.setIfInBounds_toArray, List.set_cons_zero, List.set_cons_succ])
            (apply lexg_take (by rfl); (focus (intro w hw; (try dsimp only at hw); go_simp; (try with_reducible rfl); done)); simp only [Act.put, List.setIfInBounds_toArray, List.set_cons_zero, List.set_cons_succ])
            (apply lexg_pure (by rfl); (focus (intro w; go_simp; (try with_reducible rfl); done)); simp only [Act.put, List.setIfInBounds_toArray, List.set_cons_zero, List.set_cons_succ])
            (apply lexg_pure (by rfl); (focus (intro w; go_simp; (try with_reducible rfl); done)); simp only [Act.put, List.setIfInBounds_toArray, List.set_cons_zero, List.set_cons_succ])
            (refine lexg_eff (by rfl) ?_; go_simp; (first
                                | (go_at_call 13; refine (HNM.out _ (by repeat (first | (with_reducible assumption) | (with_reducible refine Below.drew ?_)))).mono ?_; rintro e w9 ⟨rfl, rfl⟩)
                                | (go_at_call 14; refine (value_calls 1 (by omega) _).mono ?_; rintro e w9 ⟨bb, rfl, hbb, hbl9, hb9⟩; have hb9q : Below w8.heap.size w8 w9 := belowA hb9 (by (repeat (first | (with_reducible assumption) | (with_reducible refine Below.drew ?_) | (with_reducible refine belowL ?_ _)))); have hbl8 : w8.heap.size ≤ bb := (by first | exact hbl9 | (simp at hbl9; omega)); (try (have hn2 : Blk w9 w8.heap.size 3 [.int .i64 3, .int .i64 ((i + 1 : Nat) : Int), .int .i64 0, .int .i64 2] := (by refine Blk.below ?_ hb9; first | exact Blk.new rfl | exact Blk.drewT (Blk.new rfl) | exact Blk.drewT (Blk.drewT (Blk.new rfl))))); have H9 := hide (And.intro hbb hbl8); clear hbb hbl9 hbl8 hb9)
                                | (go_at_call 12; refine (HHD.out w9 w8.heap.size bb hb9q (Nat.le_refl _) H9.out.2 hn2 H9.out.1).mono ?_; rintro e wh ⟨rfl, hh⟩; have HH := hide hh; clear hh)
                                | (go_at_call 12; refine (HHD.out _ w9.heap.size bb (belowL hb9q _) hb9q.size H9.out.2 (Blk.new rfl) (H9.out.1.alloc _)).mono ?_; rintro e wh ⟨rfl, hh⟩; have HH := hide hh; clear hh)); refine lexg_both (by (first | (with_reducible assumption) | (repeat (first | (with_reducible assumption) | (with_reducible refine Below.drew ?_) | (with_reducible refine belowL ?_ _))))) (fun hS1 => ?_))
            refine lexg_nil (fun hS2 => ?_)
            refine lexg_fork2 (i := 8) (j := 9) (by kernel_rfl) (by kernel_rfl : _ = #[true, true, true, true, true, true, true, true, true, false, false, false]) (by kernel_rfl : _ = #[true, true, true, true, true, true, true, true, false, true, false, false]) ?_ ?_
            focus
              apply lexg_act (by simp only [List.getElem?_toArray, List.getElem?_cons_succ, List.getElem?_cons_zero]; rfl) (by rfl)
              go_simp
              refine lexg_both (by (first | (with_reducible assumption) | (repeat (first | (with_reducible assumption) | (with_reducible refine Below.drew ?_) | (with_reducible refine belowL ?_ _))))) (fun hS1 => ?_)
              refine lexg_more 0 [(1, 9), (2, 10), (3, 11)] #[true, true, true, true, true, true, true, true, true, true, true, true] (by kernel_rfl) (by decide) (by kernel_rfl) (by kernel_rfl) (fun _ _ _ _ _ h => h) (fun _ => by assumption) ?_
              simp only [List.map_cons, List.map_nil, List.getElem?_toArray, List.getElem?_cons_succ, List.getElem?_cons_zero]
              (refine lexg_eff (by rfl) ?_; go_simp; (first
                                | (go_at_call 13; refine (HNM.out _ (by repeat (first | (with_reducible assumption) | (with_reducible refine Below.drew ?_)))).mono ?_; rintro e w9 ⟨rfl, rfl⟩)
                                | (go_at_call 14; refine (value_calls 1 (by omega) _).mono ?_; rintro e w9 ⟨bb, rfl, hbb, hbl9, hb9⟩; have hb9q : Below w8.heap.size w8 w9 := belowA hb9 (by (repeat (first | (with_reducible assumption) | (with_reducible refine Below.drew ?_) | (with_reducible refine belowL ?_ _)))); have hbl8 : w8.heap.size ≤ bb := (by first | exact hbl9 | (simp at hbl9; omega)); (try (have hn2 : Blk w9 w8.heap.size 3 [.int .i64 3, .int .i64 ((i + 1 : Nat) : Int), .int .i64 0, .int .i64 2] := (by refine Blk.below ?_ hb9; first | exact Blk.new rfl | exact Blk.drewT (Blk.new rfl) | exact Blk.drewT (Blk.drewT (Blk.new rfl))))); have H9 := hide (And.intro hbb hbl8); clear hbb hbl9 hbl8 hb9)
                                | (go_at_call 12; refine (HHD.out w9 w8.heap.size bb hb9q (Nat.le_refl _) H9.out.2 hn2 H9.out.1).mono ?_; rintro e wh ⟨rfl, hh⟩; have HH := hide hh; clear hh)
                                | (go_at_call 12; refine (HHD.out _ w9.heap.size bb (belowL hb9q _) hb9q.size H9.out.2 (Blk.new rfl) (H9.out.1.alloc _)).mono ?_; rintro e wh ⟨rfl, hh⟩; have HH := hide hh; clear hh)); refine lexg_both (by (first | (with_reducible assumption) | (repeat (first | (with_reducible assumption) | (with_reducible refine Below.drew ?_) | (with_reducible refine belowL ?_ _))))) (fun hS1 => ?_))
              (apply lexg_pure (by rfl); (focus (intro w; go_simp; (try with_reducible rfl); done)); simp only [Act.put, List.setIfInBounds_toArray, List.set_cons_zero, List.set_cons_succ])
              (refine lexg_effN (by rfl) ?_; go_simp; (first
                                | (go_at_call 13; refine (HNM.out _ (by repeat (first | (with_reducible assumption) | (with_reducible refine Below.drew ?_)))).mono ?_; rintro e w9 ⟨rfl, rfl⟩)
                                | (go_at_call 14; refine (value_calls 1 (by omega) _).mono ?_; rintro e w9 ⟨bb, rfl, hbb, hbl9, hb9⟩; have hb9q : Below w8.heap.size w8 w9 := belowA hb9 (by (repeat (first | (with_reducible assumption) | (with_reducible refine Below.drew ?_) | (with_reducible refine belowL ?_ _)))); have hbl8 : w8.heap.size ≤ bb := (by first | exact hbl9 | (simp at hbl9; omega)); (try (have hn2 : Blk w9 w8.heap.size 3 [.int .i64 3, .int .i64 ((i + 1 : Nat) : Int), .int .i64 0, .int .i64 2] := (by refine Blk.below ?_ hb9; first | exact Blk.new rfl | exact Blk.drewT (Blk.new rfl) | exact Blk.drewT (Blk.drewT (Blk.new rfl))))); have H9 := hide (And.intro hbb hbl8); clear hbb hbl9 hbl8 hb9)
                                | (go_at_call 12; refine (HHD.out w9 w8.heap.size bb hb9q (Nat.le_refl _) H9.out.2 hn2 H9.out.1).mono ?_; rintro e wh ⟨rfl, hh⟩; have HH := hide hh; clear hh)
                                | (go_at_call 12; refine (HHD.out _ w9.heap.size bb (belowL hb9q _) hb9q.size H9.out.2 (Blk.new rfl) (H9.out.1.alloc _)).mono ?_; rintro e wh ⟨rfl, hh⟩; have HH := hide hh; clear hh)))
              refine lexg_nil (fun _ => wpAnyG_done (by kernel_rfl) ?_ _)
            rotate_left
            focus
              apply lexg_act (by simp only [List.getElem?_toArray, List.getElem?_cons_succ, List.getElem?_cons_zero]; rfl) (by rfl)
              go_simp
              (first
                                | (go_at_call 13; refine (HNM.out _ (by repeat (first | (with_reducible assumption) | (with_reducible refine Below.drew ?_)))).mono ?_; rintro e w9 ⟨rfl, rfl⟩)
                                | (go_at_call 14; refine (value_calls 1 (by omega) _).mono ?_; rintro e w9 ⟨bb, rfl, hbb, hbl9, hb9⟩; have hb9q : Below w8.heap.size w8 w9 := belowA hb9 (by (repeat (first | (with_reducible assumption) | (with_reducible refine Below.drew ?_) | (with_reducible refine belowL ?_ _)))); have hbl8 : w8.heap.size ≤ bb := (by first | exact hbl9 | (simp at hbl9; omega)); (try (have hn2 : Blk w9 w8.heap.size 3 [.int .i64 3, .int .i64 ((i + 1 : Nat) : Int), .int .i64 0, .int .i64 2] := (by refine Blk.below ?_ hb9; first | exact Blk.new rfl | exact Blk.drewT (Blk.new rfl) | exact Blk.drewT (Blk.drewT (Blk.new rfl))))); have H9 := hide (And.intro hbb hbl8); clear hbb hbl9 hbl8 hb9)
                                | (go_at_call 12; refine (HHD.out w9 w8.heap.size bb hb9q (Nat.le_refl _) H9.out.2 hn2 H9.out.1).mono ?_; rintro e wh ⟨rfl, hh⟩; have HH := hide hh; clear hh)
                                | (go_at_call 12; refine (HHD.out _ w9.heap.size bb (belowL hb9q _) hb9q.size H9.out.2 (Blk.new rfl) (H9.out.1.alloc _)).mono ?_; rintro e wh ⟨rfl, hh⟩; have HH := hide hh; clear hh))
              refine lexg_both (by (first | (with_reducible assumption) | (repeat (first | (with_reducible assumption) | (with_reducible refine Below.drew ?_) | (with_reducible refine belowL ?_ _))))) (fun hS1 => ?_)
              refine lexg_more 0 [(1, 8), (2, 10), (3, 11)] #[true, true, true, true, true, true, true, true, true, true, true, true] (by kernel_rfl) (by decide) (by kernel_rfl) (by kernel_rfl) (fun _ _ _ _ _ h => h) (fun _ => by assumption) ?_
              simp only [List.map_cons, List.map_nil, List.getElem?_toArray, List.getElem?_cons_succ, List.getElem?_cons_zero]
              (refine lexg_eff (by rfl) ?_; go_simp; refine lexg_both (by (first | (with_reducible assumption) | (repeat (first | (with_reducible assumption) | (with_reducible refine Below.drew ?_) | (with_reducible refine belowL ?_ _))))) (fun hS1 => ?_))
              (apply lexg_pure (by rfl); (focus (intro w; go_simp; (try with_reducible rfl); done)); simp only [Act.put, List.setIfInBounds_toArray, List.set_cons_zero, List.set_cons_succ])
              (refine lexg_effN (by rfl) ?_; go_simp; (first
                                | (go_at_call 13; refine (HNM.out _ (by repeat (first | (with_reducible assumption) | (with_reducible refine Below.drew ?_)))).mono ?_; rintro e w9 ⟨rfl, rfl⟩)
                                | (go_at_call 14; refine (value_calls 1 (by omega) _).mono ?_; rintro e w9 ⟨bb, rfl, hbb, hbl9, hb9⟩; have hb9q : Below w8.heap.size w8 w9 := belowA hb9 (by (repeat (first | (with_reducible assumption) | (with_reducible refine Below.drew ?_) | (with_reducible refine belowL ?_ _)))); have hbl8 : w8.heap.size ≤ bb := (by first | exact hbl9 | (simp at hbl9; omega)); (try (have hn2 : Blk w9 w8.heap.size 3 [.int .i64 3, .int .i64 ((i + 1 : Nat) : Int), .int .i64 0, .int .i64 2] := (by refine Blk.below ?_ hb9; first | exact Blk.new rfl | exact Blk.drewT (Blk.new rfl) | exact Blk.drewT (Blk.drewT (Blk.new rfl))))); have H9 := hide (And.intro hbb hbl8); clear hbb hbl9 hbl8 hb9)
                                | (go_at_call 12; refine (HHD.out w9 w8.heap.size bb hb9q (Nat.le_refl _) H9.out.2 hn2 H9.out.1).mono ?_; rintro e wh ⟨rfl, hh⟩; have HH := hide hh; clear hh)
                                | (go_at_call 12; refine (HHD.out _ w9.heap.size bb (belowL hb9q _) hb9q.size H9.out.2 (Blk.new rfl) (H9.out.1.alloc _)).mono ?_; rintro e wh ⟨rfl, hh⟩; have HH := hide hh; clear hh)))
              refine lexg_nil (fun _ => wpAnyG_done (by kernel_rfl) ?_ _)
            rotate_left
            · skip
              rename_i hunm
              clear hunm e0' r8
              (try clear hS0 hS1 hS2 hn2 hb9q)
              obtain ⟨F9, hc9, hch9, hf9⟩ := HH.out
              have HTK := hide (ctake_some hc9 rfl)
              have hA9 := H8.out.2.2.1.1.chg hch9 H8.out.2.2.2.2.1
              have hR9 := H8.out.2.2.1.2.1.chg hch9 H8.out.2.2.2.2.2.1
              have hnA9 := notin_step H8.out.2.2.2.2.1 H8.out.2.2.1.1.lt hf9
              have hnR9 := notin_step H8.out.2.2.2.2.2.1 H8.out.2.2.1.2.1.lt hf9
              have hb9 : Below W.heap.size W wh := Chg.onto H8.out.2.2.2.1 H8.out.2.2.2.1.size hch9 H8.out.2.2.2.2.2.2
              have hF9 : ∀ z ∈ F9, W.heap.size ≤ z := fun z hz => (hf9 z hz).elim (H8.out.2.2.2.2.2.2 z) (fun h3 => Nat.le_trans H8.out.2.2.2.1.size h3)
              have hv9 : VF ([xa, xr] ++ F9) wh xb (mS 16 2) := H8.out.2.1.step hch9 hf9 hc9.lt (fun g hg => by
                simp only [List.mem_cons, List.not_mem_nil, or_false] at hg
                rcases hg with rfl | rfl
                · exact hA9.lt
                · exact hR9.lt)
              have H10 := hide (And.intro hA9 (And.intro hR9 (And.intro hnA9 (And.intro hnR9 (And.intro hb9 (And.intro hF9 hv9))))))
              clear hc9 hch9 hf9 hA9 hR9 hnA9 hnR9 hb9 hF9 hv9
              go_wp2_with fail
              refine HTK.out.mono ?_
              rintro e wt ⟨At, ct, Ft, rfl, hrt, hct, hcht, hft⟩
              have hAt := H10.out.1.chg hcht H10.out.2.2.1
              have hRt := H10.out.2.1.chg hcht H10.out.2.2.2.1
              have hbt : Below W.heap.size W wt := Chg.onto H10.out.2.2.2.2.1 H10.out.2.2.2.2.1.size hcht H10.out.2.2.2.2.2.1
              have hvt : VF ([xa, xr] ++ Ft) wt xb (mS 16 2) := H10.out.2.2.2.2.2.2.step hcht (fun z hz => Or.inl (hft z hz)) hct.lt (fun g hg => by
                simp only [List.mem_cons, List.not_mem_nil, or_false] at hg
                rcases hg with rfl | rfl
                · exact hAt.lt
                · exact hRt.lt)
              have HT := hide (And.intro hct (And.intro hAt (And.intro hRt (And.intro hbt (And.intro hvt hft)))))
              clear hrt hct hcht hft hAt hRt hbt hvt HTK
              have hi30 : i ≤ 30 := by have := HLN.out; omega
              go_wp2
              go_roundw
              case rel =>
                have hbw : ∀ ob, Below wt.heap.size wt (wt.alloc ob) := fun ob => belowL (Below.refl _ _) _
                have htr := HI.out.2.1.at0 (p := 2) (by omega)
                rw [if_neg (by omega)] at htr
                exact ⟨i + 1, Ft, _, 0, (a1 + 1), 0, r1, by omega, by go_num, (HT.out.1.below (hbw _)).mono (by omega), (by simpa using htr), HT.out.2.1.below (hbw _), HT.out.2.2.1.below (hbw _), HT.out.2.2.2.1.trans ((hbw _).mono HT.out.2.2.2.1.size), fun z hz => H10.out.2.2.2.2.2.1 z (HT.out.2.2.2.2.2 z hz), fun hx => H10.out.2.2.1 (HT.out.2.2.2.2.2 _ hx), fun hx => H10.out.2.2.2.1 (HT.out.2.2.2.2.2 _ hx), HT.out.2.2.2.2.1.chg (L := []) (Chg.of_below (hbw _)) (by simp)⟩
              case measure => simp [intOf]; omega
            · skip
              rename_i hunm
              clear hunm e0' r8
              (try clear hS0 hS1 hS2 hn2 hb9q)
              obtain ⟨F9, hc9, hch9, hf9⟩ := HH.out
              have HTK := hide (ctake_some hc9 rfl)
              have hA9 := H8.out.2.2.1.1.chg hch9 H8.out.2.2.2.2.1
              have hR9 := H8.out.2.2.1.2.1.chg hch9 H8.out.2.2.2.2.2.1
              have hnA9 := notin_step H8.out.2.2.2.2.1 H8.out.2.2.1.1.lt hf9
              have hnR9 := notin_step H8.out.2.2.2.2.2.1 H8.out.2.2.1.2.1.lt hf9
              have hb9 : Below W.heap.size W wh := Chg.onto H8.out.2.2.2.1 H8.out.2.2.2.1.size hch9 H8.out.2.2.2.2.2.2
              have hF9 : ∀ z ∈ F9, W.heap.size ≤ z := fun z hz => (hf9 z hz).elim (H8.out.2.2.2.2.2.2 z) (fun h3 => Nat.le_trans H8.out.2.2.2.1.size h3)
              have hv9 : VF ([xa, xr] ++ F9) wh xb (mS 16 2) := H8.out.2.1.step hch9 hf9 hc9.lt (fun g hg => by
                simp only [List.mem_cons, List.not_mem_nil, or_false] at hg
                rcases hg with rfl | rfl
                · exact hA9.lt
                · exact hR9.lt)
              have H10 := hide (And.intro hA9 (And.intro hR9 (And.intro hnA9 (And.intro hnR9 (And.intro hb9 (And.intro hF9 hv9))))))
              clear hc9 hch9 hf9 hA9 hR9 hnA9 hnR9 hb9 hF9 hv9
              go_wp2_with fail
              refine HTK.out.mono ?_
              rintro e wt ⟨At, ct, Ft, rfl, hrt, hct, hcht, hft⟩
              have hAt := H10.out.1.chg hcht H10.out.2.2.1
              have hRt := H10.out.2.1.chg hcht H10.out.2.2.2.1
              have hbt : Below W.heap.size W wt := Chg.onto H10.out.2.2.2.2.1 H10.out.2.2.2.2.1.size hcht H10.out.2.2.2.2.2.1
              have hvt : VF ([xa, xr] ++ Ft) wt xb (mS 16 2) := H10.out.2.2.2.2.2.2.step hcht (fun z hz => Or.inl (hft z hz)) hct.lt (fun g hg => by
                simp only [List.mem_cons, List.not_mem_nil, or_false] at hg
                rcases hg with rfl | rfl
                · exact hAt.lt
                · exact hRt.lt)
              have HT := hide (And.intro hct (And.intro hAt (And.intro hRt (And.intro hbt (And.intro hvt hft)))))
              clear hrt hct hcht hft hAt hRt hbt hvt HTK
              have hi30 : i ≤ 30 := by have := HLN.out; omega
              go_wp2
              go_roundw
              case rel =>
                have hbw : ∀ ob, Below wt.heap.size wt (wt.alloc ob) := fun ob => belowL (Below.refl _ _) _
                have htr := HI.out.2.1.at0 (p := 2) (by omega)
                rw [if_neg (by omega)] at htr
                exact ⟨i + 1, Ft, _, 0, (a1 + 1), 0, r1, by omega, by go_num, (HT.out.1.below (hbw _)).mono (by omega), (by simpa using htr), HT.out.2.1.below (hbw _), HT.out.2.2.1.below (hbw _), HT.out.2.2.2.1.trans ((hbw _).mono HT.out.2.2.2.1.size), fun z hz => H10.out.2.2.2.2.2.1 z (HT.out.2.2.2.2.2 z hz), fun hx => H10.out.2.2.1 (HT.out.2.2.2.2.2 _ hx), fun hx => H10.out.2.2.2.1 (HT.out.2.2.2.2.2 _ hx), HT.out.2.2.2.2.1.chg (L := []) (Chg.of_below (hbw _)) (by simp)⟩
              case measure => simp [intOf]; omega
        | true =>
          go_upto_region 14 with fail
          have HBG := hide (cbegin_calls (X := cT i T) HI.out.1 rfl rfl (mPr_seen 16 2 (by omega) (by omega)) 3 (8 * 1) 1 (by omega) (by omega) (by omega) (by omega) (A := none) (cap := 0) (L := []) (Rb.nil _ _ _) (by omega) (by simp) (by have := HLN.out; omega) (by have := HLN.out; simp [cT]; omega) (by simp [cT]))
          rw [cT_begin i 1 (by omega) T] at HBG
          go_wp2_with fail
          refine HBG.out.mono ?_
          rintro e w6 ⟨rfl, F6, hc6, hch6, hf6⟩
          have HOU := hide (cout_calls hc6)
          have hA6 := HI.out.2.2.1.chg hch6 HI.out.2.2.2.2.2.2.1
          have hR6 := HI.out.2.2.2.1.chg hch6 HI.out.2.2.2.2.2.2.2.1
          have hnA6 := notin_step HI.out.2.2.2.2.2.2.1 HI.out.2.2.1.lt hf6
          have hnR6 := notin_step HI.out.2.2.2.2.2.2.2.1 HI.out.2.2.2.1.lt hf6
          have hb6 : Below W.heap.size W w6 := Chg.onto HI.out.2.2.2.2.1 HI.out.2.2.2.2.1.size hch6 HI.out.2.2.2.2.2.1
          have hF6 : ∀ z ∈ F6, W.heap.size ≤ z := fun z hz => (hf6 z hz).elim (HI.out.2.2.2.2.2.1 z) (fun h3 => Nat.le_trans HI.out.2.2.2.2.1.size h3)
          have hv6 : VF ([xa, xr] ++ F6) w6 xb (mS 16 2) := HI.out.2.2.2.2.2.2.2.2.step hch6 hf6 hc6.lt (fun g hg => by
            simp only [List.mem_cons, List.not_mem_nil, or_false] at hg
            rcases hg with rfl | rfl
            · exact hA6.lt
            · exact hR6.lt)
          have H6 := hide (And.intro hA6 (And.intro hR6 (And.intro hnA6 (And.intro hnR6 (And.intro hb6 (And.intro hF6 hv6))))))
          clear hc6 hch6 hf6 hA6 hR6 hnA6 hnR6 hb6 hF6 hv6 HBG
          go_wp2_with fail
          refine HOU.out.mono ?_
          rintro e w7 ⟨A7, cap7, P7, F7, rfl, hP7, hps7, hcap7, hc7, hch7, hf7⟩
          (try simp only [] at hP7)
          obtain ⟨b, o, nb, Bm, cm, rfl, hl, hbl, hbF, e0, e1, e2, e3, e4, hN, hnF⟩ := hps7.one hP7
          rw [hl]
          have hA7 := H6.out.1.chg hch7 H6.out.2.2.1
          have hR7 := H6.out.2.1.chg hch7 H6.out.2.2.2.1
          have hb7 : Below W.heap.size W w7 := Chg.onto H6.out.2.2.2.2.1 H6.out.2.2.2.2.1.size hch7 H6.out.2.2.2.2.2.1
          have hv7 : VF ([xa, xr] ++ F7) w7 xb (mS 16 2) := H6.out.2.2.2.2.2.2.step hch7 (fun z hz => Or.inl (hf7 z hz)) hc7.lt (fun g hg => by
            simp only [List.mem_cons, List.not_mem_nil, or_false] at hg
            rcases hg with rfl | rfl
            · exact hA7.lt
            · exact hR7.lt)
          have r7 := Below.refl w7.heap.size w7
          have e0' : ∀ w', Below w7.heap.size w7 w' → w'.cell? ⟨b, o, none⟩ = some (.int .i64 (40 + 1)) := fun w' hb => (hb.cell (p := ⟨b, o, none⟩) hbl).trans e0
          have e2' : ∀ w', Below w7.heap.size w7 w' → w'.cell? ⟨b, o + 2, none⟩ = some (.slice (some ⟨nb, 0, none⟩) 8 8) := fun w' hb => (hb.cell (p := ⟨b, o + 2, none⟩) hbl).trans e2
          have hdl : T.delta ((1 : Nat) : Int) = ⟨a1, r1⟩ := HI.out.2.1.d1
          have n6 : ∀ w', Below w7.heap.size w7 w' → w'.cell? ⟨nb, 6, none⟩ = some (.int .i64 a1) := fun w' hb => by rw [hN.rule 6 _ rfl w' hb, hdl]
          have n7 : ∀ w', Below w7.heap.size w7 w' → w'.cell? ⟨nb, 7, none⟩ = some (.int .i64 r1) := fun w' hb => by rw [hN.rule 7 _ rfl w' hb, hdl]
          have x0 : ∀ w', Below w7.heap.size w7 w' → w'.cell? ⟨xa, 1, none⟩ = some (.int .i64 a1) := hA7.rule 1 _ rfl
          have y0 : ∀ w', Below w7.heap.size w7 w' → w'.cell? ⟨xr, 1, none⟩ = some (.int .i64 r1) := hR7.rule 1 _ rfl
          have hbx : b ≠ xa := fun e => by
            have h3 := hA7.cell (o + 2)
            rw [← e, e2] at h3
            simp at h3
          have hbr : b ≠ xr := fun e => by
            have h3 := hR7.cell (o + 2)
            rw [← e, e2] at h3
            simp at h3
          have HC7 := hide (show CM w7 F7 c (some (xb, mS 16 2)) mPr (3 * i + 1) ⟨3, i + 1, T.beg 1, some (wT 1 [] 0), none, []⟩ from hc7)
          have H7 := hide (And.intro hA7 (And.intro hR7 (And.intro (fun hx => H6.out.2.2.1 (hf7 _ hx)) (And.intro (fun hx => H6.out.2.2.2.1 (hf7 _ hx)) (And.intro hb7 (And.intro (fun z (hz : z ∈ F7) => H6.out.2.2.2.2.2.1 z (hf7 z hz)) (And.intro hv7 (And.intro hbl (And.intro e0 (And.intro hbx hbr))))))))))
          clear hbx hbr hP7 hps7 hcap7 hc7 hch7 hf7 hA7 hR7 hb7 hv7 hbF e0 e1 e2 e3 e4 hN hnF hdl HOU g1'
          go_upto_region 17 with fail
          refine region_q (fun w' => Below w7.heap.size w7 w') (by kernel_rfl) (by kernel_rfl) (by (exact r7.drew)) ?_
          (refine wq_step (fun K hK => ?_); apply q_take (by rfl); (focus (intro w hw; (try dsimp only at hw); go_simp; (try with_reducible rfl); done)); simp only [Act.put, List.setIfInBounds_toArray, List.set_cons_zero, List.set_cons_succ]; refine hK _ ?_; clear hK K)
          (refine wq_step (fun K hK => ?_); apply q_take (by rfl); (focus (intro w hw; (try dsimp only at hw); go_simp; (try with_reducible rfl); done)); simp only [Act.put, List.setIfInBounds_toArray, List.set_cons_zero, List.set_cons_succ]; refine hK _ ?_; clear hK K)
          (refine wq_step (fun K hK => ?_); apply q_take (by rfl); (focus (intro w hw; (try dsimp only at hw); go_simp; (try with_reducible rfl); done)); simp only [Act.put, List.setIfInBounds_toArray, List.set_cons_zero, List.set_cons_succ]; refine hK _ ?_; clear hK K)
          (refine wq_step (fun K hK => ?_); apply q_take (by rfl); (focus (intro w hw; (try dsimp only at hw); go_simp; (try with_reducible rfl); done)); simp only [Act.put, List.setIfInBounds_toArray, List.set_cons_zero, List.set_cons_succ]; refine hK _ ?_; clear hK K)
          (refine wq_step (fun K hK => ?_); apply q_take (by kernel_rfl); (focus (intro w hw; (try dsimp only at hw); go_simp; (try with_reducible rfl); done)); simp only [Act.put, List.setIfInBounds_toArray, List.set_cons_zero, List.set_cons_succ]; refine hK _ ?_; clear hK K)
          (refine wq_step (fun K hK => ?_); apply q_take (by kernel_rfl); (focus (intro w hw; (try dsimp only at hw); go_simp; (try with_reducible rfl); done)); simp only [Act.put, List.setIfInBounds_toArray, List.set_cons_zero, List.set_cons_succ]; refine hK _ ?_; clear hK K)
          (refine wq_step (fun K hK => ?_); apply q_take (by kernel_rfl); (focus (intro w hw; (try dsimp only at hw); go_simp; (try with_reducible rfl); done)); simp only [Act.put, List.setIfInBounds_toArray, List.set_cons_zero, List.set_cons_succ]; refine hK _ ?_; clear hK K)
          (refine wq_step (fun K hK => ?_); apply q_take (by kernel_rfl); (focus (intro w hw; (try dsimp only at hw); go_simp; (try with_reducible rfl); done)); simp only [Act.put, List.setIfInBounds_toArray, List.set_cons_zero, List.set_cons_succ]; refine hK _ ?_; clear hK K)
          (refine wq_step (fun K hK => ?_); apply q_take (by kernel_rfl); (focus (intro w hw; (try dsimp only at hw); go_simp; (try with_reducible rfl); done)); simp only [Act.put, List.setIfInBounds_toArray, List.set_cons_zero, List.set_cons_succ]; refine hK _ ?_; clear hK K)
          (refine wq_step (fun K hK => ?_); apply q_take (by kernel_rfl); (focus (intro w hw; (try dsimp only at hw); go_simp; (try with_reducible rfl); done)); simp only [Act.put, List.setIfInBounds_toArray, List.set_cons_zero, List.set_cons_succ]; refine hK _ ?_; clear hK K)
          (refine wq_step (fun K hK => ?_); apply q_take (by kernel_rfl); (focus (intro w hw; (try dsimp only at hw); go_simp; (try with_reducible rfl); done)); simp only [Act.put, List.setIfInBounds_toArray, List.set_cons_zero, List.set_cons_succ]; refine hK _ ?_; clear hK K)
          (refine wq_step (fun K hK => ?_); apply q_take (by rfl); (focus (intro w hw; (try dsimp only at hw); go_simp; (try with_reducible rfl); done)); simp only [Act.put, List.setIfInBounds_toArray, List.set_cons_zero, List.set_cons_succ]; refine hK _ ?_; clear hK K)
          (refine wq_step (fun K hK => ?_); apply q_take (by rfl); (focus (intro w hw; (try dsimp only at hw); go_simp; (try with_reducible rfl); done)); simp only [Act.put, List.setIfInBounds_toArray, List.set_cons_zero, List.set_cons_succ]; refine hK _ ?_; clear hK K)
          (refine wq_step (fun K hK => ?_); apply q_take (by kernel_rfl); (focus (intro w hw; (try dsimp only at hw); go_simp; (try with_reducible rfl); done)); simp only [Act.put, List.setIfInBounds_toArray, List.set_cons_zero, List.set_cons_succ]; refine hK _ ?_; clear hK K)
          (refine wq_step (fun K hK => ?_); apply q_take (by kernel_rfl); (focus (intro w hw; (try dsimp only at hw); go_simp; (try with_reducible rfl); done)); simp only [Act.put, List.setIfInBounds_toArray, List.set_cons_zero, List.set_cons_succ]; refine hK _ ?_; clear hK K)
          (refine wq_step (fun K hK => ?_); apply q_take (by kernel_rfl); (focus (intro w hw; (try dsimp only at hw); go_simp; (try with_reducible rfl); done)); simp only [Act.put, List.setIfInBounds_toArray, List.set_cons_zero, List.set_cons_succ]; refine hK _ ?_; clear hK K)
          (refine wq_step (fun K hK => ?_); apply q_take (by kernel_rfl); (focus (intro w hw; (try dsimp only at hw); go_simp; (try with_reducible rfl); done)); simp only [Act.put, List.setIfInBounds_toArray, List.set_cons_zero, List.set_cons_succ]; refine hK _ ?_; clear hK K)
          (refine wq_step (fun K hK => ?_); apply q_take (by kernel_rfl); (focus (intro w hw; (try dsimp only at hw); go_simp; (try with_reducible rfl); done)); simp only [Act.put, List.setIfInBounds_toArray, List.set_cons_zero, List.set_cons_succ]; refine hK _ ?_; clear hK K)
          (refine wq_step (fun K hK => ?_); apply q_take (by kernel_rfl); (focus (intro w hw; (try dsimp only at hw); go_simp; (try with_reducible rfl); done)); simp only [Act.put, List.setIfInBounds_toArray, List.set_cons_zero, List.set_cons_succ]; refine hK _ ?_; clear hK K)
          (refine wq_step (fun K hK => ?_); apply q_take (by kernel_rfl); (focus (intro w hw; (try dsimp only at hw); go_simp; (try with_reducible rfl); done)); simp only [Act.put, List.setIfInBounds_toArray, List.set_cons_zero, List.set_cons_succ]; refine hK _ ?_; clear hK K)
          (refine wq_step (fun K hK => ?_); apply q_take (by kernel_rfl); (focus (intro w hw; (try dsimp only at hw); go_simp; (try with_reducible rfl); done)); simp only [Act.put, List.setIfInBounds_toArray, List.set_cons_zero, List.set_cons_succ]; refine hK _ ?_; clear hK K)
          (refine wq_step (fun K hK => ?_); apply q_take (by kernel_rfl); (focus (intro w hw; (try dsimp only at hw); go_simp; (try with_reducible rfl); done)); simp only [Act.put, List.setIfInBounds_toArray, List.set_cons_zero, List.set_cons_succ]; refine hK _ ?_; clear hK K)
          (refine wq_step (fun K hK => ?_); apply q_take (by kernel_rfl); (focus (intro w hw; (try dsimp only at hw); go_simp; (try with_reducible rfl); done)); simp only [Act.put, List.setIfInBounds_toArray, List.set_cons_zero, List.set_cons_succ]; refine hK _ ?_; clear hK K)
          (refine wq_step (fun K hK => ?_); apply q_take (by kernel_rfl); (focus (intro w hw; (try dsimp only at hw); go_simp; (try with_reducible rfl); done)); simp only [Act.put, List.setIfInBounds_toArray, List.set_cons_zero, List.set_cons_succ]; refine hK _ ?_; clear hK K)
          (refine wq_step (fun K hK => ?_); apply q_take (by rfl); (focus (intro w hw; (try dsimp only at hw); go_simp; (try with_reducible rfl); done)); simp only [Act.put, List.setIfInBounds_toArray, List.set_cons_zero, List.set_cons_succ]; refine hK _ ?_; clear hK K)
          (refine wq_step (fun K hK => ?_); apply q_take (by rfl); (focus (intro w hw; (try dsimp only at hw); go_simp; (try with_reducible rfl); done)); simp only [Act.put, List.setIfInBounds_toArray, List.set_cons_zero, List.set_cons_succ]; refine hK _ ?_; clear hK K)
          (refine wq_step (fun K hK => ?_); apply q_take (by kernel_rfl); (focus (intro w hw; (try dsimp only at hw); go_simp; (try with_reducible rfl); done)); simp only [Act.put, List.setIfInBounds_toArray, List.set_cons_zero, List.set_cons_succ]; refine hK _ ?_; clear hK K)
          (refine wq_step (fun K hK => ?_); apply q_take (by kernel_rfl); (focus (intro w hw; (try dsimp only at hw); go_simp; (try with_reducible rfl); done)); simp only [Act.put, List.setIfInBounds_toArray, List.set_cons_zero, List.set_cons_succ]; refine hK _ ?_; clear hK K)
          (refine wq_step (fun K hK => ?_); apply q_take (by kernel_rfl); (focus (intro w hw; (try dsimp only at hw); go_simp; (try with_reducible rfl); done)); simp only [Act.put, List.setIfInBounds_toArray, List.set_cons_zero, List.set_cons_succ]; refine hK _ ?_; clear hK K)
          (refine wq_step (fun K hK => ?_); apply q_take (by kernel_rfl); (focus (intro w hw; (try dsimp only at hw); go_simp; (try with_reducible rfl); done)); simp only [Act.put, List.setIfInBounds_toArray, List.set_cons_zero, List.set_cons_succ]; refine hK _ ?_; clear hK K)
          (refine wq_step (fun K hK => ?_); apply q_take (by kernel_rfl); (focus (intro w hw; (try dsimp only at hw); go_simp; (try with_reducible rfl); done)); simp only [Act.put, List.setIfInBounds_toArray, List.set_cons_zero, List.set_cons_succ]; refine hK _ ?_; clear hK K)
          (refine wq_step (fun K hK => ?_); apply q_take (by kernel_rfl); (focus (intro w hw; (try dsimp only at hw); go_simp; (try with_reducible rfl); done)); simp only [Act.put, List.setIfInBounds_toArray, List.set_cons_zero, List.set_cons_succ]; refine hK _ ?_; clear hK K)
          (refine wq_step (fun K hK => ?_); apply q_take (by kernel_rfl); (focus (intro w hw; (try dsimp only at hw); go_simp; (try with_reducible rfl); done)); simp only [Act.put, List.setIfInBounds_toArray, List.set_cons_zero, List.set_cons_succ]; refine hK _ ?_; clear hK K)
          (refine wq_step (fun K hK => ?_); apply q_take (by kernel_rfl); (focus (intro w hw; (try dsimp only at hw); go_simp; (try with_reducible rfl); done)); simp only [Act.put, List.setIfInBounds_toArray, List.set_cons_zero, List.set_cons_succ]; refine hK _ ?_; clear hK K)
          (refine wq_step (fun K hK => ?_); apply q_take (by kernel_rfl); (focus (intro w hw; (try dsimp only at hw); go_simp; (try with_reducible rfl); done)); simp only [Act.put, List.setIfInBounds_toArray, List.set_cons_zero, List.set_cons_succ]; refine hK _ ?_; clear hK K)
          (refine wq_step (fun K hK => ?_); apply q_take (by kernel_rfl); (focus (intro w hw; (try dsimp only at hw); go_simp; (try with_reducible rfl); done)); simp only [Act.put, List.setIfInBounds_toArray, List.set_cons_zero, List.set_cons_succ]; refine hK _ ?_; clear hK K)
          (refine wq_step (fun K hK => ?_); apply q_take (by kernel_rfl); (focus (intro w hw; (try dsimp only at hw); go_simp; (try with_reducible rfl); done)); simp only [Act.put, List.setIfInBounds_toArray, List.set_cons_zero, List.set_cons_succ]; refine hK _ ?_; clear hK K)
          (refine wq_step (fun K hK => ?_); apply q_take (by rfl); (focus (intro w hw; (try dsimp only at hw); go_simp; (try with_reducible rfl); done)); simp only [Act.put, List.setIfInBounds_toArray, List.set_cons_zero, List.set_cons_succ]; refine hK _ ?_; clear hK K)
          refine wq_nil ?_
          intro wq hwq
          have hAq := H7.out.1.below hwq
          have hRq := H7.out.2.1.below hwq
          have f0 := hAq.cell 0
          have f1 := hAq.cell 1
          have ff := hAq.frozen
          have k0 := hRq.cell 0
          have k1 := hRq.cell 1
          have kf := hRq.frozen
          simp only [List.getElem?_cons_succ, List.getElem?_cons_zero] at f0 f1 k0 k1
          have hlA := hAq.lt
          have hlR := hRq.lt
          have hne1 := HXX.out.1
          have hne2 := HXX.out.1.symm
          have nb1 : b2 ≠ xa := by have := HXX.out.2; omega
          have nb2 : b2 ≠ xr := by have := HXX.out.2; omega
          have g2 := HG2.out wq (H7.out.2.2.2.2.1.trans (hwq.mono H7.out.2.2.2.2.1.size))
          have HWQ := hide hwq
          have c1 : IntKind.i64.wrap ph = ph := IntWalk.i64_in _ (by omega)
          have c2 : Int.tmod ph 2 = ph % 2 := Int.tmod_eq_emod_of_nonneg hpb.1
          have c3 : IntKind.i64.wrap (ph % 2) = ph % 2 := IntWalk.i64_in _ (by omega)
          have c5 : IntKind.i64.wrap (a0 + 1) = a0 + 1 := IntWalk.i64_in _ (by have := HI.out.2.1.b; have := HLN.out; omega)
          have c6 : IntKind.i64.wrap (r0 + 1) = r0 + 1 := IntWalk.i64_in _ (by have := HI.out.2.1.b; have := HLN.out; omega)
          have HAR := hide (And.intro hAq hRq)
          clear hAq hRq x0 y0 n6 n7 e0' e2' r7 hwq
          by_cases hp1 : ph % 2 = 0
          · have c4 : IntKind.i64.wrap (1 + ph % 2) = 1 := by rw [hp1]; exact IntWalk.i64_in _ (by omega)
            have HP1 := hide hp1
            clear hp1
            go_upto_region 25 with fail
            obtain ⟨w8, hw8⟩ : ∃ w8, (((wq.setCell ⟨xa, 1, none⟩ (.int .i64 0)).setCell ⟨xr, 1, none⟩ (.int .i64 0)).setCell ⟨xa, 0, none⟩ (.int .i64 (a0 + 1))).setCell ⟨xr, 0, none⟩ (.int .i64 (r0 + 1)) = w8 := ⟨_, rfl⟩
            have hX : Blk w8 xa 30 [.int .i64 (a0 + 1), .int .i64 0] ∧ Blk w8 xr 30 [.int .i64 (r0 + 1), .int .i64 0] ∧ Chg [xa, xr] wq w8 := by
              subst hw8
              exact ⟨(((HAR.out.1.set 1 _).oth HXX.out.1 _).set 0 _).oth HXX.out.1 _, (((HAR.out.2.oth HXX.out.1.symm _).set 1 _).oth HXX.out.1.symm _).set 0 _, ((((Chg.refl _ _).setCell (Or.inl (by simp)) _).setCell (Or.inl (by simp)) _).setCell (Or.inl (by simp)) _).setCell (Or.inl (by simp)) _⟩
            rw [hw8]
            have hal : Alien wq [xa, xr] := fun g hg => by
              simp only [List.mem_cons, List.not_mem_nil, or_false] at hg
              rcases hg with rfl | rfl
              · exact ⟨_, _, HAR.out.1, by decide, by decide, by decide, by decide, by decide⟩
              · exact ⟨_, _, HAR.out.2, by decide, by decide, by decide, by decide, by decide⟩
            have hcl := (HC7.out.below HWQ.out).local rfl rfl (H7.out.2.2.2.2.2.2.1.chg (L := []) (Chg.of_below HWQ.out) (by simp)) hal hX.2.2
            have hb8 : Below W.heap.size W w8 := Chg.onto (H7.out.2.2.2.2.1.trans (HWQ.out.mono H7.out.2.2.2.2.1.size)) (Nat.le_trans H7.out.2.2.2.2.1.size HWQ.out.size) hX.2.2 (fun z hz => by
              simp only [List.mem_cons, List.not_mem_nil, or_false] at hz
              rcases hz with rfl | rfl
              · exact HXX.out.2.1
              · exact HXX.out.2.2)
            have hE8 : w8.cell? ⟨b, o, none⟩ = some (.int .i64 (40 + 1)) := by
              rw [hX.2.2.cell (p := ⟨b, o, none⟩) (Nat.lt_of_lt_of_le H7.out.2.2.2.2.2.2.2.1 HWQ.out.size) (by simp; exact ⟨H7.out.2.2.2.2.2.2.2.2.2.1, H7.out.2.2.2.2.2.2.2.2.2.2⟩), HWQ.out.cell (p := ⟨b, o, none⟩) H7.out.2.2.2.2.2.2.2.1]
              exact H7.out.2.2.2.2.2.2.2.2.1
            have hbl8 : b < w8.heap.size := Nat.lt_of_lt_of_le H7.out.2.2.2.2.2.2.2.1 (Nat.le_trans HWQ.out.size hX.2.2.size)
            have e0' : ∀ w', Below w8.heap.size w8 w' → w'.cell? ⟨b, o, none⟩ = some (.int .i64 (40 + 1)) := fun w' hb => (hb.cell (p := ⟨b, o, none⟩) hbl8).trans hE8
            have r8 := Below.refl w8.heap.size w8
            have HNM := hide (fun w' (hb : Below w8.heap.size w8 w') => cnum_calls (hcl.1.below hb))
            simp only [] at HNM
            have H8 := hide (And.intro hcl.1 (And.intro hcl.2 (And.intro hX (And.intro hb8 (And.intro H7.out.2.2.1 (And.intro H7.out.2.2.2.1 H7.out.2.2.2.2.2.1))))))
            have HHD : Hid (∀ w' n2 bb, Below w8.heap.size w8 w' → w8.heap.size ≤ n2 → w8.heap.size ≤ bb → Blk w' n2 3 [.int .i64 3, .int .i64 ((i + 1 : Nat) : Int), .int .i64 0, .int .i64 1] → Blk w' bb 5 (bys (val16 1)) → Calls Tryz.prog 12 #[.pointer (some ⟨c, 0, none⟩), .int .i64 (40 + 1), .agg #[.int .i64 16, .slice (some ⟨n2, 0, none⟩) 4 4, .slice (some ⟨bb, 0, none⟩) 16 16, .slice none 0 0]] w' fun e w'' => e = .returned (.tuple #[]) ∧
                ∃ F9, CM w'' F9 c (some (xb, mS 16 2)) mPr (3 * i + 1 + 2) ⟨3, i + 1, (T.beg 1).fin 1 1, none, some ⟨0, val16 1, 1⟩, []⟩ ∧ Chg F7 w8 w'' ∧ ∀ z ∈ F9, z ∈ F7 ∨ w8.heap.size ≤ z) := hide (fun w' n2 bb hb h1 h2 hn2 hbb => by
              have h3 := chandle_ok (k := wT 1 [] 0) (H8.out.1.below hb) rfl (mPr_seen 16 2 (by omega) (by omega)) (by simp [wT]) (by simp [wT]) (nb := n2) (p := 1) (fr := 40 + 1) hn2 (fun hx => by have := H8.out.1.lt n2 hx; omega) (B := some ⟨bb, 0, none⟩) (cB := 16) (L := val16 1)
                ⟨by simp [val16], ⟨by simp [val16, bys], fun _ => ⟨bb, 0, rfl, hbb.lt, fun j u hu => by rw [Nat.zero_add, hbb.cell j]; exact hu⟩⟩, fun a ha => by cases ha; exact ⟨rfl, fun hx => by have := H8.out.1.lt bb hx; omega, hbb.lt⟩⟩ (by simp [val16]) (by simp [val16]) (by simp [wT]) (by unfold i64ok; omega) (by have := HLN.out; omega) (by have := HLN.out; simp only []; omega) (by simp)
              have h4 := cT_okay i 1 (T.beg 1) 1 (val16 1)
              rw [show ((40 : Int) + 1 - 40) = ((1 : Nat) : Int) from by omega, h4] at h3
              refine h3.mono fun e w'' ⟨he, F9, hc9, hch9, hf9⟩ => ⟨he, F9, hc9, (Chg.of_below (L := F7) hb).trans hch9 (fun z hz => Or.inl hz), fun z hz => (hf9 z hz).imp id (fun h5 => Nat.le_trans hb.size h5)⟩)
            clear hX hal hcl hb8 hE8 hbl8 hw8 f0 f1 ff k0 k1 kf hlA hlR hne1 hne2 nb1 nb2 g2 c1 c2 c3 c4 c5 c6
            refine region_lexg (fun w' => Below w8.heap.size w8 w') [11] 4 [(2, 0), (2, 1), (2, 2), (2, 3), (0, 4), (2, 5), (2, 7), (1, 6)] #[true, true, true, true, true, true, true, true, false, false, false, false] (by kernel_rfl) (by kernel_rfl) (by decide) (by kernel_rfl) (by kernel_rfl) (fun _ _ _ _ _ h => h) (by (first | (with_reducible assumption) | (repeat (first | (with_reducible assumption) | (with_reducible refine Below.drew ?_) | (with_reducible refine belowL ?_ _))))) (fun hS0 => ?_)
            simp only [List.map_cons, List.map_nil, List.getElem?_toArray, List.getElem?_cons_succ, List.getElem?_cons_zero]
            (apply lexg_pure (by rfl); (focus (intro w; go_simp; (try with_reducible rfl); done)); simp only [Act.put, List.setIfInBounds_toArray, List.set_cons_zero, List.set_cons_succ])
            (apply lexg_pure (by rfl); (focus (intro w; go_simp; (try with_reducible rfl); done)); simp only [Act.put, List.setIfInBounds_toArray, List.set_cons_zero, List.set_cons_succ])
            (apply lexg_pure (by rfl); (focus (intro w; go_simp; (try with_reducible rfl); done)); simp only [Act.put, List.setIfInBounds_toArray, List.set_cons_zero, List.set_cons_succ])
            (apply lexg_pure (by rfl); (focus (intro w; go_simp; (try with_reducible rfl); done)); simp only [Act.put, List.setIfInBounds_toArray, List.set_cons_zero, List.set_cons_succ])
            (apply lexg_take (by rfl); (focus (intro w hw; (try dsimp only at hw); go_simp; (try with_reducible rfl); done)); simp only [Act.put, List.setIfInBounds_toArray, List.set_cons_zero, List.set_cons_succ])
            (apply lexg_pure (by rfl); (focus (intro w; go_simp; (try with_reducible rfl); done)); simp only [Act.put, List.setIfInBounds_toArray, List.set_cons_zero, List.set_cons_succ])
            (apply lexg_pure (by rfl); (focus (intro w; go_simp; (try with_reducible rfl); done)); simp only [Act.put, List.setIfInBounds_toArray, List.set_cons_zero, List.set_cons_succ])
            (refine lexg_eff (by rfl) ?_; go_simp; (first
                                | (go_at_call 13; refine (HNM.out _ (by repeat (first | (with_reducible assumption) | (with_reducible refine Below.drew ?_)))).mono ?_; rintro e w9 ⟨rfl, rfl⟩)
                                | (go_at_call 14; refine (value_calls 1 (by omega) _).mono ?_; rintro e w9 ⟨bb, rfl, hbb, hbl9, hb9⟩; have hb9q : Below w8.heap.size w8 w9 := belowA hb9 (by (repeat (first | (with_reducible assumption) | (with_reducible refine Below.drew ?_) | (with_reducible refine belowL ?_ _)))); have hbl8 : w8.heap.size ≤ bb := (by first | exact hbl9 | (simp at hbl9; omega)); (try (have hn2 : Blk w9 w8.heap.size 3 [.int .i64 3, .int .i64 ((i + 1 : Nat) : Int), .int .i64 0, .int .i64 1] := (by refine Blk.below ?_ hb9; first | exact Blk.new rfl | exact Blk.drewT (Blk.new rfl) | exact Blk.drewT (Blk.drewT (Blk.new rfl))))); have H9 := hide (And.intro hbb hbl8); clear hbb hbl9 hbl8 hb9)
                                | (go_at_call 12; refine (HHD.out w9 w8.heap.size bb hb9q (Nat.le_refl _) H9.out.2 hn2 H9.out.1).mono ?_; rintro e wh ⟨rfl, hh⟩; have HH := hide hh; clear hh)
                                | (go_at_call 12; refine (HHD.out _ w9.heap.size bb (belowL hb9q _) hb9q.size H9.out.2 (Blk.new rfl) (H9.out.1.alloc _)).mono ?_; rintro e wh ⟨rfl, hh⟩; have HH := hide hh; clear hh)); refine lexg_both (by (first | (with_reducible assumption) | (repeat (first | (with_reducible assumption) | (with_reducible refine Below.drew ?_) | (with_reducible refine belowL ?_ _))))) (fun hS1 => ?_))
            refine lexg_nil (fun hS2 => ?_)
            refine lexg_fork2 (i := 8) (j := 9) (by kernel_rfl) (by kernel_rfl : _ = #[true, true, true, true, true, true, true, true, true, false, false, false]) (by kernel_rfl : _ = #[true, true, true, true, true, true, true, true, false, true, false, false]) ?_ ?_
            focus
              apply lexg_act (by simp only [List.getElem?_toArray, List.getElem?_cons_succ, List.getElem?_cons_zero]; rfl) (by rfl)
              go_simp
              refine lexg_both (by (first | (with_reducible assumption) | (repeat (first | (with_reducible assumption) | (with_reducible refine Below.drew ?_) | (with_reducible refine belowL ?_ _))))) (fun hS1 => ?_)
              refine lexg_more 0 [(1, 9), (2, 10), (3, 11)] #[true, true, true, true, true, true, true, true, true, true, true, true] (by kernel_rfl) (by decide) (by kernel_rfl) (by kernel_rfl) (fun _ _ _ _ _ h => h) (fun _ => by assumption) ?_
              simp only [List.map_cons, List.map_nil, List.getElem?_toArray, List.getElem?_cons_succ, List.getElem?_cons_zero]
              (refine lexg_eff (by rfl) ?_; go_simp; (first
                                | (go_at_call 13; refine (HNM.out _ (by repeat (first | (with_reducible assumption) | (with_reducible refine Below.drew ?_)))).mono ?_; rintro e w9 ⟨rfl, rfl⟩)
                                | (go_at_call 14; refine (value_calls 1 (by omega) _).mono ?_; rintro e w9 ⟨bb, rfl, hbb, hbl9, hb9⟩; have hb9q : Below w8.heap.size w8 w9 := belowA hb9 (by (repeat (first | (with_reducible assumption) | (with_reducible refine Below.drew ?_) | (with_reducible refine belowL ?_ _)))); have hbl8 : w8.heap.size ≤ bb := (by first | exact hbl9 | (simp at hbl9; omega)); (try (have hn2 : Blk w9 w8.heap.size 3 [.int .i64 3, .int .i64 ((i + 1 : Nat) : Int), .int .i64 0, .int .i64 1] := (by refine Blk.below ?_ hb9; first | exact Blk.new rfl | exact Blk.drewT (Blk.new rfl) | exact Blk.drewT (Blk.drewT (Blk.new rfl))))); have H9 := hide (And.intro hbb hbl8); clear hbb hbl9 hbl8 hb9)
                                | (go_at_call 12; refine (HHD.out w9 w8.heap.size bb hb9q (Nat.le_refl _) H9.out.2 hn2 H9.out.1).mono ?_; rintro e wh ⟨rfl, hh⟩; have HH := hide hh; clear hh)
                                | (go_at_call 12; refine (HHD.out _ w9.heap.size bb (belowL hb9q _) hb9q.size H9.out.2 (Blk.new rfl) (H9.out.1.alloc _)).mono ?_; rintro e wh ⟨rfl, hh⟩; have HH := hide hh; clear hh)); refine lexg_both (by (first | (with_reducible assumption) | (repeat (first | (with_reducible assumption) | (with_reducible refine Below.drew ?_) | (with_reducible refine belowL ?_ _))))) (fun hS1 => ?_))
              (apply lexg_pure (by rfl); (focus (intro w; go_simp; (try with_reducible rfl); done)); simp only [Act.put, List.setIfInBounds_toArray, List.set_cons_zero, List.set_cons_succ])
              (refine lexg_effN (by rfl) ?_; go_simp; (first
                                | (go_at_call 13; refine (HNM.out _ (by repeat (first | (with_reducible assumption) | (with_reducible refine Below.drew ?_)))).mono ?_; rintro e w9 ⟨rfl, rfl⟩)
                                | (go_at_call 14; refine (value_calls 1 (by omega) _).mono ?_; rintro e w9 ⟨bb, rfl, hbb, hbl9, hb9⟩; have hb9q : Below w8.heap.size w8 w9 := belowA hb9 (by (repeat (first | (with_reducible assumption) | (with_reducible refine Below.drew ?_) | (with_reducible refine belowL ?_ _)))); have hbl8 : w8.heap.size ≤ bb := (by first | exact hbl9 | (simp at hbl9; omega)); (try (have hn2 : Blk w9 w8.heap.size 3 [.int .i64 3, .int .i64 ((i + 1 : Nat) : Int), .int .i64 0, .int .i64 1] := (by refine Blk.below ?_ hb9; first | exact Blk.new rfl | exact Blk.drewT (Blk.new rfl) | exact Blk.drewT (Blk.drewT (Blk.new rfl))))); have H9 := hide (And.intro hbb hbl8); clear hbb hbl9 hbl8 hb9)
                                | (go_at_call 12; refine (HHD.out w9 w8.heap.size bb hb9q (Nat.le_refl _) H9.out.2 hn2 H9.out.1).mono ?_; rintro e wh ⟨rfl, hh⟩; have HH := hide hh; clear hh)
                                | (go_at_call 12; refine (HHD.out _ w9.heap.size bb (belowL hb9q _) hb9q.size H9.out.2 (Blk.new rfl) (H9.out.1.alloc _)).mono ?_; rintro e wh ⟨rfl, hh⟩; have HH := hide hh; clear hh)))
              refine lexg_nil (fun _ => wpAnyG_done (by kernel_rfl) ?_ _)
            rotate_left
            focus
              apply lexg_act (by simp only [List.getElem?_toArray, List.getElem?_cons_succ, List.getElem?_cons_zero]; rfl) (by rfl)
              go_simp
              (first
                                | (go_at_call 13; refine (HNM.out _ (by repeat (first | (with_reducible assumption) | (with_reducible refine Below.drew ?_)))).mono ?_; rintro e w9 ⟨rfl, rfl⟩)
                                | (go_at_call 14; refine (value_calls 1 (by omega) _).mono ?_; rintro e w9 ⟨bb, rfl, hbb, hbl9, hb9⟩; have hb9q : Below w8.heap.size w8 w9 := belowA hb9 (by (repeat (first | (with_reducible assumption) | (with_reducible refine Below.drew ?_) | (with_reducible refine belowL ?_ _)))); have hbl8 : w8.heap.size ≤ bb := (by first | exact hbl9 | (simp at hbl9; omega)); (try (have hn2 : Blk w9 w8.heap.size 3 [.int .i64 3, .int .i64 ((i + 1 : Nat) : Int), .int .i64 0, .int .i64 1] := (by refine Blk.below ?_ hb9; first | exact Blk.new rfl | exact Blk.drewT (Blk.new rfl) | exact Blk.drewT (Blk.drewT (Blk.new rfl))))); have H9 := hide (And.intro hbb hbl8); clear hbb hbl9 hbl8 hb9)
                                | (go_at_call 12; refine (HHD.out w9 w8.heap.size bb hb9q (Nat.le_refl _) H9.out.2 hn2 H9.out.1).mono ?_; rintro e wh ⟨rfl, hh⟩; have HH := hide hh; clear hh)
                                | (go_at_call 12; refine (HHD.out _ w9.heap.size bb (belowL hb9q _) hb9q.size H9.out.2 (Blk.new rfl) (H9.out.1.alloc _)).mono ?_; rintro e wh ⟨rfl, hh⟩; have HH := hide hh; clear hh))
              refine lexg_both (by (first | (with_reducible assumption) | (repeat (first | (with_reducible assumption) | (with_reducible refine Below.drew ?_) | (with_reducible refine belowL ?_ _))))) (fun hS1 => ?_)
              refine lexg_more 0 [(1, 8), (2, 10), (3, 11)] #[true, true, true, true, true, true, true, true, true, true, true, true] (by kernel_rfl) (by decide) (by kernel_rfl) (by kernel_rfl) (fun _ _ _ _ _ h => h) (fun _ => by assumption) ?_
              simp only [List.map_cons, List.map_nil, List.getElem?_toArray, List.getElem?_cons_succ, List.getElem?_cons_zero]
              (refine lexg_eff (by rfl) ?_; go_simp; refine lexg_both (by (first | (with_reducible assumption) | (repeat (first | (with_reducible assumption) | (with_reducible refine Below.drew ?_) | (with_reducible refine belowL ?_ _))))) (fun hS1 => ?_))
              (apply lexg_pure (by rfl); (focus (intro w; go_simp; (try with_reducible rfl); done)); simp only [Act.put, List.setIfInBounds_toArray, List.set_cons_zero, List.set_cons_succ])
              (refine lexg_effN (by rfl) ?_; go_simp; (first
                                | (go_at_call 13; refine (HNM.out _ (by repeat (first | (with_reducible assumption) | (with_reducible refine Below.drew ?_)))).mono ?_; rintro e w9 ⟨rfl, rfl⟩)
                                | (go_at_call 14; refine (value_calls 1 (by omega) _).mono ?_; rintro e w9 ⟨bb, rfl, hbb, hbl9, hb9⟩; have hb9q : Below w8.heap.size w8 w9 := belowA hb9 (by (repeat (first | (with_reducible assumption) | (with_reducible refine Below.drew ?_) | (with_reducible refine belowL ?_ _)))); have hbl8 : w8.heap.size ≤ bb := (by first | exact hbl9 | (simp at hbl9; omega)); (try (have hn2 : Blk w9 w8.heap.size 3 [.int .i64 3, .int .i64 ((i + 1 : Nat) : Int), .int .i64 0, .int .i64 1] := (by refine Blk.below ?_ hb9; first | exact Blk.new rfl | exact Blk.drewT (Blk.new rfl) | exact Blk.drewT (Blk.drewT (Blk.new rfl))))); have H9 := hide (And.intro hbb hbl8); clear hbb hbl9 hbl8 hb9)
                                | (go_at_call 12; refine (HHD.out w9 w8.heap.size bb hb9q (Nat.le_refl _) H9.out.2 hn2 H9.out.1).mono ?_; rintro e wh ⟨rfl, hh⟩; have HH := hide hh; clear hh)
                                | (go_at_call 12; refine (HHD.out _ w9.heap.size bb (belowL hb9q _) hb9q.size H9.out.2 (Blk.new rfl) (H9.out.1.alloc _)).mono ?_; rintro e wh ⟨rfl, hh⟩; have HH := hide hh; clear hh)))
              refine lexg_nil (fun _ => wpAnyG_done (by kernel_rfl) ?_ _)
            rotate_left
            · skip
              rename_i hunm
              clear hunm e0' r8
              (try clear hS0 hS1 hS2 hn2 hb9q)
              obtain ⟨F9, hc9, hch9, hf9⟩ := HH.out
              have HTK := hide (ctake_some hc9 rfl)
              have hA9 := H8.out.2.2.1.1.chg hch9 H8.out.2.2.2.2.1
              have hR9 := H8.out.2.2.1.2.1.chg hch9 H8.out.2.2.2.2.2.1
              have hnA9 := notin_step H8.out.2.2.2.2.1 H8.out.2.2.1.1.lt hf9
              have hnR9 := notin_step H8.out.2.2.2.2.2.1 H8.out.2.2.1.2.1.lt hf9
              have hb9 : Below W.heap.size W wh := Chg.onto H8.out.2.2.2.1 H8.out.2.2.2.1.size hch9 H8.out.2.2.2.2.2.2
              have hF9 : ∀ z ∈ F9, W.heap.size ≤ z := fun z hz => (hf9 z hz).elim (H8.out.2.2.2.2.2.2 z) (fun h3 => Nat.le_trans H8.out.2.2.2.1.size h3)
              have hv9 : VF ([xa, xr] ++ F9) wh xb (mS 16 2) := H8.out.2.1.step hch9 hf9 hc9.lt (fun g hg => by
                simp only [List.mem_cons, List.not_mem_nil, or_false] at hg
                rcases hg with rfl | rfl
                · exact hA9.lt
                · exact hR9.lt)
              have H10 := hide (And.intro hA9 (And.intro hR9 (And.intro hnA9 (And.intro hnR9 (And.intro hb9 (And.intro hF9 hv9))))))
              clear hc9 hch9 hf9 hA9 hR9 hnA9 hnR9 hb9 hF9 hv9
              go_wp2_with fail
              refine HTK.out.mono ?_
              rintro e wt ⟨At, ct, Ft, rfl, hrt, hct, hcht, hft⟩
              have hAt := H10.out.1.chg hcht H10.out.2.2.1
              have hRt := H10.out.2.1.chg hcht H10.out.2.2.2.1
              have hbt : Below W.heap.size W wt := Chg.onto H10.out.2.2.2.2.1 H10.out.2.2.2.2.1.size hcht H10.out.2.2.2.2.2.1
              have hvt : VF ([xa, xr] ++ Ft) wt xb (mS 16 2) := H10.out.2.2.2.2.2.2.step hcht (fun z hz => Or.inl (hft z hz)) hct.lt (fun g hg => by
                simp only [List.mem_cons, List.not_mem_nil, or_false] at hg
                rcases hg with rfl | rfl
                · exact hAt.lt
                · exact hRt.lt)
              have HT := hide (And.intro hct (And.intro hAt (And.intro hRt (And.intro hbt (And.intro hvt hft)))))
              clear hrt hct hcht hft hAt hRt hbt hvt HTK
              have hi30 : i ≤ 30 := by have := HLN.out; omega
              go_wp2
              go_roundw
              case rel =>
                have hbw : ∀ ob, Below wt.heap.size wt (wt.alloc ob) := fun ob => belowL (Below.refl _ _) _
                have htr := HI.out.2.1.at1 (p := 1) (by omega)
                rw [if_pos rfl] at htr
                exact ⟨i + 1, Ft, _, (a0 + 1), 0, (r0 + 1), 0, by omega, by go_num, (HT.out.1.below (hbw _)).mono (by omega), (by simpa using htr), HT.out.2.1.below (hbw _), HT.out.2.2.1.below (hbw _), HT.out.2.2.2.1.trans ((hbw _).mono HT.out.2.2.2.1.size), fun z hz => H10.out.2.2.2.2.2.1 z (HT.out.2.2.2.2.2 z hz), fun hx => H10.out.2.2.1 (HT.out.2.2.2.2.2 _ hx), fun hx => H10.out.2.2.2.1 (HT.out.2.2.2.2.2 _ hx), HT.out.2.2.2.2.1.chg (L := []) (Chg.of_below (hbw _)) (by simp)⟩
              case measure => simp [intOf]; omega
            · skip
              rename_i hunm
              clear hunm e0' r8
              (try clear hS0 hS1 hS2 hn2 hb9q)
              obtain ⟨F9, hc9, hch9, hf9⟩ := HH.out
              have HTK := hide (ctake_some hc9 rfl)
              have hA9 := H8.out.2.2.1.1.chg hch9 H8.out.2.2.2.2.1
              have hR9 := H8.out.2.2.1.2.1.chg hch9 H8.out.2.2.2.2.2.1
              have hnA9 := notin_step H8.out.2.2.2.2.1 H8.out.2.2.1.1.lt hf9
              have hnR9 := notin_step H8.out.2.2.2.2.2.1 H8.out.2.2.1.2.1.lt hf9
              have hb9 : Below W.heap.size W wh := Chg.onto H8.out.2.2.2.1 H8.out.2.2.2.1.size hch9 H8.out.2.2.2.2.2.2
              have hF9 : ∀ z ∈ F9, W.heap.size ≤ z := fun z hz => (hf9 z hz).elim (H8.out.2.2.2.2.2.2 z) (fun h3 => Nat.le_trans H8.out.2.2.2.1.size h3)
              have hv9 : VF ([xa, xr] ++ F9) wh xb (mS 16 2) := H8.out.2.1.step hch9 hf9 hc9.lt (fun g hg => by
                simp only [List.mem_cons, List.not_mem_nil, or_false] at hg
                rcases hg with rfl | rfl
                · exact hA9.lt
                · exact hR9.lt)
              have H10 := hide (And.intro hA9 (And.intro hR9 (And.intro hnA9 (And.intro hnR9 (And.intro hb9 (And.intro hF9 hv9))))))
              clear hc9 hch9 hf9 hA9 hR9 hnA9 hnR9 hb9 hF9 hv9
              go_wp2_with fail
              refine HTK.out.mono ?_
              rintro e wt ⟨At, ct, Ft, rfl, hrt, hct, hcht, hft⟩
              have hAt := H10.out.1.chg hcht H10.out.2.2.1
              have hRt := H10.out.2.1.chg hcht H10.out.2.2.2.1
              have hbt : Below W.heap.size W wt := Chg.onto H10.out.2.2.2.2.1 H10.out.2.2.2.2.1.size hcht H10.out.2.2.2.2.2.1
              have hvt : VF ([xa, xr] ++ Ft) wt xb (mS 16 2) := H10.out.2.2.2.2.2.2.step hcht (fun z hz => Or.inl (hft z hz)) hct.lt (fun g hg => by
                simp only [List.mem_cons, List.not_mem_nil, or_false] at hg
                rcases hg with rfl | rfl
                · exact hAt.lt
                · exact hRt.lt)
              have HT := hide (And.intro hct (And.intro hAt (And.intro hRt (And.intro hbt (And.intro hvt hft)))))
              clear hrt hct hcht hft hAt hRt hbt hvt HTK
              have hi30 : i ≤ 30 := by have := HLN.out; omega
              go_wp2
              go_roundw
              case rel =>
                have hbw : ∀ ob, Below wt.heap.size wt (wt.alloc ob) := fun ob => belowL (Below.refl _ _) _
                have htr := HI.out.2.1.at1 (p := 1) (by omega)
                rw [if_pos rfl] at htr
                exact ⟨i + 1, Ft, _, (a0 + 1), 0, (r0 + 1), 0, by omega, by go_num, (HT.out.1.below (hbw _)).mono (by omega), (by simpa using htr), HT.out.2.1.below (hbw _), HT.out.2.2.1.below (hbw _), HT.out.2.2.2.1.trans ((hbw _).mono HT.out.2.2.2.1.size), fun z hz => H10.out.2.2.2.2.2.1 z (HT.out.2.2.2.2.2 z hz), fun hx => H10.out.2.2.1 (HT.out.2.2.2.2.2 _ hx), fun hx => H10.out.2.2.2.1 (HT.out.2.2.2.2.2 _ hx), HT.out.2.2.2.2.1.chg (L := []) (Chg.of_below (hbw _)) (by simp)⟩
              case measure => simp [intOf]; omega
          · have c4 : IntKind.i64.wrap (1 + ph % 2) = 2 := by rw [show ph % 2 = 1 from by omega]; exact IntWalk.i64_in _ (by omega)
            have HP1 := hide hp1
            clear hp1
            go_upto_region 25 with fail
            obtain ⟨w8, hw8⟩ : ∃ w8, ((wq.setCell ⟨xa, 1, none⟩ (.int .i64 0)).setCell ⟨xr, 1, none⟩ (.int .i64 0)).setCell ⟨xa, 0, none⟩ (.int .i64 (a0 + 1)) = w8 := ⟨_, rfl⟩
            have hX : Blk w8 xa 30 [.int .i64 (a0 + 1), .int .i64 0] ∧ Blk w8 xr 30 [.int .i64 r0, .int .i64 0] ∧ Chg [xa, xr] wq w8 := by
              subst hw8
              exact ⟨((HAR.out.1.set 1 _).oth HXX.out.1 _).set 0 _, ((HAR.out.2.oth HXX.out.1.symm _).set 1 _).oth HXX.out.1.symm _, (((Chg.refl _ _).setCell (Or.inl (by simp)) _).setCell (Or.inl (by simp)) _).setCell (Or.inl (by simp)) _⟩
            rw [hw8]
            have hal : Alien wq [xa, xr] := fun g hg => by
              simp only [List.mem_cons, List.not_mem_nil, or_false] at hg
              rcases hg with rfl | rfl
              · exact ⟨_, _, HAR.out.1, by decide, by decide, by decide, by decide, by decide⟩
              · exact ⟨_, _, HAR.out.2, by decide, by decide, by decide, by decide, by decide⟩
            have hcl := (HC7.out.below HWQ.out).local rfl rfl (H7.out.2.2.2.2.2.2.1.chg (L := []) (Chg.of_below HWQ.out) (by simp)) hal hX.2.2
            have hb8 : Below W.heap.size W w8 := Chg.onto (H7.out.2.2.2.2.1.trans (HWQ.out.mono H7.out.2.2.2.2.1.size)) (Nat.le_trans H7.out.2.2.2.2.1.size HWQ.out.size) hX.2.2 (fun z hz => by
              simp only [List.mem_cons, List.not_mem_nil, or_false] at hz
              rcases hz with rfl | rfl
              · exact HXX.out.2.1
              · exact HXX.out.2.2)
            have hE8 : w8.cell? ⟨b, o, none⟩ = some (.int .i64 (40 + 1)) := by
              rw [hX.2.2.cell (p := ⟨b, o, none⟩) (Nat.lt_of_lt_of_le H7.out.2.2.2.2.2.2.2.1 HWQ.out.size) (by simp; exact ⟨H7.out.2.2.2.2.2.2.2.2.2.1, H7.out.2.2.2.2.2.2.2.2.2.2⟩), HWQ.out.cell (p := ⟨b, o, none⟩) H7.out.2.2.2.2.2.2.2.1]
              exact H7.out.2.2.2.2.2.2.2.2.1
            have hbl8 : b < w8.heap.size := Nat.lt_of_lt_of_le H7.out.2.2.2.2.2.2.2.1 (Nat.le_trans HWQ.out.size hX.2.2.size)
            have e0' : ∀ w', Below w8.heap.size w8 w' → w'.cell? ⟨b, o, none⟩ = some (.int .i64 (40 + 1)) := fun w' hb => (hb.cell (p := ⟨b, o, none⟩) hbl8).trans hE8
            have r8 := Below.refl w8.heap.size w8
            have HNM := hide (fun w' (hb : Below w8.heap.size w8 w') => cnum_calls (hcl.1.below hb))
            simp only [] at HNM
            have H8 := hide (And.intro hcl.1 (And.intro hcl.2 (And.intro hX (And.intro hb8 (And.intro H7.out.2.2.1 (And.intro H7.out.2.2.2.1 H7.out.2.2.2.2.2.1))))))
            have HHD : Hid (∀ w' n2 bb, Below w8.heap.size w8 w' → w8.heap.size ≤ n2 → w8.heap.size ≤ bb → Blk w' n2 3 [.int .i64 3, .int .i64 ((i + 1 : Nat) : Int), .int .i64 0, .int .i64 2] → Blk w' bb 5 (bys (val16 1)) → Calls Tryz.prog 12 #[.pointer (some ⟨c, 0, none⟩), .int .i64 (40 + 1), .agg #[.int .i64 16, .slice (some ⟨n2, 0, none⟩) 4 4, .slice (some ⟨bb, 0, none⟩) 16 16, .slice none 0 0]] w' fun e w'' => e = .returned (.tuple #[]) ∧
                ∃ F9, CM w'' F9 c (some (xb, mS 16 2)) mPr (3 * i + 1 + 2) ⟨3, i + 1, (T.beg 1).fin 1 2, none, some ⟨0, val16 1, 1⟩, []⟩ ∧ Chg F7 w8 w'' ∧ ∀ z ∈ F9, z ∈ F7 ∨ w8.heap.size ≤ z) := hide (fun w' n2 bb hb h1 h2 hn2 hbb => by
              have h3 := chandle_ok (k := wT 1 [] 0) (H8.out.1.below hb) rfl (mPr_seen 16 2 (by omega) (by omega)) (by simp [wT]) (by simp [wT]) (nb := n2) (p := 2) (fr := 40 + 1) hn2 (fun hx => by have := H8.out.1.lt n2 hx; omega) (B := some ⟨bb, 0, none⟩) (cB := 16) (L := val16 1)
                ⟨by simp [val16], ⟨by simp [val16, bys], fun _ => ⟨bb, 0, rfl, hbb.lt, fun j u hu => by rw [Nat.zero_add, hbb.cell j]; exact hu⟩⟩, fun a ha => by cases ha; exact ⟨rfl, fun hx => by have := H8.out.1.lt bb hx; omega, hbb.lt⟩⟩ (by simp [val16]) (by simp [val16]) (by simp [wT]) (by unfold i64ok; omega) (by have := HLN.out; omega) (by have := HLN.out; simp only []; omega) (by simp)
              have h4 := cT_okay i 1 (T.beg 1) 2 (val16 1)
              rw [show ((40 : Int) + 1 - 40) = ((1 : Nat) : Int) from by omega, h4] at h3
              refine h3.mono fun e w'' ⟨he, F9, hc9, hch9, hf9⟩ => ⟨he, F9, hc9, (Chg.of_below (L := F7) hb).trans hch9 (fun z hz => Or.inl hz), fun z hz => (hf9 z hz).imp id (fun h5 => Nat.le_trans hb.size h5)⟩)
            clear hX hal hcl hb8 hE8 hbl8 hw8 f0 f1 ff k0 k1 kf hlA hlR hne1 hne2 nb1 nb2 g2 c1 c2 c3 c4 c5 c6
            refine region_lexg (fun w' => Below w8.heap.size w8 w') [11] 4 [(2, 0), (2, 1), (2, 2), (2, 3), (0, 4), (2, 5), (2, 7), (1, 6)] #[true, true, true, true, true, true, true, true, false, false, false, false] (by kernel_rfl) (by kernel_rfl) (by decide) (by kernel_rfl) (by kernel_rfl) (fun _ _ _ _ _ h => h) (by (first | (with_reducible assumption) | (repeat (first | (with_reducible assumption) | (with_reducible refine Below.drew ?_) | (with_reducible refine belowL ?_ _))))) (fun hS0 => ?_)
            simp only [List.map_cons, List.map_nil, List.getElem?_toArray, List.getElem?_cons_succ, List.getElem?_cons_zero]
            (apply lexg_pure (by rfl); (focus (intro w; go_simp; (try with_reducible rfl); done)); simp only [Act.put, List.setIfInBounds_toArray, List.set_cons_zero, List.set_cons_succ])
            (apply lexg_pure (by rfl); (focus (intro w; go_simp; (try with_reducible rfl); done)); simp only [Act.put, List.setIfInBounds_toArray, List.set_cons_zero, List.set_cons_succ])
            (apply lexg_pure (by rfl); (focus (intro w; go_simp; (try with_reducible rfl); done)); simp only [Act.put, List.setIfInBounds_toArray, List.set_cons_zero, List.set_cons_succ])
            (apply lexg_pure (by rfl); (focus (intro w; go_simp; (try with_reducible rfl); done)); simp only [Act.put, List.setIfInBounds_toArray, List.set_cons_zero, List.set_cons_succ])
            (apply lexg_take (by rfl); (focus (intro w hw; (try dsimp only at hw); go_simp; (try with_reducible rfl); done)); simp only [Act.put, List.setIfInBounds_toArray, List.set_cons_zero, List.set_cons_succ])
            (apply lexg_pure (by rfl); (focus (intro w; go_simp; (try with_reducible rfl); done)); simp only [Act.put, List.setIfInBounds_toArray, List.set_cons_zero, List.set_cons_succ])
            (apply lexg_pure (by rfl); (focus (intro w; go_simp; (try with_reducible rfl); done)); simp only [Act.put, List.setIfInBounds_toArray, List.set_cons_zero, List.set_cons_succ])
            (refine lexg_eff (by rfl) ?_; go_simp; (first
                                | (go_at_call 13; refine (HNM.out _ (by repeat (first | (with_reducible assumption) | (with_reducible refine Below.drew ?_)))).mono ?_; rintro e w9 ⟨rfl, rfl⟩)
                                | (go_at_call 14; refine (value_calls 1 (by omega) _).mono ?_; rintro e w9 ⟨bb, rfl, hbb, hbl9, hb9⟩; have hb9q : Below w8.heap.size w8 w9 := belowA hb9 (by (repeat (first | (with_reducible assumption) | (with_reducible refine Below.drew ?_) | (with_reducible refine belowL ?_ _)))); have hbl8 : w8.heap.size ≤ bb := (by first | exact hbl9 | (simp at hbl9; omega)); (try (have hn2 : Blk w9 w8.heap.size 3 [.int .i64 3, .int .i64 ((i + 1 : Nat) : Int), .int .i64 0, .int .i64 2] := (by refine Blk.below ?_ hb9; first | exact Blk.new rfl | exact Blk.drewT (Blk.new rfl) | exact Blk.drewT (Blk.drewT (Blk.new rfl))))); have H9 := hide (And.intro hbb hbl8); clear hbb hbl9 hbl8 hb9)
                                | (go_at_call 12; refine (HHD.out w9 w8.heap.size bb hb9q (Nat.le_refl _) H9.out.2 hn2 H9.out.1).mono ?_; rintro e wh ⟨rfl, hh⟩; have HH := hide hh; clear hh)
                                | (go_at_call 12; refine (HHD.out _ w9.heap.size bb (belowL hb9q _) hb9q.size H9.out.2 (Blk.new rfl) (H9.out.1.alloc _)).mono ?_; rintro e wh ⟨rfl, hh⟩; have HH := hide hh; clear hh)); refine lexg_both (by (first | (with_reducible assumption) | (repeat (first | (with_reducible assumption) | (with_reducible refine Below.drew ?_) | (with_reducible refine belowL ?_ _))))) (fun hS1 => ?_))
            refine lexg_nil (fun hS2 => ?_)
            refine lexg_fork2 (i := 8) (j := 9) (by kernel_rfl) (by kernel_rfl : _ = #[true, true, true, true, true, true, true, true, true, false, false, false]) (by kernel_rfl : _ = #[true, true, true, true, true, true, true, true, false, true, false, false]) ?_ ?_
            focus
              apply lexg_act (by simp only [List.getElem?_toArray, List.getElem?_cons_succ, List.getElem?_cons_zero]; rfl) (by rfl)
              go_simp
              refine lexg_both (by (first | (with_reducible assumption) | (repeat (first | (with_reducible assumption) | (with_reducible refine Below.drew ?_) | (with_reducible refine belowL ?_ _))))) (fun hS1 => ?_)
              refine lexg_more 0 [(1, 9), (2, 10), (3, 11)] #[true, true, true, true, true, true, true, true, true, true, true, true] (by kernel_rfl) (by decide) (by kernel_rfl) (by kernel_rfl) (fun _ _ _ _ _ h => h) (fun _ => by assumption) ?_
              simp only [List.map_cons, List.map_nil, List.getElem?_toArray, List.getElem?_cons_succ, List.getElem?_cons_zero]
              (refine lexg_eff (by rfl) ?_; go_simp; (first
                                | (go_at_call 13; refine (HNM.out _ (by repeat (first | (with_reducible assumption) | (with_reducible refine Below.drew ?_)))).mono ?_; rintro e w9 ⟨rfl, rfl⟩)
                                | (go_at_call 14; refine (value_calls 1 (by omega) _).mono ?_; rintro e w9 ⟨bb, rfl, hbb, hbl9, hb9⟩; have hb9q : Below w8.heap.size w8 w9 := belowA hb9 (by (repeat (first | (with_reducible assumption) | (with_reducible refine Below.drew ?_) | (with_reducible refine belowL ?_ _)))); have hbl8 : w8.heap.size ≤ bb := (by first | exact hbl9 | (simp at hbl9; omega)); (try (have hn2 : Blk w9 w8.heap.size 3 [.int .i64 3, .int .i64 ((i + 1 : Nat) : Int), .int .i64 0, .int .i64 2] := (by refine Blk.below ?_ hb9; first | exact Blk.new rfl | exact Blk.drewT (Blk.new rfl) | exact Blk.drewT (Blk.drewT (Blk.new rfl))))); have H9 := hide (And.intro hbb hbl8); clear hbb hbl9 hbl8 hb9)
                                | (go_at_call 12; refine (HHD.out w9 w8.heap.size bb hb9q (Nat.le_refl _) H9.out.2 hn2 H9.out.1).mono ?_; rintro e wh ⟨rfl, hh⟩; have HH := hide hh; clear hh)
                                | (go_at_call 12; refine (HHD.out _ w9.heap.size bb (belowL hb9q _) hb9q.size H9.out.2 (Blk.new rfl) (H9.out.1.alloc _)).mono ?_; rintro e wh ⟨rfl, hh⟩; have HH := hide hh; clear hh)); refine lexg_both (by (first | (with_reducible assumption) | (repeat (first | (with_reducible assumption) | (with_reducible refine Below.drew ?_) | (with_reducible refine belowL ?_ _))))) (fun hS1 => ?_))
              (apply lexg_pure (by rfl); (focus (intro w; go_simp; (try with_reducible rfl); done)); simp only [Act.put, List.setIfInBounds_toArray, List.set_cons_zero, List.set_cons_succ])
              (refine lexg_effN (by rfl) ?_; go_simp; (first
                                | (go_at_call 13; refine (HNM.out _ (by repeat (first | (with_reducible assumption) | (with_reducible refine Below.drew ?_)))).mono ?_; rintro e w9 ⟨rfl, rfl⟩)
                                | (go_at_call 14; refine (value_calls 1 (by omega) _).mono ?_; rintro e w9 ⟨bb, rfl, hbb, hbl9, hb9⟩; have hb9q : Below w8.heap.size w8 w9 := belowA hb9 (by (repeat (first | (with_reducible assumption) | (with_reducible refine Below.drew ?_) | (with_reducible refine belowL ?_ _)))); have hbl8 : w8.heap.size ≤ bb := (by first | exact hbl9 | (simp at hbl9; omega)); (try (have hn2 : Blk w9 w8.heap.size 3 [.int .i64 3, .int .i64 ((i + 1 : Nat) : Int), .int .i64 0, .int .i64 2] := (by refine Blk.below ?_ hb9; first | exact Blk.new rfl | exact Blk.drewT (Blk.new rfl) | exact Blk.drewT (Blk.drewT (Blk.new rfl))))); have H9 := hide (And.intro hbb hbl8); clear hbb hbl9 hbl8 hb9)
                                | (go_at_call 12; refine (HHD.out w9 w8.heap.size bb hb9q (Nat.le_refl _) H9.out.2 hn2 H9.out.1).mono ?_; rintro e wh ⟨rfl, hh⟩; have HH := hide hh; clear hh)
                                | (go_at_call 12; refine (HHD.out _ w9.heap.size bb (belowL hb9q _) hb9q.size H9.out.2 (Blk.new rfl) (H9.out.1.alloc _)).mono ?_; rintro e wh ⟨rfl, hh⟩; have HH := hide hh; clear hh)))
              refine lexg_nil (fun _ => wpAnyG_done (by kernel_rfl) ?_ _)
            rotate_left
            focus
              apply lexg_act (by simp only [List.getElem?_toArray, List.getElem?_cons_succ, List.getElem?_cons_zero]; rfl) (by rfl)
              go_simp
              (first
                                | (go_at_call 13; refine (HNM.out _ (by repeat (first | (with_reducible assumption) | (with_reducible refine Below.drew ?_)))).mono ?_; rintro e w9 ⟨rfl, rfl⟩)
                                | (go_at_call 14; refine (value_calls 1 (by omega) _).mono ?_; rintro e w9 ⟨bb, rfl, hbb, hbl9, hb9⟩; have hb9q : Below w8.heap.size w8 w9 := belowA hb9 (by (repeat (first | (with_reducible assumption) | (with_reducible refine Below.drew ?_) | (with_reducible refine belowL ?_ _)))); have hbl8 : w8.heap.size ≤ bb := (by first | exact hbl9 | (simp at hbl9; omega)); (try (have hn2 : Blk w9 w8.heap.size 3 [.int .i64 3, .int .i64 ((i + 1 : Nat) : Int), .int .i64 0, .int .i64 2] := (by refine Blk.below ?_ hb9; first | exact Blk.new rfl | exact Blk.drewT (Blk.new rfl) | exact Blk.drewT (Blk.drewT (Blk.new rfl))))); have H9 := hide (And.intro hbb hbl8); clear hbb hbl9 hbl8 hb9)
                                | (go_at_call 12; refine (HHD.out w9 w8.heap.size bb hb9q (Nat.le_refl _) H9.out.2 hn2 H9.out.1).mono ?_; rintro e wh ⟨rfl, hh⟩; have HH := hide hh; clear hh)
                                | (go_at_call 12; refine (HHD.out _ w9.heap.size bb (belowL hb9q _) hb9q.size H9.out.2 (Blk.new rfl) (H9.out.1.alloc _)).mono ?_; rintro e wh ⟨rfl, hh⟩; have HH := hide hh; clear hh))
              refine lexg_both (by (first | (with_reducible assumption) | (repeat (first | (with_reducible assumption) | (with_reducible refine Below.drew ?_) | (with_reducible refine belowL ?_ _))))) (fun hS1 => ?_)
              refine lexg_more 0 [(1, 8), (2, 10), (3, 11)] #[true, true, true, true, true, true, true, true, true, true, true, true] (by kernel_rfl) (by decide) (by kernel_rfl) (by kernel_rfl) (fun _ _ _ _ _ h => h) (fun _ => by assumption) ?_
              simp only [List.map_cons, List.map_nil, List.getElem?_toArray, List.getElem?_cons_succ, List.getElem?_cons_zero]
              (refine lexg_eff (by rfl) ?_; go_simp; refine lexg_both (by (first | (with_reducible assumption) | (repeat (first | (with_reducible assumption) | (with_reducible refine Below.drew ?_) | (with_reducible refine belowL ?_ _))))) (fun hS1 => ?_))
              (apply lexg_pure (by rfl); (focus (intro w; go_simp; (try with_reducible rfl); done)); simp only [Act.put, List.setIfInBounds_toArray, List.set_cons_zero, List.set_cons_succ])
              (refine lexg_effN (by rfl) ?_; go_simp; (first
                                | (go_at_call 13; refine (HNM.out _ (by repeat (first | (with_reducible assumption) | (with_reducible refine Below.drew ?_)))).mono ?_; rintro e w9 ⟨rfl, rfl⟩)
                                | (go_at_call 14; refine (value_calls 1 (by omega) _).mono ?_; rintro e w9 ⟨bb, rfl, hbb, hbl9, hb9⟩; have hb9q : Below w8.heap.size w8 w9 := belowA hb9 (by (repeat (first | (with_reducible assumption) | (with_reducible refine Below.drew ?_) | (with_reducible refine belowL ?_ _)))); have hbl8 : w8.heap.size ≤ bb := (by first | exact hbl9 | (simp at hbl9; omega)); (try (have hn2 : Blk w9 w8.heap.size 3 [.int .i64 3, .int .i64 ((i + 1 : Nat) : Int), .int .i64 0, .int .i64 2] := (by refine Blk.below ?_ hb9; first | exact Blk.new rfl | exact Blk.drewT (Blk.new rfl) | exact Blk.drewT (Blk.drewT (Blk.new rfl))))); have H9 := hide (And.intro hbb hbl8); clear hbb hbl9 hbl8 hb9)
                                | (go_at_call 12; refine (HHD.out w9 w8.heap.size bb hb9q (Nat.le_refl _) H9.out.2 hn2 H9.out.1).mono ?_; rintro e wh ⟨rfl, hh⟩; have HH := hide hh; clear hh)
                                | (go_at_call 12; refine (HHD.out _ w9.heap.size bb (belowL hb9q _) hb9q.size H9.out.2 (Blk.new rfl) (H9.out.1.alloc _)).mono ?_; rintro e wh ⟨rfl, hh⟩; have HH := hide hh; clear hh)))
              refine lexg_nil (fun _ => wpAnyG_done (by kernel_rfl) ?_ _)
            rotate_left
            · skip
              rename_i hunm
              clear hunm e0' r8
              (try clear hS0 hS1 hS2 hn2 hb9q)
              obtain ⟨F9, hc9, hch9, hf9⟩ := HH.out
              have HTK := hide (ctake_some hc9 rfl)
              have hA9 := H8.out.2.2.1.1.chg hch9 H8.out.2.2.2.2.1
              have hR9 := H8.out.2.2.1.2.1.chg hch9 H8.out.2.2.2.2.2.1
              have hnA9 := notin_step H8.out.2.2.2.2.1 H8.out.2.2.1.1.lt hf9
              have hnR9 := notin_step H8.out.2.2.2.2.2.1 H8.out.2.2.1.2.1.lt hf9
              have hb9 : Below W.heap.size W wh := Chg.onto H8.out.2.2.2.1 H8.out.2.2.2.1.size hch9 H8.out.2.2.2.2.2.2
              have hF9 : ∀ z ∈ F9, W.heap.size ≤ z := fun z hz => (hf9 z hz).elim (H8.out.2.2.2.2.2.2 z) (fun h3 => Nat.le_trans H8.out.2.2.2.1.size h3)
              have hv9 : VF ([xa, xr] ++ F9) wh xb (mS 16 2) := H8.out.2.1.step hch9 hf9 hc9.lt (fun g hg => by
                simp only [List.mem_cons, List.not_mem_nil, or_false] at hg
                rcases hg with rfl | rfl
                · exact hA9.lt
                · exact hR9.lt)
              have H10 := hide (And.intro hA9 (And.intro hR9 (And.intro hnA9 (And.intro hnR9 (And.intro hb9 (And.intro hF9 hv9))))))
              clear hc9 hch9 hf9 hA9 hR9 hnA9 hnR9 hb9 hF9 hv9
              go_wp2_with fail
              refine HTK.out.mono ?_
              rintro e wt ⟨At, ct, Ft, rfl, hrt, hct, hcht, hft⟩
              have hAt := H10.out.1.chg hcht H10.out.2.2.1
              have hRt := H10.out.2.1.chg hcht H10.out.2.2.2.1
              have hbt : Below W.heap.size W wt := Chg.onto H10.out.2.2.2.2.1 H10.out.2.2.2.2.1.size hcht H10.out.2.2.2.2.2.1
              have hvt : VF ([xa, xr] ++ Ft) wt xb (mS 16 2) := H10.out.2.2.2.2.2.2.step hcht (fun z hz => Or.inl (hft z hz)) hct.lt (fun g hg => by
                simp only [List.mem_cons, List.not_mem_nil, or_false] at hg
                rcases hg with rfl | rfl
                · exact hAt.lt
                · exact hRt.lt)
              have HT := hide (And.intro hct (And.intro hAt (And.intro hRt (And.intro hbt (And.intro hvt hft)))))
              clear hrt hct hcht hft hAt hRt hbt hvt HTK
              have hi30 : i ≤ 30 := by have := HLN.out; omega
              go_wp2
              go_roundw
              case rel =>
                have hbw : ∀ ob, Below wt.heap.size wt (wt.alloc ob) := fun ob => belowL (Below.refl _ _) _
                have htr := HI.out.2.1.at1 (p := 2) (by omega)
                rw [if_neg (by omega)] at htr
                exact ⟨i + 1, Ft, _, (a0 + 1), 0, r0, 0, by omega, by go_num, (HT.out.1.below (hbw _)).mono (by omega), (by simpa using htr), HT.out.2.1.below (hbw _), HT.out.2.2.1.below (hbw _), HT.out.2.2.2.1.trans ((hbw _).mono HT.out.2.2.2.1.size), fun z hz => H10.out.2.2.2.2.2.1 z (HT.out.2.2.2.2.2 z hz), fun hx => H10.out.2.2.1 (HT.out.2.2.2.2.2 _ hx), fun hx => H10.out.2.2.2.1 (HT.out.2.2.2.2.2 _ hx), HT.out.2.2.2.2.1.chg (L := []) (Chg.of_below (hbw _)) (by simp)⟩
              case measure => simp [intOf]; omega
            · skip
              rename_i hunm
              clear hunm e0' r8
              (try clear hS0 hS1 hS2 hn2 hb9q)
              obtain ⟨F9, hc9, hch9, hf9⟩ := HH.out
              have HTK := hide (ctake_some hc9 rfl)
              have hA9 := H8.out.2.2.1.1.chg hch9 H8.out.2.2.2.2.1
              have hR9 := H8.out.2.2.1.2.1.chg hch9 H8.out.2.2.2.2.2.1
              have hnA9 := notin_step H8.out.2.2.2.2.1 H8.out.2.2.1.1.lt hf9
              have hnR9 := notin_step H8.out.2.2.2.2.2.1 H8.out.2.2.1.2.1.lt hf9
              have hb9 : Below W.heap.size W wh := Chg.onto H8.out.2.2.2.1 H8.out.2.2.2.1.size hch9 H8.out.2.2.2.2.2.2
              have hF9 : ∀ z ∈ F9, W.heap.size ≤ z := fun z hz => (hf9 z hz).elim (H8.out.2.2.2.2.2.2 z) (fun h3 => Nat.le_trans H8.out.2.2.2.1.size h3)
              have hv9 : VF ([xa, xr] ++ F9) wh xb (mS 16 2) := H8.out.2.1.step hch9 hf9 hc9.lt (fun g hg => by
                simp only [List.mem_cons, List.not_mem_nil, or_false] at hg
                rcases hg with rfl | rfl
                · exact hA9.lt
                · exact hR9.lt)
              have H10 := hide (And.intro hA9 (And.intro hR9 (And.intro hnA9 (And.intro hnR9 (And.intro hb9 (And.intro hF9 hv9))))))
              clear hc9 hch9 hf9 hA9 hR9 hnA9 hnR9 hb9 hF9 hv9
              go_wp2_with fail
              refine HTK.out.mono ?_
              rintro e wt ⟨At, ct, Ft, rfl, hrt, hct, hcht, hft⟩
              have hAt := H10.out.1.chg hcht H10.out.2.2.1
              have hRt := H10.out.2.1.chg hcht H10.out.2.2.2.1
              have hbt : Below W.heap.size W wt := Chg.onto H10.out.2.2.2.2.1 H10.out.2.2.2.2.1.size hcht H10.out.2.2.2.2.2.1
              have hvt : VF ([xa, xr] ++ Ft) wt xb (mS 16 2) := H10.out.2.2.2.2.2.2.step hcht (fun z hz => Or.inl (hft z hz)) hct.lt (fun g hg => by
                simp only [List.mem_cons, List.not_mem_nil, or_false] at hg
                rcases hg with rfl | rfl
                · exact hAt.lt
                · exact hRt.lt)
              have HT := hide (And.intro hct (And.intro hAt (And.intro hRt (And.intro hbt (And.intro hvt hft)))))
              clear hrt hct hcht hft hAt hRt hbt hvt HTK
              have hi30 : i ≤ 30 := by have := HLN.out; omega
              go_wp2
              go_roundw
              case rel =>
                have hbw : ∀ ob, Below wt.heap.size wt (wt.alloc ob) := fun ob => belowL (Below.refl _ _) _
                have htr := HI.out.2.1.at1 (p := 2) (by omega)
                rw [if_neg (by omega)] at htr
                exact ⟨i + 1, Ft, _, (a0 + 1), 0, r0, 0, by omega, by go_num, (HT.out.1.below (hbw _)).mono (by omega), (by simpa using htr), HT.out.2.1.below (hbw _), HT.out.2.2.1.below (hbw _), HT.out.2.2.2.1.trans ((hbw _).mono HT.out.2.2.2.1.size), fun z hz => H10.out.2.2.2.2.2.1 z (HT.out.2.2.2.2.2 z hz), fun hx => H10.out.2.2.1 (HT.out.2.2.2.2.2 _ hx), fun hx => H10.out.2.2.2.1 (HT.out.2.2.2.2.2 _ hx), HT.out.2.2.2.2.1.chg (L := []) (Chg.of_below (hbw _)) (by simp)⟩
              case measure => simp [intOf]; omega
      · have i1 : ¬ (i : Int) < L1.length := by omega
        have HBW := hide hb
        clear hc htr hxa hxr hF hnA hnR hvf hb
        go_wp2_with fail
        refine (awake27_calls _).mono ?_
        rintro e w9 ⟨rfl, hb9⟩
        have HBA := hide (HBW.out.trans (hb9.mono HBW.out.size))
        clear hb9
        go_wp2
        go_ret
        exact ⟨rfl, HBA.out⟩
end Go.Proofs.YtanfdnpnkdiiiaaGreat
