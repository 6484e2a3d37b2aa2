/- One text of: Law27a. -/
import Derived.Test.YtanfdnpnkdiiiaaGreatQAwk
import Derived.Test.YtanfdnpnkdiiiaaGreatQOpen
namespace Go.Proofs.YtanfdnpnkdiiiaaGreat
open Go.ChangeShapes Go.WideShapes Go.ChangeAt Go.RowKit Go.Maps
set_option linter.unusedVariables false
set_option linter.unusedSimpArgs false

def kF (k i : Nat) : Wk := ⟨2, 2, k, [], i, 0, true⟩
structure Fl (X : Cl) (i k : Nat) : Prop where
  id : X.id = 0
  num : X.num = if i < k then i + 1 else k
  out : X.out.length ≤ i + 1
  cur : i < k → X.cur = some (kF k i) ∧ X.ans = none
  fin : i = k → X.cur = none ∧ X.ans = some ⟨0, [], k⟩
theorem Fl.start (k : Nat) (hk : 1 ≤ k) : Fl ((⟨0, 0, .zero, none, none, []⟩ : Cl).begin mPr 2 2 k) 0 k := by
  have h : ¬ 0 = k := by omega
  constructor <;> simp [Cl.begin, Cl.next, Cl.send, h, kF] <;> omega
theorem Fl.step {X : Cl} {i k : Nat} (h : Fl X i k) (hi : i < k) (p : Int) : Fl (X.okay mPr (kF k i) 0 p []) (i + 1) k := by
  have h1 := h.num
  have h2 := h.out
  have h3 := h.id
  have h4 := (h.cur hi).2
  rw [if_pos hi] at h1
  by_cases hk : i + 1 = k
  · subst hk
    constructor <;> simp [Cl.okay, Cl.next, Cl.end_, kF, h1, h3] <;> omega
  · constructor <;> simp [Cl.okay, Cl.next, Cl.send, hk, kF, h1, h3, h4] <;> omega
set_option maxHeartbeats 16000000 in
set_option maxRecDepth 100000 in
/-- THE WALK of ClientFlush: whatever comes in, it answers true, and nothing that was there turns. -/
theorem clientFlush_walk {H : Type} {enc : TypeId × Value → H} (W : World) (base : Nat) (v0 v1 : Value) (d0 d1 : DataW H) (p0 p1 : List MemPlace)
    (ok0 : Value.okWide Tryz.prog W .any base 5 v0) (h0 : DataW.Trod enc Tryz.prog W 0 (fun _ => true) true 5 v0 d0 p0)
    (ok1 : Value.okWide Tryz.prog W .any base 5 v1) (h1 : DataW.Trod enc Tryz.prog W 0 (fun _ => true) true 5 v1 d1 p1) :
    Calls Tryz.prog 4 #[v0, v1] W fun e w' => e = .returned (.bool true) ∧ Below W.heap.size W w' := by
  obtain ⟨a, rfl, rfl, rfl, wa⟩ := open_int Tryz.underlying5 ok0 h0
  obtain ⟨bb, rfl, rfl, rfl, wb⟩ := open_int Tryz.underlying5 ok1 h1
  obtain ⟨a0, a1⟩ := bounds_u8 wa
  obtain ⟨b0, b1⟩ := bounds_u8 wb
  clear ok0 h0 ok1 h1 wa wb
  go_enter Tryz.func4, Tryz.ntmps4
  go_wp2_with fail
  refine (cnew_calls 0 (by omega) mPr _).mono ?_
  rintro e w1 ⟨c, F, mt, rfl, rfl, hg1, hc1, hb1, hf1⟩
  have HB1 := hide hb1
  have HC1 := hide (And.intro hg1 (And.intro hc1 hf1))
  clear hb1 hg1 hc1 hf1
  go_wp2_with fail
  refine (made_calls [c, mt] w1 HC1.out.2.1.lt 40 5 mS_40 (by omega)).mono ?_
  rintro e w2 ⟨sb, rfl, hv2, hser, hb2, hsb⟩
  have HB2 := hide (HB1.out.trans (hb2.mono HB1.out.size))
  have HC2 := hide (And.intro (HC1.out.1.below hb2) (And.intro (HC1.out.2.1.below hb2) (And.intro hv2 hser)))
  clear hb2 hv2 hser hsb
  have HFL := hide (cflush_calls HC2.out.2.1)
  simp only [Option.isSome_none, Bool.or_self, Bool.false_eq_true, if_false] at HFL
  go_wp2_with fail
  refine HFL.out.mono ?_
  rintro e w3 ⟨rfl, rfl⟩
  have HVW := hide (cview_calls HC2.out.2.1 rfl HC2.out.1 HC2.out.2.2.1.vs (by omega) HC2.out.2.2.2 (by simp [mS]) (by simp [mS]) (by simp [mS, mCk, List.range, List.range.loop]))
  clear HFL
  go_wp2_with fail
  refine HVW.out.mono ?_
  rintro e w4 ⟨rfl, hc4, hch4⟩
  have HCF := hide HC1.out.2.2
  have hb4 : Below W.heap.size W w4 := Chg.onto HB2.out HB2.out.size hch4 (fun z hz => by rw [List.mem_singleton.1 hz]; exact HCF.out c (by simp))
  have HB4 := hide hb4
  have HC4 := hide hc4
  obtain ⟨k, hk⟩ : ∃ k : Nat, 1 + a % 10 = k := ⟨(1 + a % 10).toNat, by omega⟩
  have hk1 : 1 ≤ k ∧ k ≤ 10 := by omega
  have q1 : Int.tmod a 10 = a % 10 := Int.tmod_eq_emod_of_nonneg a0
  have q2 : IntKind.i64.wrap a = a := IntWalk.i64_in _ (by omega)
  have q3 : IntKind.i64.wrap (a % 10) = a % 10 := IntWalk.i64_in _ (by omega)
  have q4 : IntKind.i64.wrap (1 + a % 10) = k := by rw [IntWalk.i64_in _ (by omega)]; exact hk
  have HBG := hide (cbegin_calls hc4 rfl rfl (mPr_seen 40 5 (by omega) (by omega)) 2 2 k (by omega) (by omega) hk1.1 (by omega) (A := none) (cap := 0) (L := []) (Rb.nil _ _ _) (by omega) (by simp) (by omega) (by simp) (by simp))
  clear hc4 hch4 hb4 HVW
  go_wp2_with fail
  refine HBG.out.mono ?_
  rintro e w5 ⟨rfl, F5, hc5, hch5, hf5⟩
  have HS5 := hide (show CM w5 F5 c (some (mS 40 5)) mPr 1 _ ∧ Below W.heap.size W w5 ∧ ∀ z ∈ F5, W.heap.size ≤ z from ⟨hc5, Chg.onto HB4.out HB4.out.size hch5 HCF.out, fun z hz => (hf5 z hz).elim (fun h3 => HCF.out z h3) (fun h3 => Nat.le_trans HB4.out.size h3)⟩)
  have HST := hide (Fl.start k hk1.1)
  obtain ⟨X0, hX0⟩ : ∃ X0, (⟨0, 0, .zero, none, none, []⟩ : Cl).begin mPr 2 2 k = X0 := ⟨_, rfl⟩
  rw [hX0] at HS5 HST
  clear hc5 hch5 hf5 HBG hX0 hk q1 q2 q3 q4
  go_wp2
  go_loopw [8, 38, 39, 40, 41, 42, 43, 44, 45, 46, 47, 48, 49, 50, 51, 52, 53, 54, 55, 56, 57, 58, 59, 60] (fun i _ _ _ _ _ _ _ _ _ _ _ _ _ _ _ _ _ _ _ _ _ _ _ wr => ∃ (i' : Nat) (F : List Nat) (X : Cl), i' ≤ k ∧ i = .int .i64 i' ∧ CM wr F c (some (mS 40 5)) mPr (1 + 2 * i') X ∧ Fl X i' k ∧ Below W.heap.size W wr ∧ (∀ z ∈ F, W.heap.size ≤ z)) (fun i _ _ _ _ _ _ _ _ _ _ _ _ _ _ _ _ _ _ _ _ _ _ _ _ => k - (intOf i).toNat)
  case atStart => exact ⟨0, F5, X0, Nat.zero_le _, rfl, HS5.out.1, HST.out, HS5.out.2.1, HS5.out.2.2⟩
  case round =>
    obtain ⟨i, F, X, hi, rfl, hc, hfl, hb, hF⟩ := hrel
    have HI := hide (And.intro hc (And.intro hfl (And.intro hb hF)))
    have HFL := hide (cflush_calls hc)
    by_cases hlt : i < k
    · have i1 : (i : Int) < k := by omega
      have HBS := hide (cbusy_calls hc)
      have HNM := hide (cnum_calls hc)
      rw [(hfl.cur hlt).1, (hfl.cur hlt).2] at HFL HBS
      rw [hfl.num, if_pos hlt] at HNM
      simp only [Option.isSome_none, Option.isSome_some, Bool.or_false, if_true] at HFL HBS
      clear hc hfl hb hF
      go_wp2_with fail
      refine HFL.out.mono ?_
      rintro e w6 ⟨rfl, rfl⟩
      go_wp2_with fail
      refine HBS.out.mono ?_
      rintro e w6 ⟨rfl, rfl⟩
      go_wp2_with fail
      refine HNM.out.mono ?_
      rintro e w6 ⟨rfl, rfl⟩
      obtain ⟨p, hp⟩ : ∃ p, 1 + bb % 2 = p := ⟨_, rfl⟩
      have q1 : Int.tmod bb 2 = bb % 2 := Int.tmod_eq_emod_of_nonneg b0
      have q2 : IntKind.i64.wrap bb = bb := IntWalk.i64_in _ (by omega)
      have q3 : IntKind.i64.wrap (bb % 2) = bb % 2 := IntWalk.i64_in _ (by omega)
      have q4 : IntKind.i64.wrap (1 + bb % 2) = p := by rw [IntWalk.i64_in _ (by omega)]; exact hp
      go_wp2_with fail
      obtain ⟨wN, hwN⟩ : ∃ wN, wr.alloc (.cells #[.int .i64 0, .int .i64 ((i : Int) + 1), .int .i64 0, .int .i64 p] 3) = wN := ⟨_, rfl⟩
      have hbN : Below wr.heap.size wr wN := hwN ▸ belowL (Below.refl _ _) _
      have hnb : Blk wN wr.heap.size 3 [.int .i64 X.id, .int .i64 X.num, .int .i64 0, .int .i64 p] := by
        rw [← hwN, HI.out.2.1.id, HI.out.2.1.num, if_pos hlt]
        exact Blk.new rfl
      have hn2 := HI.out.2.1.num
      rw [if_pos hlt] at hn2
      have HHD := hide (chandle_ok (k := kF k i) (HI.out.1.below hbN) (HI.out.2.1.cur hlt).1 (mPr_seen 40 5 (by omega) (by omega)) (by simp [kF]; omega) (by simp [kF]; omega) (nb := wr.heap.size) (p := p) (fr := 40) hnb (fun hx => by have := HI.out.1.lt _ hx; omega) (B := none) (cB := 0) (L := []) (Rb.nil _ _ _) (by simp [kF]) (by simp) (by simp [kF]) (by unfold i64ok; omega) (by omega) (by omega) (by have := HI.out.2.1.out; omega))
      have HBN := hide hbN
      rw [hwN]
      clear hbN hnb q1 q2 q3 q4 hp hwN hn2
      refine HHD.out.mono ?_
      rintro e w7 ⟨rfl, F7, hc7, hch7, hf7⟩
      have hb7 : Below W.heap.size W w7 := Chg.onto (HI.out.2.2.1.trans (HBN.out.mono HI.out.2.2.1.size)) (Nat.le_trans HI.out.2.2.1.size HBN.out.size) hch7 HI.out.2.2.2
      have H7 := hide (And.intro hc7 (And.intro (HI.out.2.1.step hlt p) (And.intro hb7 (fun z (hz : z ∈ F7) => (hf7 z hz).elim (fun h3 => HI.out.2.2.2 z h3) (fun h3 => Nat.le_trans (Nat.le_trans HI.out.2.2.1.size HBN.out.size) h3)))))
      clear hc7 hch7 hf7 hb7 HHD HNM HBS HFL
      go_wp2
      go_roundw
      case rel => exact ⟨i + 1, F7, _, by omega, by go_num, H7.out.1, H7.out.2.1, H7.out.2.2.1, H7.out.2.2.2⟩
      case measure => simp [intOf]; omega
    · have hik : i = k := by omega
      have hnum := hfl.num
      rw [if_neg (by omega)] at hnum
      have i1 : ¬ (i : Int) < k := by omega
      rw [(hfl.fin hik).1, (hfl.fin hik).2] at HFL
      simp only [Option.isSome_none, Option.isSome_some, Bool.false_or, if_true] at HFL
      have HTK := hide (ctake_some hc (hfl.fin hik).2)
      have HNU := hide hnum
      have HIK := hide hik
      clear hc hfl hb hF hnum hik
      go_wp2_with fail
      refine HFL.out.mono ?_
      rintro e w6 ⟨rfl, rfl⟩
      go_wp2_with fail
      refine HTK.out.mono ?_
      rintro e w6 ⟨A6, c6, F6, rfl, hr6, hc6, hch6, hf6⟩
      obtain ⟨w7, hw7⟩ : ∃ w7, w6.alloc (.cells #[.int .i64 0, .slice A6 0 c6, .int .i64 k] 45) = w7 := ⟨_, rfl⟩
      obtain ⟨ab, hab⟩ : ∃ ab, w6.heap.size = ab := ⟨_, rfl⟩
      have hb67 : Below w6.heap.size w6 w7 := hw7 ▸ belowL (Below.refl _ _) _
      have hA7 : Blk w7 ab 45 [.int .i64 0, .slice A6 0 c6, .int .i64 k] := by rw [← hw7, ← hab]; exact Blk.new rfl
      have hc7 := hc6.below hb67
      have hB7 : Below W.heap.size W w7 := (Chg.onto HI.out.2.2.1 HI.out.2.2.1.size hch6 HI.out.2.2.2).trans (hb67.mono (Nat.le_trans HI.out.2.2.1.size hch6.size))
      have HT2 := hide (ctake_none hc7 rfl)
      have H7 := hide (And.intro hc7 (And.intro hA7 hB7))
      have HWW := hide (And.intro hw7 hab)
      clear hr6 hc6 hch6 hf6 hw7 hab hb67 hA7 hc7 hB7 HTK HFL
      go_upto_region 16 with fail
      (try simp only [List.length_nil])
      rw [HWW.out.2, HWW.out.1]
      go_wp2_with fail
      refine HT2.out.mono ?_
      rintro e w8 ⟨rfl, hb8⟩
      obtain ⟨w9, hw9⟩ : ∃ w9, w8.alloc (.cells #[.int .i64 0, .slice none 0 0, .int .i64 0] 45) = w9 := ⟨_, rfl⟩
      have hb9 : Below w7.heap.size w7 w9 := hw9 ▸ belowL hb8 _
      have r9 := Below.refl w9.heap.size w9
      have hA9 := H7.out.2.1.below hb9
      have y0 : ∀ w', Below w9.heap.size w9 w' → w'.cell? ⟨ab, 0, none⟩ = some (.int .i64 0) := hA9.rule 0 _ rfl
      have y2 : ∀ w', Below w9.heap.size w9 w' → w'.cell? ⟨ab, 2, none⟩ = some (.int .i64 k) := hA9.rule 2 _ rfl
      have HC9 := hide (H7.out.1.below hb9)
      have HB9 := hide (H7.out.2.2.trans (hb9.mono H7.out.2.2.size))
      have HF2 := hide (cflush_calls HC9.out)
      have HN2 := hide (cnum_calls HC9.out)
      have HAW := hide (awake27_calls w9)
      have HW9 := hide hw9
      rw [(HI.out.2.1.fin HIK.out).1] at HF2
      rw [HNU.out] at HN2
      simp only [Option.isSome_none, Bool.or_self, Bool.false_eq_true, if_false] at HF2
      clear hA9 hb8 hb9 hw9 HT2
      go_upto_region 17 with fail
      rw [HW9.out]
      go_wp2_with fail
      refine HF2.out.mono ?_
      rintro e wa ⟨rfl, rfl⟩
      go_wp2_with fail
      refine HN2.out.mono ?_
      rintro e wa ⟨rfl, rfl⟩
      go_wp2_with fail
      refine HAW.out.mono ?_
      rintro e wa ⟨rfl, hba⟩
      have HBA := hide (HB9.out.trans (hba.mono HB9.out.size))
      clear hba
      go_wp2
      go_ret
      exact ⟨rfl, HBA.out⟩
end Go.Proofs.YtanfdnpnkdiiiaaGreat
