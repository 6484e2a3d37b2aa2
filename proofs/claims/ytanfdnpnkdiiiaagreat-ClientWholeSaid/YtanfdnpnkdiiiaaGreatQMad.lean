/- One text of: Mad. -/
import Derived.Test.YtanfdnpnkdiiiaaGreatQCA
import Derived.Test.YtanfdnpnkdiiiaaGreatQVaw
import Derived.Test.YtanfdnpnkdiiiaaGreatQBY
namespace Go.Proofs.YtanfdnpnkdiiiaaGreat
open Go.RowKit Go.Proofs Go.Maps
set_option linter.unusedVariables false
set_option linter.unusedSimpArgs false

theorem chosen_two (a b c d : Int) : chosen [⟨a, b⟩, ⟨c, d⟩] 1 = [if ldLt ⟨c, d⟩ ⟨a, b⟩ then c else a] := by
  unfold chosen sortLd
  cases h : ldLt ⟨c, d⟩ ⟨a, b⟩ <;> simp [List.mergeSort, List.MergeSort.Internal.splitInTwo, List.merge, h]
def mS0 : Vst := ⟨[], [], [], 1⟩
def mS1 : Vst := ⟨[(0, 9)], [], [], 1⟩
def mS2 : Vst := ⟨[(0, 9), (1, 9)], [], [], 1⟩
/-- so many chunks of volume 4, one behind the other at both servers -/
def mCk (k : Nat) : List Ck := (List.range k).map fun i => ⟨((i + 1 : Nat) : Int), 4, 1, [((i % 2 : Nat) : Int)], []⟩
def mCh (k : Nat) : List Int := (List.range k).map fun i => ((i + 1 : Nat) : Int)
def mS (bl : Int) (k : Nat) : Vst := ⟨[(0, 9), (1, 9)], [⟨4, bl, ⟨0, 1, 0, 0⟩, 1, mCh k⟩], mCk k, ((k + 1 : Nat) : Int)⟩
theorem mS_a : mS0.apply ⟨1, 0, 9, 0, ⟨0, 0, 0, 0⟩⟩ = (mS1, 0) := by
  have h : mS0.act ⟨1, 0, 9, 0, ⟨0, 0, 0, 0⟩⟩ = (mS1, 0) := by simp [Vst.act, Vst.server, ins, mS0, mS1]
  have h2 : mS1.admits = true := by decide
  unfold Vst.apply
  simp only [h, h2]
  rfl
theorem mS_b : mS1.apply ⟨1, 1, 9, 0, ⟨0, 0, 0, 0⟩⟩ = (mS2, 0) := by
  have h : mS1.act ⟨1, 1, 9, 0, ⟨0, 0, 0, 0⟩⟩ = (mS2, 0) := by simp [Vst.act, Vst.server, ins, mS1, mS2]
  have h2 : mS2.admits = true := by decide
  unfold Vst.apply
  simp only [h, h2]
  rfl
set_option maxRecDepth 100000 in
theorem mS_16 : mS2.apply ⟨2, 4, 16, 1, ⟨0, 1, 0, 0⟩⟩ = (mS 16 2, 0) := by
  have hr : (⟨0, 1, 0, 0⟩ : Pol).ok = true := by decide
  have h : mS2.act ⟨2, 4, 16, 1, ⟨0, 1, 0, 0⟩⟩ = (mS 16 2, 0) := by
    simp [Vst.act, Vst.create, hr, mS2, mS, mCk, mCh, List.range, List.range.loop, Vst.grow, lack, growN, fd_nil, Vst.loads, Vst.cnt, Ck.has, (show min (1 : Int) 2 = 1 from rfl), chosen_two, ldLt, ins]
  have h2 : (mS 16 2).admits = true := by decide
  unfold Vst.apply
  simp only [h, h2]
  rfl
set_option maxRecDepth 100000 in
theorem mS_20 : mS2.apply ⟨2, 4, 20, 1, ⟨0, 1, 0, 0⟩⟩ = (mS 20 3, 0) := by
  have hr : (⟨0, 1, 0, 0⟩ : Pol).ok = true := by decide
  have h : mS2.act ⟨2, 4, 20, 1, ⟨0, 1, 0, 0⟩⟩ = (mS 20 3, 0) := by
    simp [Vst.act, Vst.create, hr, mS2, mS, mCk, mCh, List.range, List.range.loop, Vst.grow, lack, growN, fd_nil, Vst.loads, Vst.cnt, Ck.has, (show min (1 : Int) 2 = 1 from rfl), chosen_two, ldLt, ins]
  have h2 : (mS 20 3).admits = true := by decide
  unfold Vst.apply
  simp only [h, h2]
  rfl
set_option maxRecDepth 100000 in
theorem mS_40 : mS2.apply ⟨2, 4, 40, 1, ⟨0, 1, 0, 0⟩⟩ = (mS 40 5, 0) := by
  have hr : (⟨0, 1, 0, 0⟩ : Pol).ok = true := by decide
  have h : mS2.act ⟨2, 4, 40, 1, ⟨0, 1, 0, 0⟩⟩ = (mS 40 5, 0) := by
    simp [Vst.act, Vst.create, hr, mS2, mS, mCk, mCh, List.range, List.range.loop, Vst.grow, lack, growN, fd_nil, Vst.loads, Vst.cnt, Ck.has, (show min (1 : Int) 2 = 1 from rfl), chosen_two, ldLt, ins]
  have h2 : (mS 40 5).admits = true := by decide
  unfold Vst.apply
  simp only [h, h2]
  rfl
/-- whom the chunks of volume 4 are asked of -/
def mPr : Prim := fun k => (((k + 1 : Nat) : Int), ((k % 2 : Nat) : Int))
theorem mPr_seen (bl k : Nat) (hk : k ≤ 64) (hb : bl ≤ k * 8) : Seen (mS bl k) bl mPr := by
  refine ⟨⟨⟨4, bl, ⟨0, 1, 0, 0⟩, 1, mCh k⟩, by simp [fd, mS], rfl, by simp [mCh]; omega, fun j hj => ?_⟩, by omega, fun j => ?_⟩
  · have hjk : j < k := by omega
    refine ⟨((j + 1 : Nat) : Int), ⟨((j + 1 : Nat) : Int), 4, 1, [((j % 2 : Nat) : Int)], []⟩, by simp [mCh, hjk], by unfold i64ok; omega, ?_, rfl, rfl⟩
    unfold fd mS mCk
    simp only []
    rw [List.find?_map]
    have h : (List.range k).find? ((fun x : Ck => x.id == ((j + 1 : Nat) : Int)) ∘ fun i => (⟨((i + 1 : Nat) : Int), 4, 1, [((i % 2 : Nat) : Int)], []⟩ : Ck)) = some j := by
      rw [List.find?_eq_some_iff_append]
      refine ⟨by simp, List.range j, (List.range (k - j - 1)).map (· + (j + 1)), ?_, ?_⟩
      · have e : k = j + (1 + (k - j - 1)) := by omega
        rw [e, List.range_add, List.range_add]
        simp [Nat.add_comm, Nat.add_left_comm, Nat.add_assoc]
      · intro a ha
        have := List.mem_range.1 ha
        simp
        omega
    rw [h]
    rfl
  · unfold mPr
    simp only []
    omega
theorem VSK.new (K : List Nat) (w : World) (hK : ∀ x ∈ K, x < w.heap.size) : Calls Tryz.prog 21 #[] w fun e w' => ∃ b, e = .returned (.pointer (some ⟨b, 0, none⟩)) ∧ VSK K w' b mS0 0 ∧ Below w.heap.size w w' ∧ w.heap.size ≤ b :=
  (vnew_calls w).mono fun e w' ⟨no, b, m1, m2, m3, he, hv, hb, hno⟩ => ⟨b, he, ⟨VOk.start, K ++ no, m1, m2, m3, [], [], ⟨hv.blk, hv.t1, hv.t2, hv.t3, hv.eV, hv.eC, by simp, by simp, List.mem_append_right _ hv.ib, List.mem_append_right _ hv.i1, List.mem_append_right _ hv.i2, List.mem_append_right _ hv.i3, fun x hx => by
    rcases List.mem_append.1 hx with hx | hx
    · exact Nat.lt_of_lt_of_le (hK x hx) hb.size
    · exact hv.lt x hx, hv.ne⟩, fun x hx => List.mem_append_left _ hx⟩, hb, hno b hv.ib⟩
def mSq (q : Nat) : Vst := if q = 0 then mS0 else if q = 1 then mS1 else mS2
theorem mSq_apply (q : Nat) (hq : q < 2) : (mSq q).apply ⟨1, q, 9, 0, ⟨0, 0, 0, 0⟩⟩ = (mSq (q + 1), 0) := by
  rcases (show q = 0 ∨ q = 1 by omega) with rfl | rfl
  · exact mS_a
  · exact mS_b
set_option maxHeartbeats 4000000 in
set_option maxRecDepth 100000 in
theorem made_calls (K : List Nat) (w : World) (hK : ∀ x ∈ K, x < w.heap.size) (bl k : Nat) (hap : mS2.apply ⟨2, 4, bl, 1, ⟨0, 1, 0, 0⟩⟩ = (mS bl k, 0)) (hbl : bl ≤ 512) :
    Calls Tryz.prog 8 #[.int .i64 bl] w fun e w' => ∃ b, e = .returned (.pointer (some ⟨b, 0, none⟩)) ∧ VSK K w' b (mS bl k) 3 ∧ SerOk (mS bl k) ∧ Below w.heap.size w w' ∧ w.heap.size ≤ b := by
  have HAP := hide hap
  clear hap
  go_enter Tryz.func8, Tryz.ntmps8
  go_wp2_with fail
  refine (VSK.new K w hK).mono ?_
  rintro e w1 ⟨b, rfl, hv, hb1, hbl1⟩
  have HBL := hide hbl1
  have HST := hide (And.intro hv hb1)
  clear hv hb1 hbl1
  go_wp2
  go_loopw [4, 8, 9, 10, 11, 12, 13, 14, 15, 16] (fun i _ _ _ _ _ _ _ _ _ wr => ∃ q : Nat, q ≤ 2 ∧ i = .int .i64 q ∧ VSK K wr b (mSq q) q ∧ VIn (mSq q) ∧ VBy (mSq q) ∧ Below w.heap.size w wr) (fun i _ _ _ _ _ _ _ _ _ _ => 2 - (intOf i).toNat)
  case atStart => exact ⟨0, by omega, rfl, HST.out.1, VIn.start, VBy.start, HST.out.2⟩
  case round =>
    obtain ⟨q, hq, rfl, hv, hi, hy, hb⟩ := hrel
    have HV := hide (And.intro hv (And.intro hi (And.intro hy hb)))
    by_cases hlt : q < 2
    · have i1 : (q : Int) < 2 := by omega
      have HA := hide (vapplyK_calls wr b q (mSq q) ⟨1, q, 9, 0, ⟨0, 0, 0, 0⟩⟩ hv (by omega) (Cmd.ok_mk (by unfold i64ok; omega) (by unfold i64ok; omega) (by unfold i64ok; omega) (by unfold i64ok; omega)))
      have hi2 := hi.apply hv.1 ⟨1, q, 9, 0, ⟨0, 0, 0, 0⟩⟩
      have hy2 := hy.apply hv.1 ⟨1, q, 9, 0, ⟨0, 0, 0, 0⟩⟩
      rw [mSq_apply q hlt] at HA hi2 hy2
      unfold Cmd.val Cmd.cells at HA
      simp only [] at HA
      have H2 := hide (And.intro hi2 hy2)
      clear hv hi hy hb hi2 hy2
      go_wp2_with fail
      refine HA.out.mono ?_
      rintro e w2 ⟨z, rfl, rfl, hc2, hv2⟩
      have HN := hide (And.intro hv2 (Chg.onto HV.out.2.2.2 HV.out.2.2.2.size hc2 (fun z hz => by rw [List.mem_singleton.1 hz]; exact HBL.out)))
      clear hc2 hv2
      go_wp2
      go_roundw
      case rel => exact ⟨q + 1, by omega, by go_num, HN.out.1, H2.out.1, H2.out.2, HN.out.2⟩
      case measure => simp [intOf]; omega
    · obtain rfl : q = 2 := by omega
      have HA := hide (vapplyK_calls wr b 2 mS2 ⟨2, 4, bl, 1, ⟨0, 1, 0, 0⟩⟩ hv (by omega) (Cmd.ok_mk (by unfold i64ok; omega) (by unfold i64ok; omega) (by unfold i64ok; omega) (by unfold i64ok; omega)))
      have hi2 := hi.apply hv.1 ⟨2, 4, bl, 1, ⟨0, 1, 0, 0⟩⟩
      have hy2 := hy.apply hv.1 ⟨2, 4, bl, 1, ⟨0, 1, 0, 0⟩⟩
      rw [show mSq 2 = mS2 from rfl, HAP.out] at hi2 hy2
      rw [HAP.out] at HA
      unfold Cmd.val Cmd.cells at HA
      simp only [] at HA
      have H2 := hide (And.intro hi2 hy2)
      clear hv hi hy hb hi2 hy2
      go_wp2_with fail
      refine HA.out.mono ?_
      rintro e w2 ⟨z, rfl, rfl, hc2, hv2⟩
      have HN := hide (And.intro hv2 (Chg.onto HV.out.2.2.2 HV.out.2.2.2.size hc2 (fun z hz => by rw [List.mem_singleton.1 hz]; exact HBL.out)))
      clear hc2 hv2
      go_wp2
      go_ret
      exact ⟨b, rfl, HN.out.1, H2.out.2.ser HN.out.1.1 H2.out.1 (by omega), HN.out.2, HBL.out⟩
end Go.Proofs.YtanfdnpnkdiiiaaGreat
