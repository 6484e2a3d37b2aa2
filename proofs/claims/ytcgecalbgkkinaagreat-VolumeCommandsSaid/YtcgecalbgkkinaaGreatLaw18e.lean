/- VolumeCommands: a command of numbers from 0 on comes back out of its bytes; other bytes are refused, or are just those of a command: the walk. -/
import Derived.Test.YtcgecalbgkkinaaGreatCmdb
import Derived.Deep.CutRange
namespace Go.Proofs.YtcgecalbgkkinaaGreat
open Go.ChangeShapes Go.WideShapes Go.ChangeAt Go.RowKit Go.Joins Go.Deep Go.Proofs
set_option linter.unusedVariables false
set_option linter.unusedSimpArgs false

set_option maxHeartbeats 4000000 in
set_option maxRecDepth 100000 in
/-- THE WALK of VolumeCommands: whatever comes in, it answers true, and nothing that was there turns. -/
theorem volumeCommands_walk {H : Type} {enc : TypeId × Value → H} (W : World) (base : Nat) (v0 v1 : Value) (d0 d1 : DataW H) (p0 p1 : List MemPlace)
    (ok0 : Value.okWide Tryz.prog W .any base 38 v0) (h0 : DataW.Trod enc Tryz.prog W 0 (fun _ => true) true 38 v0 d0 p0)
    (ok1 : Value.okWide Tryz.prog W .any base 50 v1) (h1 : DataW.Trod enc Tryz.prog W 0 (fun _ => true) true 50 v1 d1 p1) :
    Calls Tryz.prog 4 #[v0, v1] W fun e w' => e = .returned (.bool true) ∧ Below W.heap.size W w' := by
  obtain ⟨q, rfl, hq⟩ := open_cmd ok0 h0
  obtain ⟨A, c, L, rfl, hle, hcm, hby, hr⟩ := open_bytes ok1 h1
  obtain ⟨k0, a0, b0, c0, ⟨qr, qw, ql, qb⟩⟩ := q
  have hn63 : ∀ n ∈ (⟨k0, a0, b0, c0, ⟨qr, qw, ql, qb⟩⟩ : Cmd).nums, n < 2 ^ 63 := fun n hn => by
    have := hq n hn
    unfold i64ok at this
    omega
  have hM := rcmd_bytes _ hn63
  have hE := eqCmd_max0 (⟨k0, a0, b0, c0, ⟨qr, qw, ql, qb⟩⟩ : Cmd)
  simp only [Cmd.max0] at hM hE
  have hln : (⟨k0, a0, b0, c0, ⟨qr, qw, ql, qb⟩⟩ : Cmd).bytes.length ≤ 1000000 := by
    have h := encs_len ((⟨k0, a0, b0, c0, ⟨qr, qw, ql, qb⟩⟩ : Cmd).nums.map Int.toNat) (fun n hn => by
      obtain ⟨z, hz, rfl⟩ := List.mem_map.1 hn
      have := hn63 z hz
      omega)
    unfold Cmd.bytes
    simp only [Cmd.nums, List.length_map, List.length_cons, List.length_nil] at h ⊢
    omega
  have hbb : ∀ x ∈ (⟨k0, a0, b0, c0, ⟨qr, qw, ql, qb⟩⟩ : Cmd).bytes, x < 256 := encs_byte _
  have HP := hide (fun w => vput_calls w ⟨k0, a0, b0, c0, ⟨qr, qw, ql, qb⟩⟩ hn63)
  obtain ⟨D, hD⟩ : ∃ D, (⟨k0, a0, b0, c0, ⟨qr, qw, ql, qb⟩⟩ : Cmd).bytes = D := ⟨_, rfl⟩
  rw [hD] at hM hln hbb HP
  simp only [Cmd.val, Cmd.cells] at HP ⊢
  have HM := hide hM
  have HE := hide hE
  have HLN := hide (And.intro hln hbb)
  have HR := hide hr
  have HBY := hide hby
  have HCM := hide (And.intro hle hcm)
  clear hM hE hln hbb hr hby hq hn63 hD ok0 ok1 h0 h1 hle hcm
  by_cases hlen : 100 < L.length
  · have i1 : (100 : Int) < L.length := by omega
    go_enter Tryz.func4, Tryz.ntmps4
    go_wp2_with fail
    refine (awake18_calls _).mono ?_
    rintro e w1 ⟨rfl, hb1⟩
    have HB := hide (((Below.refl W.heap.size W).alloc (Nat.le_refl _) (.cells #[.int .i64 k0, .int .i64 a0, .int .i64 b0, .int .i64 c0, .int .i64 qr, .int .i64 qw, .int .i64 ql, .int .i64 qb] 38)).trans (hb1.mono (by simp)))
    clear hb1
    go_wp2
    go_ret
    exact ⟨rfl, HB.out⟩
  · have i1 : ¬ ((100 : Int) < L.length) := by omega
    have HLL := hide hlen
    clear hlen
    go_enter Tryz.func4, Tryz.ntmps4
    go_wp2_with fail
    obtain ⟨w0, hw0⟩ : ∃ w0, W.alloc (.cells #[.int .i64 k0, .int .i64 a0, .int .i64 b0, .int .i64 c0, .int .i64 qr, .int .i64 qw, .int .i64 ql, .int .i64 qb] 38) = w0 := ⟨_, rfl⟩
    have hb0 : Below W.heap.size W w0 := hw0 ▸ (Below.refl W.heap.size W).alloc (Nat.le_refl _) _
    have d0 : Blk w0 W.heap.size 38 [.int .i64 k0, .int .i64 a0, .int .i64 b0, .int .i64 c0, .int .i64 qr, .int .i64 qw, .int .i64 ql, .int .i64 qb] := hw0 ▸ Blk.new rfl
    rw [hw0]
    have HW0 := hide hw0
    have HB0 := hide hb0
    have HD0 := hide d0
    clear hw0 hb0 d0
    refine (HP.out w0).mono ?_
    rintro e w1 ⟨A1, c1, rfl, ho1, hb1⟩
    have hr1 := (ho1.rb (no := []) (by simp)).rd
    have HRD := hide (vread_calls w1 A1 c1 D hr1 HLN.out.1 HLN.out.2)
    have HB1 := hide (HB0.out.trans (hb1.mono HB0.out.size))
    have HD1 := hide (HD0.out.below hb1)
    rw [HM.out] at HRD
    simp only [Cmd.val, Cmd.cells] at HRD
    clear ho1 hb1 hr1 HP
    go_wp2_with fail
    refine HRD.out.mono ?_
    rintro e w2 ⟨rfl, hb2⟩
    have HB2 := hide (HB1.out.trans (hb2.mono HB1.out.size))
    have hd2 := HD1.out.below hb2
    obtain ⟨m0, hm0⟩ : ∃ m, max k0 0 = m := ⟨_, rfl⟩
    obtain ⟨m1, hm1⟩ : ∃ m, max a0 0 = m := ⟨_, rfl⟩
    obtain ⟨m2, hm2⟩ : ∃ m, max b0 0 = m := ⟨_, rfl⟩
    obtain ⟨m3, hm3⟩ : ∃ m, max c0 0 = m := ⟨_, rfl⟩
    obtain ⟨m4, hm4⟩ : ∃ m, max qr 0 = m := ⟨_, rfl⟩
    obtain ⟨m5, hm5⟩ : ∃ m, max qw 0 = m := ⟨_, rfl⟩
    obtain ⟨m6, hm6⟩ : ∃ m, max ql 0 = m := ⟨_, rfl⟩
    obtain ⟨m7, hm7⟩ : ∃ m, max qb 0 = m := ⟨_, rfl⟩
    rw [hm0, hm1, hm2, hm3, hm4, hm5, hm6, hm7] at HE
    simp only [hm0, hm1, hm2, hm3, hm4, hm5, hm6, hm7]
    obtain ⟨w3, hw3⟩ : ∃ w3, w2.alloc (.cells #[.int .i64 m0, .int .i64 m1, .int .i64 m2, .int .i64 m3, .int .i64 m4, .int .i64 m5, .int .i64 m6, .int .i64 m7] 38) = w3 := ⟨_, rfl⟩
    have d3 : Blk w3 W.heap.size 38 [.int .i64 k0, .int .i64 a0, .int .i64 b0, .int .i64 c0, .int .i64 qr, .int .i64 qw, .int .i64 ql, .int .i64 qb] := hw3 ▸ hd2.alloc _
    have x3 : Blk w3 w2.heap.size 38 [.int .i64 m0, .int .i64 m1, .int .i64 m2, .int .i64 m3, .int .i64 m4, .int .i64 m5, .int .i64 m6, .int .i64 m7] := hw3 ▸ Blk.new rfl
    have HB3 : Hid (Below W.heap.size W w3) := hide (hw3 ▸ HB2.out.alloc HB2.out.size _)
    have HD3 := hide (And.intro d3 x3)
    have HW3 := hide hw3
    have e0 := d3.cell 0
    have e1 := d3.cell 1
    have e2 := d3.cell 2
    have e3 := d3.cell 3
    have e4 := d3.cell 4
    have e5 := d3.cell 5
    have e6 := d3.cell 6
    have e7 := d3.cell 7
    simp only [List.getElem?_cons_succ, List.getElem?_cons_zero] at e0 e1 e2 e3 e4 e5 e6 e7
    clear hm0 hm1 hm2 hm3 hm4 hm5 hm6 hm7 HRD hb2 hd2 d3 x3 hw3
    go_upto_region 4 with fail
    rw [HW3.out]
    obtain ⟨r, hrr⟩ : ∃ r, (decide (0 ≤ k0) && decide (0 ≤ a0) && decide (0 ≤ b0) && decide (0 ≤ c0) && decide (0 ≤ qr) && decide (0 ≤ qw) && decide (0 ≤ ql) && decide (0 ≤ qb)) = r := ⟨_, rfl⟩
    rw [hrr] at HE
    have HRR := hide hrr
    clear hrr
    go_cut [7] from 20 to 61 (fun s wx => s = .bool r ∧ wx = w3)
    case first =>
      try simp only [List.append_eq, List.cons_append, List.nil_append]
      by_cases g0 : 0 ≤ k0
      case neg =>
        go_wp2
        go_meet
        exact ⟨by rw [← HRR.out]; simp [g0] <;> omega, rfl⟩
      by_cases g1 : 0 ≤ a0
      case neg =>
        go_wp2
        go_meet
        exact ⟨by rw [← HRR.out]; simp [g0, g1] <;> omega, rfl⟩
      by_cases g2 : 0 ≤ b0
      case neg =>
        go_wp2
        go_meet
        exact ⟨by rw [← HRR.out]; simp [g0, g1, g2] <;> omega, rfl⟩
      by_cases g3 : 0 ≤ c0
      case neg =>
        go_wp2
        go_meet
        exact ⟨by rw [← HRR.out]; simp [g0, g1, g2, g3] <;> omega, rfl⟩
      by_cases g4 : 0 ≤ qr
      case neg =>
        go_wp2
        go_meet
        exact ⟨by rw [← HRR.out]; simp [g0, g1, g2, g3, g4] <;> omega, rfl⟩
      by_cases g5 : 0 ≤ qw
      case neg =>
        go_wp2
        go_meet
        exact ⟨by rw [← HRR.out]; simp [g0, g1, g2, g3, g4, g5] <;> omega, rfl⟩
      by_cases g6 : 0 ≤ ql
      case neg =>
        go_wp2
        go_meet
        exact ⟨by rw [← HRR.out]; simp [g0, g1, g2, g3, g4, g5, g6] <;> omega, rfl⟩
      by_cases g7 : 0 ≤ qb
      case neg =>
        go_wp2
        go_meet
        exact ⟨by rw [← HRR.out]; simp [g0, g1, g2, g3, g4, g5, g6, g7] <;> omega, rfl⟩
      go_wp2
      go_meet
      exact ⟨by rw [← HRR.out]; simp [g0, g1, g2, g3, g4, g5, g6, g7] <;> omega, rfl⟩
    case rest =>
      obtain ⟨rfl, rfl⟩ := hcut
      have x0 := HD3.out.2.cell 0
      have x1 := HD3.out.2.cell 1
      have x2 := HD3.out.2.cell 2
      have x3 := HD3.out.2.cell 3
      have x4 := HD3.out.2.cell 4
      have x5 := HD3.out.2.cell 5
      have x6 := HD3.out.2.cell 6
      have x7 := HD3.out.2.cell 7
      simp only [List.getElem?_cons_succ, List.getElem?_cons_zero] at x0 x1 x2 x3 x4 x5 x6 x7
      have hEQ := run_eqCmd m0 m1 m2 m3 m4 m5 m6 m7 k0 a0 b0 c0 qr qw ql qb
      rw [HE.out] at hEQ
      have hrn : (r != r) = false := by simp
      have hRL := vread_calls wc A c L ((HR.out.below HB3.out).more HB3.out.size) (by have := HLL.out; omega) HBY.out
      have hok := @rcmd_ok L HBY.out
      have hno := @rcmd_no L
      obtain ⟨y, hy⟩ : ∃ y, rcmd L = y := ⟨_, rfl⟩
      rw [hy] at hRL hok hno
      obtain ⟨⟨yk, ya, yb, yc, ⟨yr, yw, yl, yu⟩⟩, is⟩ := y
      simp only [] at hok hno
      have HRL := hide hRL
      clear hRL hy
      go_wp2_with fail
      refine HRL.out.mono ?_
      rintro e w4 ⟨rfl, hb4⟩
      have HB4 := hide (HB3.out.trans (hb4.mono HB3.out.size))
      obtain ⟨w5, hw5⟩ : ∃ w5, w4.alloc (.cells #[.int .i64 yk, .int .i64 ya, .int .i64 yb, .int .i64 yc, .int .i64 yr, .int .i64 yw, .int .i64 yl, .int .i64 yu] 38) = w5 := ⟨_, rfl⟩
      have y5 : Blk w5 w4.heap.size 38 [.int .i64 yk, .int .i64 ya, .int .i64 yb, .int .i64 yc, .int .i64 yr, .int .i64 yw, .int .i64 yl, .int .i64 yu] := hw5 ▸ Blk.new rfl
      have HB5 : Hid (Below W.heap.size W w5) := hide (hw5 ▸ HB4.out.alloc HB4.out.size _)
      have y0 := y5.cell 0
      have y1 := y5.cell 1
      have y2 := y5.cell 2
      have y3 := y5.cell 3
      have y4 := y5.cell 4
      have y6 := y5.cell 6
      have y7 := y5.cell 7
      have y5 := y5.cell 5
      simp only [List.getElem?_cons_succ, List.getElem?_cons_zero] at y0 y1 y2 y3 y4 y5 y6 y7
      have HW5 := hide hw5
      clear hw5 hb4 x0 x1 x2 x3 x4 x5 x6 x7 e0 e1 e2 e3 e4 e5 e6 e7 hEQ hrn
      simp only [Cmd.val, Cmd.cells]
      go_upto_region 8 with fail
      rw [HW5.out]
      cases is with
      | true =>
        obtain ⟨hb, hn⟩ := hok rfl
        have HP := hide (vput_calls w5 _ hn)
        rw [hb] at HP
        simp only [Cmd.val, Cmd.cells] at HP
        clear hok hno hb hn
        go_wp2_with fail
        refine HP.out.mono ?_
        rintro e w6 ⟨A6, c6, rfl, ho6, hb6⟩
        have HB6 := hide (HB5.out.trans (hb6.mono HB5.out.size))
        have hs := sameBytes_calls L L A6 A c6 c w6 (ho6.rb (no := []) (by simp)).rd ((HR.out.below HB6.out).more HB6.out.size) (by have := HLL.out; omega) (by have := HLL.out; omega)
        have HS := hide hs
        clear ho6 hb6 hs HP
        go_wp2_with fail
        refine HS.out.mono ?_
        rintro e w7 ⟨rfl, n7, rfl⟩
        have hb7 : Below W.heap.size W (w6.drewN n7) := below_drewN HB6.out n7
        have HB7 := hide hb7
        clear hb7
        simp only [decide_true]
        go_wp2_with fail
        refine (awake18_calls _).mono ?_
        rintro e w8 ⟨rfl, hb8⟩
        have HB8 := hide (HB7.out.trans (hb8.mono HB7.out.size))
        clear hb8
        go_wp2
        go_ret
        exact ⟨rfl, HB8.out⟩
      | false =>
        have hz := hno rfl
        simp only [Cmd.zero, Cmd.mk.injEq, Pol.mk.injEq] at hz
        obtain ⟨rfl, rfl, rfl, rfl, rfl, rfl, rfl, rfl⟩ := hz
        have hEQ := run_eqCmd 0 0 0 0 0 0 0 0 0 0 0 0 0 0 0 0
        rw [show eqCmd ⟨0, 0, 0, 0, ⟨0, 0, 0, 0⟩⟩ ⟨0, 0, 0, 0, ⟨0, 0, 0, 0⟩⟩ = true from rfl] at hEQ
        clear hok hno
        go_wp2_with fail
        refine (awake18_calls _).mono ?_
        rintro e w8 ⟨rfl, hb8⟩
        have HB8 := hide (HB5.out.trans (hb8.mono HB5.out.size))
        clear hb8
        go_wp2
        go_ret
        exact ⟨rfl, HB8.out⟩
end Go.Proofs.YtcgecalbgkkinaaGreat
