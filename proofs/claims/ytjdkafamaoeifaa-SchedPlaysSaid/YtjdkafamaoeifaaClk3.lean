/- The walk through the document's Charge: of clocks and a moment that are tags it is what the program's is. -/
import Derived.Test.YtjdkafamaoeifaaClk2
-- PARTIAL
namespace Go.Proofs.Ytjdkafamaoeifaa
open Go.RowKit
set_option linter.unusedVariables false
set_option maxRecDepth 100000

set_option maxHeartbeats 1000000 in
theorem rCharge_1Z (p : Pol) (c : Clk) (now delta rho : Int) (W : World) (hr : right p.r p.w p.l p.b = true) (n0 : 0 ≤ now) (n1 : now ≤ 2305843009213693952) (k0 : 0 ≤ c.l) (k1 : c.l ≤ 2305843009213693952) (hl : ¬ 0 < p.l) :
    Calls Try.prog 52 #[.agg #[.int .i64 p.r, .int .i64 p.w, .int .i64 p.l, .int .i64 p.b], .agg #[.int .i64 c.r, .int .i64 c.p, .int .i64 c.l], .int .i64 now, .int .i64 1, .int .i64 delta, .int .i64 rho] W fun e w' =>
      e = .returned (.agg #[.int .i64 (charge p c now 1 delta rho).r, .int .i64 (charge p c now 1 delta rho).p, .int .i64 (charge p c now 1 delta rho).l]) ∧ Below W.heap.size W w' := by
  have db := done_bd delta
  have rb := done_bd rho
  have r2 := right_iff.1 hr
  have pw := r2.2.2.2.2.2.1
  have pw0 : ¬ p.w = 0 := by omega
  have hq : IntKind.i64.wrap (Int.tdiv 67108864 p.w) = 67108864 / p.w := by
    rw [Int.tdiv_eq_ediv_of_nonneg (by decide)]
    exact IntWalk.i64_in _ ⟨by have := Int.ediv_nonneg (a := 67108864) (b := p.w) (by decide) (by omega); omega, by have := Int.ediv_le_self (a := 67108864) p.w (by decide); omega⟩
  have hd1 : IntKind.i64.wrap (1 + done_ delta) = 1 + done_ delta := IntWalk.i64_in _ (by omega)
  have tl := times_lo (wide p.l) p.b
  have th := times_hi (wide p.l) p.b
  have hz : (p.l == 0) = true := beq_iff_eq.2 (by omega)
  have hc := charge_free (c := c) (now := now) (phase := 1) (delta := delta) (rho := rho) hr (Or.inl rfl) hl
  rw [show ((if (1 : Int) = 1 then 1 else 0) + done_ rho) = (done_ rho + 1) by simp; omega] at hc
  rw [hc]
  clear hc
  go_enter Try.func52, Try.ntmps52
  go_wp2_with fail
  with_reducible refine (rRight_calls _ _ _ _ _).mono ?_
  rintro e w1 ⟨rfl, hb1⟩
  have I1 := (CI.start W p c.r c.p c.l).below hb1
  clear hb1
  obtain ⟨c0, c1, c2, c3, d0, d1, d2, f0, f1, f2⟩ := I1.facts
  go_wp2_with (go_at_call 66; with_reducible refine (rdone_calls _ _).mono ?_; rintro e w' ⟨rfl, rfl⟩)
  go_still_tail 9, (by kernel_rfl)
  still_call (st (rSpace_calls _ _))
  repeat still_step
  still_call (st (rTimes_calls _ _ _))
  still_call (st (rAdd_calls _ _ _))
  repeat still_step
  refine wpStill_nil ?_
  clear c0 c1 c2 c3 d0 d1 d2 f0 f1 f2
  refine CI.rename (P := fun w => wpList _ _ _ _ _ w) I1.drew (fun w2 I2 => ?_)
  obtain ⟨c0, c1, c2, c3, d0, d1, d2, f0, f1, f2⟩ := I2.facts
  go_wp2_with fail
  clear c0 c1 c2 c3 d0 d1 d2 f0 f1 f2
  refine CI.rename (P := fun w => Code.wp _ _ _ _ w) (I2.set0 _) (fun w3 I3 => ?_)
  clear I1 I2
  obtain ⟨c0, c1, c2, c3, d0, d1, d2, f0, f1, f2⟩ := I3.facts
  go_still_tail 11, (by kernel_rfl)
  still_call (st (rdone_calls _ _))
  repeat still_step
  still_call (st (rTimes_calls _ _ _))
  still_call (st (rAdd_calls _ _ _))
  repeat still_step
  refine wpStill_nil ?_
  clear c0 c1 c2 c3 d0 d1 d2 f0 f1 f2
  refine CI.rename (P := fun w => wpList _ _ _ _ _ w) I3.drew (fun w4 I4 => ?_)
  obtain ⟨c0, c1, c2, c3, d0, d1, d2, f0, f1, f2⟩ := I4.facts
  obtain ⟨e0, e1, e2, g0, g1, g2⟩ := I4.facts2
  have I5 := I4.set1 (add c.p (times (67108864 / p.w) (1 + done_ delta)))
  go_wp2_with fail
  exact bodyPost_ret (v := .agg #[.int .i64 (add c.r (times (space p.r) (done_ rho + 1))), .int .i64 (add c.p (times (67108864 / p.w) (1 + done_ delta))), .int .i64 c.l])
    (by simp [results, Try.results52, go_sem, *]) rfl ⟨rfl, by repeat (first | exact I5.base | refine Below.setCell ?_ (by simp <;> omega) _)⟩
set_option maxHeartbeats 1000000 in
theorem rCharge_1A (p : Pol) (c : Clk) (now delta rho : Int) (W : World) (hr : right p.r p.w p.l p.b = true) (n0 : 0 ≤ now) (n1 : now ≤ 2305843009213693952) (k0 : 0 ≤ c.l) (k1 : c.l ≤ 2305843009213693952) (hl : 0 < p.l) (hT : now < times (wide p.l) p.b) :
    Calls Try.prog 52 #[.agg #[.int .i64 p.r, .int .i64 p.w, .int .i64 p.l, .int .i64 p.b], .agg #[.int .i64 c.r, .int .i64 c.p, .int .i64 c.l], .int .i64 now, .int .i64 1, .int .i64 delta, .int .i64 rho] W fun e w' =>
      e = .returned (.agg #[.int .i64 (charge p c now 1 delta rho).r, .int .i64 (charge p c now 1 delta rho).p, .int .i64 (charge p c now 1 delta rho).l]) ∧ Below W.heap.size W w' := by
  have db := done_bd delta
  have rb := done_bd rho
  have r2 := right_iff.1 hr
  have pw := r2.2.2.2.2.2.1
  have pw0 : ¬ p.w = 0 := by omega
  have hq : IntKind.i64.wrap (Int.tdiv 67108864 p.w) = 67108864 / p.w := by
    rw [Int.tdiv_eq_ediv_of_nonneg (by decide)]
    exact IntWalk.i64_in _ ⟨by have := Int.ediv_nonneg (a := 67108864) (b := p.w) (by decide) (by omega); omega, by have := Int.ediv_le_self (a := 67108864) p.w (by decide); omega⟩
  have hd1 : IntKind.i64.wrap (1 + done_ delta) = 1 + done_ delta := IntWalk.i64_in _ (by omega)
  have tl := times_lo (wide p.l) p.b
  have th := times_hi (wide p.l) p.b
  have hz : (p.l == 0) = false := beq_eq_false_iff_ne.2 (by omega)
  have hc := charge_lim (c := c) (now := now) (phase := 1) (delta := delta) (rho := rho) hr (Or.inl rfl) hl
  rw [show max c.l (now - min (times (wide p.l) p.b) (max now 0)) = c.l by omega] at hc
  rw [show ((if (1 : Int) = 1 then 1 else 0) + done_ rho) = (done_ rho + 1) by simp; omega] at hc
  rw [hc]
  clear hc
  go_enter Try.func52, Try.ntmps52
  go_wp2_with fail
  with_reducible refine (rRight_calls _ _ _ _ _).mono ?_
  rintro e w1 ⟨rfl, hb1⟩
  have I1 := (CI.start W p c.r c.p c.l).below hb1
  clear hb1
  obtain ⟨c0, c1, c2, c3, d0, d1, d2, f0, f1, f2⟩ := I1.facts
  go_wp2_with (go_at_call 66; with_reducible refine (rdone_calls _ _).mono ?_; rintro e w' ⟨rfl, rfl⟩)
  go_still_tail 9, (by kernel_rfl)
  still_call (st (rSpace_calls _ _))
  repeat still_step
  still_call (st (rTimes_calls _ _ _))
  still_call (st (rAdd_calls _ _ _))
  repeat still_step
  refine wpStill_nil ?_
  clear c0 c1 c2 c3 d0 d1 d2 f0 f1 f2
  refine CI.rename (P := fun w => wpList _ _ _ _ _ w) I1.drew (fun w2 I2 => ?_)
  obtain ⟨c0, c1, c2, c3, d0, d1, d2, f0, f1, f2⟩ := I2.facts
  go_wp2_with fail
  clear c0 c1 c2 c3 d0 d1 d2 f0 f1 f2
  refine CI.rename (P := fun w => Code.wp _ _ _ _ w) (I2.set0 _) (fun w3 I3 => ?_)
  clear I1 I2
  obtain ⟨c0, c1, c2, c3, d0, d1, d2, f0, f1, f2⟩ := I3.facts
  go_still_tail 11, (by kernel_rfl)
  still_call (st (rdone_calls _ _))
  repeat still_step
  still_call (st (rTimes_calls _ _ _))
  still_call (st (rAdd_calls _ _ _))
  repeat still_step
  refine wpStill_nil ?_
  clear c0 c1 c2 c3 d0 d1 d2 f0 f1 f2
  refine CI.rename (P := fun w => wpList _ _ _ _ _ w) I3.drew (fun w4 I4 => ?_)
  obtain ⟨c0, c1, c2, c3, d0, d1, d2, f0, f1, f2⟩ := I4.facts
  go_wp2_with (first | (go_at_call 17; with_reducible refine (rWide_calls _ _).mono ?_; rintro e w' ⟨rfl, rfl⟩) | (go_at_call 49; with_reducible refine (rTimes_calls _ _ _).mono ?_; rintro e w' ⟨rfl, rfl⟩))
  clear c0 c1 c2 c3 d0 d1 d2 f0 f1 f2
  refine CI.rename (P := fun w => Code.wp _ _ _ _ w) (I4.set1 _) (fun w5 I5 => ?_)
  clear I3 I4
  obtain ⟨c0, c1, c2, c3, d0, d1, d2, f0, f1, f2⟩ := I5.facts
  go_still_tail 9, (by kernel_rfl)
  still_call (st (rdone_calls _ _))
  repeat still_step
  still_call (st (rTimes_calls _ _ _))
  still_call (st (rAdd_calls _ _ _))
  repeat still_step
  refine wpStill_nil ?_
  clear c0 c1 c2 c3 d0 d1 d2 f0 f1 f2
  refine CI.rename (P := fun w => wpList _ _ _ _ _ w) I5.drew (fun w6 I6 => ?_)
  obtain ⟨c0, c1, c2, c3, d0, d1, d2, f0, f1, f2⟩ := I6.facts
  obtain ⟨e0, e1, e2, g0, g1, g2⟩ := I6.facts2
  go_wp2_with fail
  exact bodyPost_ret (v := .agg #[.int .i64 (add c.r (times (space p.r) (done_ rho + 1))), .int .i64 (add c.p (times (67108864 / p.w) (1 + done_ delta))), .int .i64 (add c.l (times (wide p.l) (1 + done_ delta)))])
    (by simp [results, Try.results52, go_sem, *]) rfl ⟨rfl, by repeat (first | exact I6.base | refine Below.setCell ?_ (by simp <;> omega) _)⟩
set_option maxHeartbeats 1000000 in
theorem rCharge_1B (p : Pol) (c : Clk) (now delta rho : Int) (W : World) (hr : right p.r p.w p.l p.b = true) (n0 : 0 ≤ now) (n1 : now ≤ 2305843009213693952) (k0 : 0 ≤ c.l) (k1 : c.l ≤ 2305843009213693952) (hl : 0 < p.l) (hT : times (wide p.l) p.b ≤ now) (hc2 : c.l < now - times (wide p.l) p.b) :
    Calls Try.prog 52 #[.agg #[.int .i64 p.r, .int .i64 p.w, .int .i64 p.l, .int .i64 p.b], .agg #[.int .i64 c.r, .int .i64 c.p, .int .i64 c.l], .int .i64 now, .int .i64 1, .int .i64 delta, .int .i64 rho] W fun e w' =>
      e = .returned (.agg #[.int .i64 (charge p c now 1 delta rho).r, .int .i64 (charge p c now 1 delta rho).p, .int .i64 (charge p c now 1 delta rho).l]) ∧ Below W.heap.size W w' := by
  have db := done_bd delta
  have rb := done_bd rho
  have r2 := right_iff.1 hr
  have pw := r2.2.2.2.2.2.1
  have pw0 : ¬ p.w = 0 := by omega
  have hq : IntKind.i64.wrap (Int.tdiv 67108864 p.w) = 67108864 / p.w := by
    rw [Int.tdiv_eq_ediv_of_nonneg (by decide)]
    exact IntWalk.i64_in _ ⟨by have := Int.ediv_nonneg (a := 67108864) (b := p.w) (by decide) (by omega); omega, by have := Int.ediv_le_self (a := 67108864) p.w (by decide); omega⟩
  have hd1 : IntKind.i64.wrap (1 + done_ delta) = 1 + done_ delta := IntWalk.i64_in _ (by omega)
  have tl := times_lo (wide p.l) p.b
  have th := times_hi (wide p.l) p.b
  have hz : (p.l == 0) = false := beq_eq_false_iff_ne.2 (by omega)
  have hc := charge_lim (c := c) (now := now) (phase := 1) (delta := delta) (rho := rho) hr (Or.inl rfl) hl
  rw [show max c.l (now - min (times (wide p.l) p.b) (max now 0)) = (now - times (wide p.l) p.b) by omega] at hc
  rw [show ((if (1 : Int) = 1 then 1 else 0) + done_ rho) = (done_ rho + 1) by simp; omega] at hc
  rw [hc]
  clear hc
  go_enter Try.func52, Try.ntmps52
  go_wp2_with fail
  with_reducible refine (rRight_calls _ _ _ _ _).mono ?_
  rintro e w1 ⟨rfl, hb1⟩
  have I1 := (CI.start W p c.r c.p c.l).below hb1
  clear hb1
  obtain ⟨c0, c1, c2, c3, d0, d1, d2, f0, f1, f2⟩ := I1.facts
  go_wp2_with (go_at_call 66; with_reducible refine (rdone_calls _ _).mono ?_; rintro e w' ⟨rfl, rfl⟩)
  go_still_tail 9, (by kernel_rfl)
  still_call (st (rSpace_calls _ _))
  repeat still_step
  still_call (st (rTimes_calls _ _ _))
  still_call (st (rAdd_calls _ _ _))
  repeat still_step
  refine wpStill_nil ?_
  clear c0 c1 c2 c3 d0 d1 d2 f0 f1 f2
  refine CI.rename (P := fun w => wpList _ _ _ _ _ w) I1.drew (fun w2 I2 => ?_)
  obtain ⟨c0, c1, c2, c3, d0, d1, d2, f0, f1, f2⟩ := I2.facts
  go_wp2_with fail
  clear c0 c1 c2 c3 d0 d1 d2 f0 f1 f2
  refine CI.rename (P := fun w => Code.wp _ _ _ _ w) (I2.set0 _) (fun w3 I3 => ?_)
  clear I1 I2
  obtain ⟨c0, c1, c2, c3, d0, d1, d2, f0, f1, f2⟩ := I3.facts
  go_still_tail 11, (by kernel_rfl)
  still_call (st (rdone_calls _ _))
  repeat still_step
  still_call (st (rTimes_calls _ _ _))
  still_call (st (rAdd_calls _ _ _))
  repeat still_step
  refine wpStill_nil ?_
  clear c0 c1 c2 c3 d0 d1 d2 f0 f1 f2
  refine CI.rename (P := fun w => wpList _ _ _ _ _ w) I3.drew (fun w4 I4 => ?_)
  obtain ⟨c0, c1, c2, c3, d0, d1, d2, f0, f1, f2⟩ := I4.facts
  go_wp2_with (first | (go_at_call 17; with_reducible refine (rWide_calls _ _).mono ?_; rintro e w' ⟨rfl, rfl⟩) | (go_at_call 49; with_reducible refine (rTimes_calls _ _ _).mono ?_; rintro e w' ⟨rfl, rfl⟩))
  clear c0 c1 c2 c3 d0 d1 d2 f0 f1 f2
  refine CI.rename (P := fun w => Code.wp _ _ _ _ w) ((I4.set1 _).set2 _) (fun w5 I5 => ?_)
  clear I3 I4
  obtain ⟨c0, c1, c2, c3, d0, d1, d2, f0, f1, f2⟩ := I5.facts
  go_still_tail 9, (by kernel_rfl)
  still_call (st (rdone_calls _ _))
  repeat still_step
  still_call (st (rTimes_calls _ _ _))
  still_call (st (rAdd_calls _ _ _))
  repeat still_step
  refine wpStill_nil ?_
  clear c0 c1 c2 c3 d0 d1 d2 f0 f1 f2
  refine CI.rename (P := fun w => wpList _ _ _ _ _ w) I5.drew (fun w6 I6 => ?_)
  obtain ⟨c0, c1, c2, c3, d0, d1, d2, f0, f1, f2⟩ := I6.facts
  obtain ⟨e0, e1, e2, g0, g1, g2⟩ := I6.facts2
  go_wp2_with fail
  exact bodyPost_ret (v := .agg #[.int .i64 (add c.r (times (space p.r) (done_ rho + 1))), .int .i64 (add c.p (times (67108864 / p.w) (1 + done_ delta))), .int .i64 (add (now - times (wide p.l) p.b) (times (wide p.l) (1 + done_ delta)))])
    (by simp [results, Try.results52, go_sem, *]) rfl ⟨rfl, by repeat (first | exact I6.base | refine Below.setCell ?_ (by simp <;> omega) _)⟩
set_option maxHeartbeats 1000000 in
theorem rCharge_1C (p : Pol) (c : Clk) (now delta rho : Int) (W : World) (hr : right p.r p.w p.l p.b = true) (n0 : 0 ≤ now) (n1 : now ≤ 2305843009213693952) (k0 : 0 ≤ c.l) (k1 : c.l ≤ 2305843009213693952) (hl : 0 < p.l) (hT : times (wide p.l) p.b ≤ now) (hc2 : now - times (wide p.l) p.b ≤ c.l) :
    Calls Try.prog 52 #[.agg #[.int .i64 p.r, .int .i64 p.w, .int .i64 p.l, .int .i64 p.b], .agg #[.int .i64 c.r, .int .i64 c.p, .int .i64 c.l], .int .i64 now, .int .i64 1, .int .i64 delta, .int .i64 rho] W fun e w' =>
      e = .returned (.agg #[.int .i64 (charge p c now 1 delta rho).r, .int .i64 (charge p c now 1 delta rho).p, .int .i64 (charge p c now 1 delta rho).l]) ∧ Below W.heap.size W w' := by
  have db := done_bd delta
  have rb := done_bd rho
  have r2 := right_iff.1 hr
  have pw := r2.2.2.2.2.2.1
  have pw0 : ¬ p.w = 0 := by omega
  have hq : IntKind.i64.wrap (Int.tdiv 67108864 p.w) = 67108864 / p.w := by
    rw [Int.tdiv_eq_ediv_of_nonneg (by decide)]
    exact IntWalk.i64_in _ ⟨by have := Int.ediv_nonneg (a := 67108864) (b := p.w) (by decide) (by omega); omega, by have := Int.ediv_le_self (a := 67108864) p.w (by decide); omega⟩
  have hd1 : IntKind.i64.wrap (1 + done_ delta) = 1 + done_ delta := IntWalk.i64_in _ (by omega)
  have tl := times_lo (wide p.l) p.b
  have th := times_hi (wide p.l) p.b
  have hz : (p.l == 0) = false := beq_eq_false_iff_ne.2 (by omega)
  have hc := charge_lim (c := c) (now := now) (phase := 1) (delta := delta) (rho := rho) hr (Or.inl rfl) hl
  rw [show max c.l (now - min (times (wide p.l) p.b) (max now 0)) = c.l by omega] at hc
  rw [show ((if (1 : Int) = 1 then 1 else 0) + done_ rho) = (done_ rho + 1) by simp; omega] at hc
  rw [hc]
  clear hc
  go_enter Try.func52, Try.ntmps52
  go_wp2_with fail
  with_reducible refine (rRight_calls _ _ _ _ _).mono ?_
  rintro e w1 ⟨rfl, hb1⟩
  have I1 := (CI.start W p c.r c.p c.l).below hb1
  clear hb1
  obtain ⟨c0, c1, c2, c3, d0, d1, d2, f0, f1, f2⟩ := I1.facts
  go_wp2_with (go_at_call 66; with_reducible refine (rdone_calls _ _).mono ?_; rintro e w' ⟨rfl, rfl⟩)
  go_still_tail 9, (by kernel_rfl)
  still_call (st (rSpace_calls _ _))
  repeat still_step
  still_call (st (rTimes_calls _ _ _))
  still_call (st (rAdd_calls _ _ _))
  repeat still_step
  refine wpStill_nil ?_
  clear c0 c1 c2 c3 d0 d1 d2 f0 f1 f2
  refine CI.rename (P := fun w => wpList _ _ _ _ _ w) I1.drew (fun w2 I2 => ?_)
  obtain ⟨c0, c1, c2, c3, d0, d1, d2, f0, f1, f2⟩ := I2.facts
  go_wp2_with fail
  clear c0 c1 c2 c3 d0 d1 d2 f0 f1 f2
  refine CI.rename (P := fun w => Code.wp _ _ _ _ w) (I2.set0 _) (fun w3 I3 => ?_)
  clear I1 I2
  obtain ⟨c0, c1, c2, c3, d0, d1, d2, f0, f1, f2⟩ := I3.facts
  go_still_tail 11, (by kernel_rfl)
  still_call (st (rdone_calls _ _))
  repeat still_step
  still_call (st (rTimes_calls _ _ _))
  still_call (st (rAdd_calls _ _ _))
  repeat still_step
  refine wpStill_nil ?_
  clear c0 c1 c2 c3 d0 d1 d2 f0 f1 f2
  refine CI.rename (P := fun w => wpList _ _ _ _ _ w) I3.drew (fun w4 I4 => ?_)
  obtain ⟨c0, c1, c2, c3, d0, d1, d2, f0, f1, f2⟩ := I4.facts
  go_wp2_with (first | (go_at_call 17; with_reducible refine (rWide_calls _ _).mono ?_; rintro e w' ⟨rfl, rfl⟩) | (go_at_call 49; with_reducible refine (rTimes_calls _ _ _).mono ?_; rintro e w' ⟨rfl, rfl⟩))
  all_goals
    clear c0 c1 c2 c3 d0 d1 d2 f0 f1 f2
    refine CI.rename (P := fun w => Code.wp _ _ _ _ w) (I4.set1 _) (fun w5 I5 => ?_)
    clear I3 I4
    obtain ⟨c0, c1, c2, c3, d0, d1, d2, f0, f1, f2⟩ := I5.facts
    go_still_tail 9, (by kernel_rfl)
    still_call (st (rdone_calls _ _))
    repeat still_step
    still_call (st (rTimes_calls _ _ _))
    still_call (st (rAdd_calls _ _ _))
    repeat still_step
    refine wpStill_nil ?_
    clear c0 c1 c2 c3 d0 d1 d2 f0 f1 f2
    refine CI.rename (P := fun w => wpList _ _ _ _ _ w) I5.drew (fun w6 I6 => ?_)
    obtain ⟨c0, c1, c2, c3, d0, d1, d2, f0, f1, f2⟩ := I6.facts
    obtain ⟨e0, e1, e2, g0, g1, g2⟩ := I6.facts2
    go_wp2_with fail
    exact bodyPost_ret (v := .agg #[.int .i64 (add c.r (times (space p.r) (done_ rho + 1))), .int .i64 (add c.p (times (67108864 / p.w) (1 + done_ delta))), .int .i64 (add c.l (times (wide p.l) (1 + done_ delta)))])
      (by simp [results, Try.results52, go_sem, *]) rfl ⟨rfl, by repeat (first | exact I6.base | refine Below.setCell ?_ (by simp <;> omega) _)⟩
set_option maxHeartbeats 1000000 in
theorem rCharge_2Z (p : Pol) (c : Clk) (now delta rho : Int) (W : World) (hr : right p.r p.w p.l p.b = true) (n0 : 0 ≤ now) (n1 : now ≤ 2305843009213693952) (k0 : 0 ≤ c.l) (k1 : c.l ≤ 2305843009213693952) (hl : ¬ 0 < p.l) :
    Calls Try.prog 52 #[.agg #[.int .i64 p.r, .int .i64 p.w, .int .i64 p.l, .int .i64 p.b], .agg #[.int .i64 c.r, .int .i64 c.p, .int .i64 c.l], .int .i64 now, .int .i64 2, .int .i64 delta, .int .i64 rho] W fun e w' =>
      e = .returned (.agg #[.int .i64 (charge p c now 2 delta rho).r, .int .i64 (charge p c now 2 delta rho).p, .int .i64 (charge p c now 2 delta rho).l]) ∧ Below W.heap.size W w' := by
  have db := done_bd delta
  have rb := done_bd rho
  have r2 := right_iff.1 hr
  have pw := r2.2.2.2.2.2.1
  have pw0 : ¬ p.w = 0 := by omega
  have hq : IntKind.i64.wrap (Int.tdiv 67108864 p.w) = 67108864 / p.w := by
    rw [Int.tdiv_eq_ediv_of_nonneg (by decide)]
    exact IntWalk.i64_in _ ⟨by have := Int.ediv_nonneg (a := 67108864) (b := p.w) (by decide) (by omega); omega, by have := Int.ediv_le_self (a := 67108864) p.w (by decide); omega⟩
  have hd1 : IntKind.i64.wrap (1 + done_ delta) = 1 + done_ delta := IntWalk.i64_in _ (by omega)
  have tl := times_lo (wide p.l) p.b
  have th := times_hi (wide p.l) p.b
  have hz : (p.l == 0) = true := beq_iff_eq.2 (by omega)
  have hc := charge_free (c := c) (now := now) (phase := 2) (delta := delta) (rho := rho) hr (Or.inr rfl) hl
  rw [show ((if (2 : Int) = 1 then 1 else 0) + done_ rho) = (done_ rho) by simp] at hc
  rw [hc]
  clear hc
  go_enter Try.func52, Try.ntmps52
  go_wp2_with fail
  with_reducible refine (rRight_calls _ _ _ _ _).mono ?_
  rintro e w1 ⟨rfl, hb1⟩
  have I1 := (CI.start W p c.r c.p c.l).below hb1
  clear hb1
  obtain ⟨c0, c1, c2, c3, d0, d1, d2, f0, f1, f2⟩ := I1.facts
  go_wp2_with (go_at_call 66; with_reducible refine (rdone_calls _ _).mono ?_; rintro e w' ⟨rfl, rfl⟩)
  go_still_tail 9, (by kernel_rfl)
  still_call (st (rSpace_calls _ _))
  repeat still_step
  still_call (st (rTimes_calls _ _ _))
  still_call (st (rAdd_calls _ _ _))
  repeat still_step
  refine wpStill_nil ?_
  clear c0 c1 c2 c3 d0 d1 d2 f0 f1 f2
  refine CI.rename (P := fun w => wpList _ _ _ _ _ w) I1.drew (fun w2 I2 => ?_)
  obtain ⟨c0, c1, c2, c3, d0, d1, d2, f0, f1, f2⟩ := I2.facts
  go_wp2_with fail
  clear c0 c1 c2 c3 d0 d1 d2 f0 f1 f2
  refine CI.rename (P := fun w => Code.wp _ _ _ _ w) (I2.set0 _) (fun w3 I3 => ?_)
  clear I1 I2
  obtain ⟨c0, c1, c2, c3, d0, d1, d2, f0, f1, f2⟩ := I3.facts
  go_still_tail 11, (by kernel_rfl)
  still_call (st (rdone_calls _ _))
  repeat still_step
  still_call (st (rTimes_calls _ _ _))
  still_call (st (rAdd_calls _ _ _))
  repeat still_step
  refine wpStill_nil ?_
  clear c0 c1 c2 c3 d0 d1 d2 f0 f1 f2
  refine CI.rename (P := fun w => wpList _ _ _ _ _ w) I3.drew (fun w4 I4 => ?_)
  obtain ⟨c0, c1, c2, c3, d0, d1, d2, f0, f1, f2⟩ := I4.facts
  obtain ⟨e0, e1, e2, g0, g1, g2⟩ := I4.facts2
  have I5 := I4.set1 (add c.p (times (67108864 / p.w) (1 + done_ delta)))
  go_wp2_with fail
  exact bodyPost_ret (v := .agg #[.int .i64 (add c.r (times (space p.r) (done_ rho))), .int .i64 (add c.p (times (67108864 / p.w) (1 + done_ delta))), .int .i64 c.l])
    (by simp [results, Try.results52, go_sem, *]) rfl ⟨rfl, by repeat (first | exact I5.base | refine Below.setCell ?_ (by simp <;> omega) _)⟩
set_option maxHeartbeats 1000000 in
theorem rCharge_2A (p : Pol) (c : Clk) (now delta rho : Int) (W : World) (hr : right p.r p.w p.l p.b = true) (n0 : 0 ≤ now) (n1 : now ≤ 2305843009213693952) (k0 : 0 ≤ c.l) (k1 : c.l ≤ 2305843009213693952) (hl : 0 < p.l) (hT : now < times (wide p.l) p.b) :
    Calls Try.prog 52 #[.agg #[.int .i64 p.r, .int .i64 p.w, .int .i64 p.l, .int .i64 p.b], .agg #[.int .i64 c.r, .int .i64 c.p, .int .i64 c.l], .int .i64 now, .int .i64 2, .int .i64 delta, .int .i64 rho] W fun e w' =>
      e = .returned (.agg #[.int .i64 (charge p c now 2 delta rho).r, .int .i64 (charge p c now 2 delta rho).p, .int .i64 (charge p c now 2 delta rho).l]) ∧ Below W.heap.size W w' := by
  have db := done_bd delta
  have rb := done_bd rho
  have r2 := right_iff.1 hr
  have pw := r2.2.2.2.2.2.1
  have pw0 : ¬ p.w = 0 := by omega
  have hq : IntKind.i64.wrap (Int.tdiv 67108864 p.w) = 67108864 / p.w := by
    rw [Int.tdiv_eq_ediv_of_nonneg (by decide)]
    exact IntWalk.i64_in _ ⟨by have := Int.ediv_nonneg (a := 67108864) (b := p.w) (by decide) (by omega); omega, by have := Int.ediv_le_self (a := 67108864) p.w (by decide); omega⟩
  have hd1 : IntKind.i64.wrap (1 + done_ delta) = 1 + done_ delta := IntWalk.i64_in _ (by omega)
  have tl := times_lo (wide p.l) p.b
  have th := times_hi (wide p.l) p.b
  have hz : (p.l == 0) = false := beq_eq_false_iff_ne.2 (by omega)
  have hc := charge_lim (c := c) (now := now) (phase := 2) (delta := delta) (rho := rho) hr (Or.inr rfl) hl
  rw [show max c.l (now - min (times (wide p.l) p.b) (max now 0)) = c.l by omega] at hc
  rw [show ((if (2 : Int) = 1 then 1 else 0) + done_ rho) = (done_ rho) by simp] at hc
  rw [hc]
  clear hc
  go_enter Try.func52, Try.ntmps52
  go_wp2_with fail
  with_reducible refine (rRight_calls _ _ _ _ _).mono ?_
  rintro e w1 ⟨rfl, hb1⟩
  have I1 := (CI.start W p c.r c.p c.l).below hb1
  clear hb1
  obtain ⟨c0, c1, c2, c3, d0, d1, d2, f0, f1, f2⟩ := I1.facts
  go_wp2_with (go_at_call 66; with_reducible refine (rdone_calls _ _).mono ?_; rintro e w' ⟨rfl, rfl⟩)
  go_still_tail 9, (by kernel_rfl)
  still_call (st (rSpace_calls _ _))
  repeat still_step
  still_call (st (rTimes_calls _ _ _))
  still_call (st (rAdd_calls _ _ _))
  repeat still_step
  refine wpStill_nil ?_
  clear c0 c1 c2 c3 d0 d1 d2 f0 f1 f2
  refine CI.rename (P := fun w => wpList _ _ _ _ _ w) I1.drew (fun w2 I2 => ?_)
  obtain ⟨c0, c1, c2, c3, d0, d1, d2, f0, f1, f2⟩ := I2.facts
  go_wp2_with fail
  clear c0 c1 c2 c3 d0 d1 d2 f0 f1 f2
  refine CI.rename (P := fun w => Code.wp _ _ _ _ w) (I2.set0 _) (fun w3 I3 => ?_)
  clear I1 I2
  obtain ⟨c0, c1, c2, c3, d0, d1, d2, f0, f1, f2⟩ := I3.facts
  go_still_tail 11, (by kernel_rfl)
  still_call (st (rdone_calls _ _))
  repeat still_step
  still_call (st (rTimes_calls _ _ _))
  still_call (st (rAdd_calls _ _ _))
  repeat still_step
  refine wpStill_nil ?_
  clear c0 c1 c2 c3 d0 d1 d2 f0 f1 f2
  refine CI.rename (P := fun w => wpList _ _ _ _ _ w) I3.drew (fun w4 I4 => ?_)
  obtain ⟨c0, c1, c2, c3, d0, d1, d2, f0, f1, f2⟩ := I4.facts
  go_wp2_with (first | (go_at_call 17; with_reducible refine (rWide_calls _ _).mono ?_; rintro e w' ⟨rfl, rfl⟩) | (go_at_call 49; with_reducible refine (rTimes_calls _ _ _).mono ?_; rintro e w' ⟨rfl, rfl⟩))
  clear c0 c1 c2 c3 d0 d1 d2 f0 f1 f2
  refine CI.rename (P := fun w => Code.wp _ _ _ _ w) (I4.set1 _) (fun w5 I5 => ?_)
  clear I3 I4
  obtain ⟨c0, c1, c2, c3, d0, d1, d2, f0, f1, f2⟩ := I5.facts
  go_still_tail 9, (by kernel_rfl)
  still_call (st (rdone_calls _ _))
  repeat still_step
  still_call (st (rTimes_calls _ _ _))
  still_call (st (rAdd_calls _ _ _))
  repeat still_step
  refine wpStill_nil ?_
  clear c0 c1 c2 c3 d0 d1 d2 f0 f1 f2
  refine CI.rename (P := fun w => wpList _ _ _ _ _ w) I5.drew (fun w6 I6 => ?_)
  obtain ⟨c0, c1, c2, c3, d0, d1, d2, f0, f1, f2⟩ := I6.facts
  obtain ⟨e0, e1, e2, g0, g1, g2⟩ := I6.facts2
  go_wp2_with fail
  exact bodyPost_ret (v := .agg #[.int .i64 (add c.r (times (space p.r) (done_ rho))), .int .i64 (add c.p (times (67108864 / p.w) (1 + done_ delta))), .int .i64 (add c.l (times (wide p.l) (1 + done_ delta)))])
    (by simp [results, Try.results52, go_sem, *]) rfl ⟨rfl, by repeat (first | exact I6.base | refine Below.setCell ?_ (by simp <;> omega) _)⟩
set_option maxHeartbeats 1000000 in
theorem rCharge_2B (p : Pol) (c : Clk) (now delta rho : Int) (W : World) (hr : right p.r p.w p.l p.b = true) (n0 : 0 ≤ now) (n1 : now ≤ 2305843009213693952) (k0 : 0 ≤ c.l) (k1 : c.l ≤ 2305843009213693952) (hl : 0 < p.l) (hT : times (wide p.l) p.b ≤ now) (hc2 : c.l < now - times (wide p.l) p.b) :
    Calls Try.prog 52 #[.agg #[.int .i64 p.r, .int .i64 p.w, .int .i64 p.l, .int .i64 p.b], .agg #[.int .i64 c.r, .int .i64 c.p, .int .i64 c.l], .int .i64 now, .int .i64 2, .int .i64 delta, .int .i64 rho] W fun e w' =>
      e = .returned (.agg #[.int .i64 (charge p c now 2 delta rho).r, .int .i64 (charge p c now 2 delta rho).p, .int .i64 (charge p c now 2 delta rho).l]) ∧ Below W.heap.size W w' := by
  have db := done_bd delta
  have rb := done_bd rho
  have r2 := right_iff.1 hr
  have pw := r2.2.2.2.2.2.1
  have pw0 : ¬ p.w = 0 := by omega
  have hq : IntKind.i64.wrap (Int.tdiv 67108864 p.w) = 67108864 / p.w := by
    rw [Int.tdiv_eq_ediv_of_nonneg (by decide)]
    exact IntWalk.i64_in _ ⟨by have := Int.ediv_nonneg (a := 67108864) (b := p.w) (by decide) (by omega); omega, by have := Int.ediv_le_self (a := 67108864) p.w (by decide); omega⟩
  have hd1 : IntKind.i64.wrap (1 + done_ delta) = 1 + done_ delta := IntWalk.i64_in _ (by omega)
  have tl := times_lo (wide p.l) p.b
  have th := times_hi (wide p.l) p.b
  have hz : (p.l == 0) = false := beq_eq_false_iff_ne.2 (by omega)
  have hc := charge_lim (c := c) (now := now) (phase := 2) (delta := delta) (rho := rho) hr (Or.inr rfl) hl
  rw [show max c.l (now - min (times (wide p.l) p.b) (max now 0)) = (now - times (wide p.l) p.b) by omega] at hc
  rw [show ((if (2 : Int) = 1 then 1 else 0) + done_ rho) = (done_ rho) by simp] at hc
  rw [hc]
  clear hc
  go_enter Try.func52, Try.ntmps52
  go_wp2_with fail
  with_reducible refine (rRight_calls _ _ _ _ _).mono ?_
  rintro e w1 ⟨rfl, hb1⟩
  have I1 := (CI.start W p c.r c.p c.l).below hb1
  clear hb1
  obtain ⟨c0, c1, c2, c3, d0, d1, d2, f0, f1, f2⟩ := I1.facts
  go_wp2_with (go_at_call 66; with_reducible refine (rdone_calls _ _).mono ?_; rintro e w' ⟨rfl, rfl⟩)
  go_still_tail 9, (by kernel_rfl)
  still_call (st (rSpace_calls _ _))
  repeat still_step
  still_call (st (rTimes_calls _ _ _))
  still_call (st (rAdd_calls _ _ _))
  repeat still_step
  refine wpStill_nil ?_
  clear c0 c1 c2 c3 d0 d1 d2 f0 f1 f2
  refine CI.rename (P := fun w => wpList _ _ _ _ _ w) I1.drew (fun w2 I2 => ?_)
  obtain ⟨c0, c1, c2, c3, d0, d1, d2, f0, f1, f2⟩ := I2.facts
  go_wp2_with fail
  clear c0 c1 c2 c3 d0 d1 d2 f0 f1 f2
  refine CI.rename (P := fun w => Code.wp _ _ _ _ w) (I2.set0 _) (fun w3 I3 => ?_)
  clear I1 I2
  obtain ⟨c0, c1, c2, c3, d0, d1, d2, f0, f1, f2⟩ := I3.facts
  go_still_tail 11, (by kernel_rfl)
  still_call (st (rdone_calls _ _))
  repeat still_step
  still_call (st (rTimes_calls _ _ _))
  still_call (st (rAdd_calls _ _ _))
  repeat still_step
  refine wpStill_nil ?_
  clear c0 c1 c2 c3 d0 d1 d2 f0 f1 f2
  refine CI.rename (P := fun w => wpList _ _ _ _ _ w) I3.drew (fun w4 I4 => ?_)
  obtain ⟨c0, c1, c2, c3, d0, d1, d2, f0, f1, f2⟩ := I4.facts
  go_wp2_with (first | (go_at_call 17; with_reducible refine (rWide_calls _ _).mono ?_; rintro e w' ⟨rfl, rfl⟩) | (go_at_call 49; with_reducible refine (rTimes_calls _ _ _).mono ?_; rintro e w' ⟨rfl, rfl⟩))
  clear c0 c1 c2 c3 d0 d1 d2 f0 f1 f2
  refine CI.rename (P := fun w => Code.wp _ _ _ _ w) ((I4.set1 _).set2 _) (fun w5 I5 => ?_)
  clear I3 I4
  obtain ⟨c0, c1, c2, c3, d0, d1, d2, f0, f1, f2⟩ := I5.facts
  go_still_tail 9, (by kernel_rfl)
  still_call (st (rdone_calls _ _))
  repeat still_step
  still_call (st (rTimes_calls _ _ _))
  still_call (st (rAdd_calls _ _ _))
  repeat still_step
  refine wpStill_nil ?_
  clear c0 c1 c2 c3 d0 d1 d2 f0 f1 f2
  refine CI.rename (P := fun w => wpList _ _ _ _ _ w) I5.drew (fun w6 I6 => ?_)
  obtain ⟨c0, c1, c2, c3, d0, d1, d2, f0, f1, f2⟩ := I6.facts
  obtain ⟨e0, e1, e2, g0, g1, g2⟩ := I6.facts2
  go_wp2_with fail
  exact bodyPost_ret (v := .agg #[.int .i64 (add c.r (times (space p.r) (done_ rho))), .int .i64 (add c.p (times (67108864 / p.w) (1 + done_ delta))), .int .i64 (add (now - times (wide p.l) p.b) (times (wide p.l) (1 + done_ delta)))])
    (by simp [results, Try.results52, go_sem, *]) rfl ⟨rfl, by repeat (first | exact I6.base | refine Below.setCell ?_ (by simp <;> omega) _)⟩
set_option maxHeartbeats 1000000 in
theorem rCharge_2C (p : Pol) (c : Clk) (now delta rho : Int) (W : World) (hr : right p.r p.w p.l p.b = true) (n0 : 0 ≤ now) (n1 : now ≤ 2305843009213693952) (k0 : 0 ≤ c.l) (k1 : c.l ≤ 2305843009213693952) (hl : 0 < p.l) (hT : times (wide p.l) p.b ≤ now) (hc2 : now - times (wide p.l) p.b ≤ c.l) :
    Calls Try.prog 52 #[.agg #[.int .i64 p.r, .int .i64 p.w, .int .i64 p.l, .int .i64 p.b], .agg #[.int .i64 c.r, .int .i64 c.p, .int .i64 c.l], .int .i64 now, .int .i64 2, .int .i64 delta, .int .i64 rho] W fun e w' =>
      e = .returned (.agg #[.int .i64 (charge p c now 2 delta rho).r, .int .i64 (charge p c now 2 delta rho).p, .int .i64 (charge p c now 2 delta rho).l]) ∧ Below W.heap.size W w' := by
  have db := done_bd delta
  have rb := done_bd rho
  have r2 := right_iff.1 hr
  have pw := r2.2.2.2.2.2.1
  have pw0 : ¬ p.w = 0 := by omega
  have hq : IntKind.i64.wrap (Int.tdiv 67108864 p.w) = 67108864 / p.w := by
    rw [Int.tdiv_eq_ediv_of_nonneg (by decide)]
    exact IntWalk.i64_in _ ⟨by have := Int.ediv_nonneg (a := 67108864) (b := p.w) (by decide) (by omega); omega, by have := Int.ediv_le_self (a := 67108864) p.w (by decide); omega⟩
  have hd1 : IntKind.i64.wrap (1 + done_ delta) = 1 + done_ delta := IntWalk.i64_in _ (by omega)
  have tl := times_lo (wide p.l) p.b
  have th := times_hi (wide p.l) p.b
  have hz : (p.l == 0) = false := beq_eq_false_iff_ne.2 (by omega)
  have hc := charge_lim (c := c) (now := now) (phase := 2) (delta := delta) (rho := rho) hr (Or.inr rfl) hl
  rw [show max c.l (now - min (times (wide p.l) p.b) (max now 0)) = c.l by omega] at hc
  rw [show ((if (2 : Int) = 1 then 1 else 0) + done_ rho) = (done_ rho) by simp] at hc
  rw [hc]
  clear hc
  go_enter Try.func52, Try.ntmps52
  go_wp2_with fail
  with_reducible refine (rRight_calls _ _ _ _ _).mono ?_
  rintro e w1 ⟨rfl, hb1⟩
  have I1 := (CI.start W p c.r c.p c.l).below hb1
  clear hb1
  obtain ⟨c0, c1, c2, c3, d0, d1, d2, f0, f1, f2⟩ := I1.facts
  go_wp2_with (go_at_call 66; with_reducible refine (rdone_calls _ _).mono ?_; rintro e w' ⟨rfl, rfl⟩)
  go_still_tail 9, (by kernel_rfl)
  still_call (st (rSpace_calls _ _))
  repeat still_step
  still_call (st (rTimes_calls _ _ _))
  still_call (st (rAdd_calls _ _ _))
  repeat still_step
  refine wpStill_nil ?_
  clear c0 c1 c2 c3 d0 d1 d2 f0 f1 f2
  refine CI.rename (P := fun w => wpList _ _ _ _ _ w) I1.drew (fun w2 I2 => ?_)
  obtain ⟨c0, c1, c2, c3, d0, d1, d2, f0, f1, f2⟩ := I2.facts
  go_wp2_with fail
  clear c0 c1 c2 c3 d0 d1 d2 f0 f1 f2
  refine CI.rename (P := fun w => Code.wp _ _ _ _ w) (I2.set0 _) (fun w3 I3 => ?_)
  clear I1 I2
  obtain ⟨c0, c1, c2, c3, d0, d1, d2, f0, f1, f2⟩ := I3.facts
  go_still_tail 11, (by kernel_rfl)
  still_call (st (rdone_calls _ _))
  repeat still_step
  still_call (st (rTimes_calls _ _ _))
  still_call (st (rAdd_calls _ _ _))
  repeat still_step
  refine wpStill_nil ?_
  clear c0 c1 c2 c3 d0 d1 d2 f0 f1 f2
  refine CI.rename (P := fun w => wpList _ _ _ _ _ w) I3.drew (fun w4 I4 => ?_)
  obtain ⟨c0, c1, c2, c3, d0, d1, d2, f0, f1, f2⟩ := I4.facts
  go_wp2_with (first | (go_at_call 17; with_reducible refine (rWide_calls _ _).mono ?_; rintro e w' ⟨rfl, rfl⟩) | (go_at_call 49; with_reducible refine (rTimes_calls _ _ _).mono ?_; rintro e w' ⟨rfl, rfl⟩))
  all_goals
    clear c0 c1 c2 c3 d0 d1 d2 f0 f1 f2
    refine CI.rename (P := fun w => Code.wp _ _ _ _ w) (I4.set1 _) (fun w5 I5 => ?_)
    clear I3 I4
    obtain ⟨c0, c1, c2, c3, d0, d1, d2, f0, f1, f2⟩ := I5.facts
    go_still_tail 9, (by kernel_rfl)
    still_call (st (rdone_calls _ _))
    repeat still_step
    still_call (st (rTimes_calls _ _ _))
    still_call (st (rAdd_calls _ _ _))
    repeat still_step
    refine wpStill_nil ?_
    clear c0 c1 c2 c3 d0 d1 d2 f0 f1 f2
    refine CI.rename (P := fun w => wpList _ _ _ _ _ w) I5.drew (fun w6 I6 => ?_)
    obtain ⟨c0, c1, c2, c3, d0, d1, d2, f0, f1, f2⟩ := I6.facts
    obtain ⟨e0, e1, e2, g0, g1, g2⟩ := I6.facts2
    go_wp2_with fail
    exact bodyPost_ret (v := .agg #[.int .i64 (add c.r (times (space p.r) (done_ rho))), .int .i64 (add c.p (times (67108864 / p.w) (1 + done_ delta))), .int .i64 (add c.l (times (wide p.l) (1 + done_ delta)))])
      (by simp [results, Try.results52, go_sem, *]) rfl ⟨rfl, by repeat (first | exact I6.base | refine Below.setCell ?_ (by simp <;> omega) _)⟩
set_option maxHeartbeats 1000000 in
theorem rCharge_calls (p : Pol) (c : Clk) (now phase delta rho : Int) (W : World) (n0 : 0 ≤ now) (n1 : now ≤ 2305843009213693952) (k0 : 0 ≤ c.l) (k1 : c.l ≤ 2305843009213693952) :
    Calls Try.prog 52 #[.agg #[.int .i64 p.r, .int .i64 p.w, .int .i64 p.l, .int .i64 p.b], .agg #[.int .i64 c.r, .int .i64 c.p, .int .i64 c.l], .int .i64 now, .int .i64 phase, .int .i64 delta, .int .i64 rho] W fun e w' =>
      e = .returned (.agg #[.int .i64 (charge p c now phase delta rho).r, .int .i64 (charge p c now phase delta rho).p, .int .i64 (charge p c now phase delta rho).l]) ∧ Below W.heap.size W w' := by
  cases hr : right p.r p.w p.l p.b with
  | true =>
    by_cases hp : phase = 1 ∨ phase = 2
    · by_cases hl : 0 < p.l
      · by_cases hT : now < times (wide p.l) p.b
        · rcases hp with rfl | rfl
          · exact rCharge_1A p c now delta rho W hr n0 n1 k0 k1 hl hT
          · exact rCharge_2A p c now delta rho W hr n0 n1 k0 k1 hl hT
        · by_cases hc2 : c.l < now - times (wide p.l) p.b
          · rcases hp with rfl | rfl
            · exact rCharge_1B p c now delta rho W hr n0 n1 k0 k1 hl (by omega) hc2
            · exact rCharge_2B p c now delta rho W hr n0 n1 k0 k1 hl (by omega) hc2
          · rcases hp with rfl | rfl
            · exact rCharge_1C p c now delta rho W hr n0 n1 k0 k1 hl (by omega) (by omega)
            · exact rCharge_2C p c now delta rho W hr n0 n1 k0 k1 hl (by omega) (by omega)
      · rcases hp with rfl | rfl
        · exact rCharge_1Z p c now delta rho W hr n0 n1 k0 k1 hl
        · exact rCharge_2Z p c now delta rho W hr n0 n1 k0 k1 hl
    · rw [charge_no (Or.inr (by omega))]
      by_cases h1 : phase < 1
      all_goals
        go_enter Try.func52, Try.ntmps52
        go_wp2_with fail
        with_reducible refine (rRight_calls _ _ _ _ _).mono ?_
        rintro e w1 ⟨rfl, hb1⟩
        have I1 := (CI.start W p c.r c.p c.l).below hb1
        clear hb1
        obtain ⟨c0, c1, c2, c3, d0, d1, d2, f0, f1, f2⟩ := I1.facts
        obtain ⟨e0, e1, e2, g0, g1, g2⟩ := I1.facts2
        go_wp2
        exact bodyPost_ret (v := .agg #[.int .i64 c.r, .int .i64 c.p, .int .i64 c.l]) (by simp [results, Try.results52, go_sem, *]) rfl ⟨rfl, by repeat (first | exact I1.base | refine Below.setCell ?_ (by simp <;> omega) _)⟩
  | false =>
    rw [charge_no (Or.inl hr)]
    go_enter Try.func52, Try.ntmps52
    go_wp2_with fail
    with_reducible refine (rRight_calls _ _ _ _ _).mono ?_
    rintro e w1 ⟨rfl, hb1⟩
    have I1 := (CI.start W p c.r c.p c.l).below hb1
    clear hb1
    obtain ⟨c0, c1, c2, c3, d0, d1, d2, f0, f1, f2⟩ := I1.facts
    obtain ⟨e0, e1, e2, g0, g1, g2⟩ := I1.facts2
    go_wp2
    exact bodyPost_ret (v := .agg #[.int .i64 c.r, .int .i64 c.p, .int .i64 c.l]) (by simp [results, Try.results52, go_sem, *]) rfl ⟨rfl, by repeat (first | exact I1.base | refine Below.setCell ?_ (by simp <;> omega) _)⟩
end Go.Proofs.Ytjdkafamaoeifaa
