/- The walks through clocks and the document's answer for layer 11. -/
import Derived.Test.YtjdkafamaoeifaaPol3
import Derived.Test.YtjdkafamaoeifaaReg
import Derived.StillTailTactics
-- PARTIAL
namespace Go.Proofs.Ytjdkafamaoeifaa
open Go.RowKit

structure Clk where
  r : Int
  p : Int
  l : Int
def done_ (n : Int) : Int := if n < 0 then 0 else if 1048576 < n then 1048576 else n
theorem done_bd (n : Int) : 0 ≤ done_ n ∧ done_ n ≤ 1048576 := by unfold done_; grind
def charge (p : Pol) (c : Clk) (now phase delta rho : Int) : Clk :=
  if right p.r p.w p.l p.b = false ∨ (phase ≠ 1 ∧ phase ≠ 2) then c else
    { r := add c.r (times (space p.r) ((if phase = 1 then 1 else 0) + done_ rho))
      p := add c.p (times (67108864 / p.w) (1 + done_ delta))
      l := if 0 < p.l then add (max c.l (now - min (times (wide p.l) p.b) (max now 0))) (times (wide p.l) (1 + done_ delta)) else c.l }

set_option maxHeartbeats 400000 in
theorem done_calls (a : Int) (w : World) : Calls Try.prog 58 #[.int .i64 a] w fun e w' => e = .returned (.int .i64 (done_ a)) ∧ w = w' := by
  go_enter Try.func58, Try.ntmps58
  go_wp2
  all_goals (go_ret; exact ⟨ret_int (by unfold done_; grind), rfl⟩)
set_option maxHeartbeats 400000 in
theorem rdone_calls (a : Int) (w : World) : Calls Try.prog 66 #[.int .i64 a] w fun e w' => e = .returned (.int .i64 (done_ a)) ∧ w = w' := by
  go_enter Try.func66, Try.ntmps66
  go_wp2
  all_goals (go_ret; exact ⟨ret_int (by unfold done_; grind), rfl⟩)
theorem st {P : Program} {f : FuncId} {args : Array Value} {w : World} {v : Value} (h : Calls P f args w fun e w' => e = .returned v ∧ w = w') : Calls P f args w fun e w' => e = .returned v ∧ w' = w :=
  h.mono fun _ _ ⟨a, b⟩ => ⟨a, b.symm⟩

/-- the three blocks of Charge: the policy, the clocks, the answer -/
def CI (W : World) (p : Pol) (x y z : Int) (w : World) : Prop :=
  Inv W [(W.heap.size + 1, 51, #[.int .i64 x, .int .i64 y, .int .i64 z]), (W.heap.size, 29, #[.int .i64 p.r, .int .i64 p.w, .int .i64 p.l, .int .i64 p.b]), (W.heap.size + 1 + 1, 51, #[.int .i64 0, .int .i64 0, .int .i64 0])] w
section
variable {W w w' : World} {p : Pol} {x y z u : Int}
theorem CI.start (W : World) (p : Pol) (x y z : Int) : CI W p x y z (((W.alloc (.cells #[.int .i64 p.r, .int .i64 p.w, .int .i64 p.l, .int .i64 p.b] 29)).alloc (.cells #[.int .i64 x, .int .i64 y, .int .i64 z] 51)).alloc (.cells #[.int .i64 0, .int .i64 0, .int .i64 0] 51)) :=
  ((((Inv.refl W).new rfl).new (b := W.heap.size + 1) (by simp)).new (b := W.heap.size + 1 + 1) (by simp)).sub (fun q hq => by
    simp only [List.mem_cons, List.mem_nil_iff, or_false] at hq ⊢
    rcases hq with h | h | h
    · exact Or.inr (Or.inl h)
    · exact Or.inr (Or.inr h)
    · exact Or.inl h)
theorem CI.below (h : CI W p x y z w) (hb : Below w.heap.size w w') : CI W p x y z w' := Inv.below h hb
theorem CI.drew (h : CI W p x y z w) : CI W p x y z w.drew := Inv.drew h
theorem CI.set0 (h : CI W p x y z w) (u : Int) : CI W p u y z (w.setCell ⟨W.heap.size + 1, 0, none⟩ (.int .i64 u)) :=
  Inv.set h (by omega) (fun q hq => by simp only [List.mem_cons, List.mem_nil_iff, or_false] at hq; rcases hq with rfl | rfl <;> simp) 0 _
theorem CI.set1 (h : CI W p x y z w) (u : Int) : CI W p x u z (w.setCell ⟨W.heap.size + 1, 1, none⟩ (.int .i64 u)) :=
  Inv.set h (by omega) (fun q hq => by simp only [List.mem_cons, List.mem_nil_iff, or_false] at hq; rcases hq with rfl | rfl <;> simp) 1 _
theorem CI.set2 (h : CI W p x y z w) (u : Int) : CI W p x y u (w.setCell ⟨W.heap.size + 1, 2, none⟩ (.int .i64 u)) :=
  Inv.set h (by omega) (fun q hq => by simp only [List.mem_cons, List.mem_nil_iff, or_false] at hq; rcases hq with rfl | rfl <;> simp) 2 _
theorem CI.rename {P : World → Prop} (h : CI W p x y z w) (hP : ∀ w', CI W p x y z w' → P w') : P w := hP w h
theorem CI.facts (h : CI W p x y z w) :
    w.cell? ⟨W.heap.size, 0, none⟩ = some (.int .i64 p.r) ∧ w.cell? ⟨W.heap.size, 1, none⟩ = some (.int .i64 p.w) ∧ w.cell? ⟨W.heap.size, 2, none⟩ = some (.int .i64 p.l) ∧ w.cell? ⟨W.heap.size, 3, none⟩ = some (.int .i64 p.b) ∧
    w.cell? ⟨W.heap.size + 1, 0, none⟩ = some (.int .i64 x) ∧ w.cell? ⟨W.heap.size + 1, 1, none⟩ = some (.int .i64 y) ∧ w.cell? ⟨W.heap.size + 1, 2, none⟩ = some (.int .i64 z) ∧
    w.frozen? ⟨W.heap.size + 1, 0, none⟩ = false ∧ w.frozen? ⟨W.heap.size + 1, 1, none⟩ = false ∧ w.frozen? ⟨W.heap.size + 1, 2, none⟩ = false :=
  have m0 := List.Mem.head _
  have m1 := List.Mem.tail _ (List.Mem.head _)
  ⟨Inv.cell h m1 0, Inv.cell h m1 1, Inv.cell h m1 2, Inv.cell h m1 3, Inv.cell h m0 0, Inv.cell h m0 1, Inv.cell h m0 2, Inv.frozen h m0 0, Inv.frozen h m0 1, Inv.frozen h m0 2⟩
theorem CI.facts2 (h : CI W p x y z w) :
    w.cell? ⟨W.heap.size + 1 + 1, 0, none⟩ = some (.int .i64 0) ∧ w.cell? ⟨W.heap.size + 1 + 1, 1, none⟩ = some (.int .i64 0) ∧ w.cell? ⟨W.heap.size + 1 + 1, 2, none⟩ = some (.int .i64 0) ∧
    w.frozen? ⟨W.heap.size + 1 + 1, 0, none⟩ = false ∧ w.frozen? ⟨W.heap.size + 1 + 1, 1, none⟩ = false ∧ w.frozen? ⟨W.heap.size + 1 + 1, 2, none⟩ = false :=
  have m2 := List.Mem.tail _ (List.Mem.tail _ (List.Mem.head _))
  ⟨Inv.cell h m2 0, Inv.cell h m2 1, Inv.cell h m2 2, Inv.frozen h m2 0, Inv.frozen h m2 1, Inv.frozen h m2 2⟩
end
theorem charge_lim {p : Pol} {c : Clk} {now phase delta rho : Int} (hr : right p.r p.w p.l p.b = true) (hp : phase = 1 ∨ phase = 2) (hl : 0 < p.l) :
    charge p c now phase delta rho = ⟨add c.r (times (space p.r) ((if phase = 1 then 1 else 0) + done_ rho)), add c.p (times (67108864 / p.w) (1 + done_ delta)), add (max c.l (now - min (times (wide p.l) p.b) (max now 0))) (times (wide p.l) (1 + done_ delta))⟩ := by
  unfold charge
  rw [if_neg (by rw [hr]; intro h; rcases h with h | h; cases h; omega), if_pos hl]
theorem charge_free {p : Pol} {c : Clk} {now phase delta rho : Int} (hr : right p.r p.w p.l p.b = true) (hp : phase = 1 ∨ phase = 2) (hl : ¬ 0 < p.l) :
    charge p c now phase delta rho = ⟨add c.r (times (space p.r) ((if phase = 1 then 1 else 0) + done_ rho)), add c.p (times (67108864 / p.w) (1 + done_ delta)), c.l⟩ := by
  unfold charge
  rw [if_neg (by rw [hr]; intro h; rcases h with h | h; cases h; omega), if_neg hl]
theorem charge_no {p : Pol} {c : Clk} {now phase delta rho : Int} (h : right p.r p.w p.l p.b = false ∨ (phase ≠ 1 ∧ phase ≠ 2)) : charge p c now phase delta rho = c := by
  unfold charge
  rw [if_pos h]
set_option maxHeartbeats 1000000 in
set_option maxRecDepth 100000 in
theorem charge_yes (p : Pol) (c : Clk) (now phase delta rho : Int) (W : World) (hr : right p.r p.w p.l p.b = true) (hp : phase = 1 ∨ phase = 2) (hn : -9223372036854775808 ≤ now ∧ now ≤ 9223372036854775807) :
    Calls Try.prog 37 #[.agg #[.int .i64 p.r, .int .i64 p.w, .int .i64 p.l, .int .i64 p.b], .agg #[.int .i64 c.r, .int .i64 c.p, .int .i64 c.l], .int .i64 now, .int .i64 phase, .int .i64 delta, .int .i64 rho] W fun e w' =>
      e = .returned (.agg #[.int .i64 (charge p c now phase delta rho).r, .int .i64 (charge p c now phase delta rho).p, .int .i64 (charge p c now phase delta rho).l]) ∧ Below W.heap.size W w' := by
  have db := done_bd delta
  have rb := done_bd rho
  have r2 := right_iff.1 hr
  have pw := r2.2.2.2.2.2.1
  have pw0 : ¬ p.w = 0 := by omega
  have hq : IntKind.i64.wrap (Int.tdiv 67108864 p.w) = 67108864 / p.w := by
    rw [Int.tdiv_eq_ediv_of_nonneg (by decide)]
    exact IntWalk.i64_in _ ⟨by have := Int.ediv_nonneg (a := 67108864) (b := p.w) (by decide) (by omega); omega, by have := Int.ediv_le_self (a := 67108864) p.w (by decide); omega⟩
  have ho1 : IntKind.i64.wrap (1 + done_ rho) = 1 + done_ rho := IntWalk.i64_in _ (by omega)
  have ho2 : IntKind.i64.wrap (done_ rho) = done_ rho := IntWalk.i64_in _ (by omega)
  rcases hp with rfl | rfl
  · go_enter Try.func37, Try.ntmps37
    go_wp2_with fail
    with_reducible refine (right_calls _ _ _ _ _).mono ?_
    rintro e w1 ⟨rfl, hb1⟩
    have I1 := (CI.start W p c.r c.p c.l).below hb1
    clear hb1
    obtain ⟨c0, c1, c2, c3, d0, d1, d2, f0, f1, f2⟩ := I1.facts
    go_wp2_with (go_at_call 58; with_reducible refine (done_calls _ _).mono ?_; rintro e w' ⟨rfl, rfl⟩)
    go_still_tail 12, (by kernel_rfl)
    still_call (st (space_calls _ _))
    repeat still_step
    still_call (st (done_calls _ _))
    repeat still_step
    still_call (st (times_calls _ _ _))
    still_call (st (add_calls _ _ _))
    repeat still_step
    refine wpStill_nil ?_
    clear c0 c1 c2 c3 d0 d1 d2 f0 f1 f2
    refine CI.rename (P := fun w => wpList _ _ _ _ _ w) I1.drew (fun w2 I2 => ?_)
    obtain ⟨c0, c1, c2, c3, d0, d1, d2, f0, f1, f2⟩ := I2.facts
    go_wp2_with fail
    clear c0 c1 c2 c3 d0 d1 d2 f0 f1 f2
    refine CI.rename (P := fun w => Code.wp _ _ _ _ w) (I2.set0 _) (fun w3 I3 => ?_)
    clear I1 I2
    obtain ⟨c0, c1, c2, c3, d0, d1, d2, f0, f1, f2⟩ := I3.facts
    go_still_tail 9, (by kernel_rfl)
    still_call (st (times_calls _ _ _))
    still_call (st (add_calls _ _ _))
    repeat still_step
    refine wpStill_nil ?_
    clear c0 c1 c2 c3 d0 d1 d2 f0 f1 f2
    refine CI.rename (P := fun w => wpList _ _ _ _ _ w) I3.drew (fun w4 I4 => ?_)
    obtain ⟨c0, c1, c2, c3, d0, d1, d2, f0, f1, f2⟩ := I4.facts
    by_cases hl : 0 < p.l
    · go_wp2_with (go_at_call 45; with_reducible refine (wide_calls _ _).mono ?_; rintro e w' ⟨rfl, rfl⟩)
      clear c0 c1 c2 c3 d0 d1 d2 f0 f1 f2
      refine CI.rename (P := fun w => Code.wp _ _ _ _ w) (I4.set1 _) (fun w5 I5 => ?_)
      clear I3 I4
      obtain ⟨c0, c1, c2, c3, d0, d1, d2, f0, f1, f2⟩ := I5.facts
      obtain ⟨n0, m1⟩ : ∃ n0 : Int, (if now < 0 then 0 else now) = n0 := ⟨_, rfl⟩
      obtain ⟨t0, m2⟩ : ∃ t0 : Int, (if n0 < times (wide p.l) p.b then n0 else times (wide p.l) p.b) = t0 := ⟨_, rfl⟩
      have tl := times_lo (wide p.l) p.b
      have m3 : IntKind.i64.wrap (now - t0) = now - t0 := IntWalk.i64_in _ (by grind)
      obtain ⟨l0, m4⟩ : ∃ l0 : Int, (if c.l < now - t0 then now - t0 else c.l) = l0 := ⟨_, rfl⟩
      have hL : l0 = max c.l (now - min (times (wide p.l) p.b) (max now 0)) := by grind
      have HL := hide hL
      clear hL
      go_still_tail 13, (by kernel_rfl)
      still_call (st (times_calls _ _ _))
      repeat still_step
      refine wpStill_nil ?_
      clear c0 c1 c2 c3 d0 d1 d2 f0 f1 f2 m1 m2 m3 m4 tl
      refine CI.rename (P := fun w => wpList _ _ _ _ _ w) I5.drew (fun w6 I6 => ?_)
      obtain ⟨c0, c1, c2, c3, d0, d1, d2, f0, f1, f2⟩ := I6.facts
      go_wp2_with fail
      clear c0 c1 c2 c3 d0 d1 d2 f0 f1 f2
      refine CI.rename (P := fun w => Code.wp _ _ _ _ w) (I6.set2 _) (fun w7 I7 => ?_)
      clear I5 I6
      obtain ⟨c0, c1, c2, c3, d0, d1, d2, f0, f1, f2⟩ := I7.facts
      go_still_tail 7, (by kernel_rfl)
      still_call (st (times_calls _ _ _))
      still_call (st (add_calls _ _ _))
      repeat still_step
      refine wpStill_nil ?_
      clear c0 c1 c2 c3 d0 d1 d2 f0 f1 f2
      refine CI.rename (P := fun w => wpList _ _ _ _ _ w) I7.drew (fun w8 I8 => ?_)
      obtain ⟨c0, c1, c2, c3, d0, d1, d2, f0, f1, f2⟩ := I8.facts
      obtain ⟨e0, e1, e2, g0, g1, g2⟩ := I8.facts2
      go_wp2_with fail
      have hc := charge_lim (c := c) (now := now) (phase := 1) (delta := delta) (rho := rho) hr (Or.inl rfl) (by omega)
      rw [← HL.out] at hc
      rw [hc]
      exact bodyPost_ret (v := .agg #[.int .i64 (add c.r (times (space p.r) (1 + done_ rho))), .int .i64 (add c.p (times (67108864 / p.w) (1 + done_ delta))), .int .i64 (add l0 (times (wide p.l) (1 + done_ delta)))])
        (by simp [results, Try.results37, go_sem, *]) rfl ⟨rfl, by repeat (first | exact I8.base | refine Below.setCell ?_ (by simp <;> omega) _)⟩
    · have I5 := I4.set1 (add c.p (times (67108864 / p.w) (1 + done_ delta)))
      obtain ⟨e0, e1, e2, g0, g1, g2⟩ := I4.facts2
      go_wp2_with fail
      have hc := charge_free (c := c) (now := now) (phase := 1) (delta := delta) (rho := rho) hr (Or.inl rfl) (by omega)
      rw [hc]
      exact bodyPost_ret (v := .agg #[.int .i64 (add c.r (times (space p.r) (1 + done_ rho))), .int .i64 (add c.p (times (67108864 / p.w) (1 + done_ delta))), .int .i64 c.l])
        (by simp [results, Try.results37, go_sem, *]) rfl ⟨rfl, by repeat (first | exact I5.base | refine Below.setCell ?_ (by simp <;> omega) _)⟩
  · go_enter Try.func37, Try.ntmps37
    go_wp2_with fail
    with_reducible refine (right_calls _ _ _ _ _).mono ?_
    rintro e w1 ⟨rfl, hb1⟩
    have I1 := (CI.start W p c.r c.p c.l).below hb1
    clear hb1
    obtain ⟨c0, c1, c2, c3, d0, d1, d2, f0, f1, f2⟩ := I1.facts
    go_wp2_with (go_at_call 58; with_reducible refine (done_calls _ _).mono ?_; rintro e w' ⟨rfl, rfl⟩)
    go_still_tail 12, (by kernel_rfl)
    still_call (st (space_calls _ _))
    repeat still_step
    still_call (st (done_calls _ _))
    repeat still_step
    still_call (st (times_calls _ _ _))
    still_call (st (add_calls _ _ _))
    repeat still_step
    refine wpStill_nil ?_
    clear c0 c1 c2 c3 d0 d1 d2 f0 f1 f2
    refine CI.rename (P := fun w => wpList _ _ _ _ _ w) I1.drew (fun w2 I2 => ?_)
    obtain ⟨c0, c1, c2, c3, d0, d1, d2, f0, f1, f2⟩ := I2.facts
    go_wp2_with fail
    clear c0 c1 c2 c3 d0 d1 d2 f0 f1 f2
    refine CI.rename (P := fun w => Code.wp _ _ _ _ w) (I2.set0 _) (fun w3 I3 => ?_)
    clear I1 I2
    obtain ⟨c0, c1, c2, c3, d0, d1, d2, f0, f1, f2⟩ := I3.facts
    go_still_tail 9, (by kernel_rfl)
    still_call (st (times_calls _ _ _))
    still_call (st (add_calls _ _ _))
    repeat still_step
    refine wpStill_nil ?_
    clear c0 c1 c2 c3 d0 d1 d2 f0 f1 f2
    refine CI.rename (P := fun w => wpList _ _ _ _ _ w) I3.drew (fun w4 I4 => ?_)
    obtain ⟨c0, c1, c2, c3, d0, d1, d2, f0, f1, f2⟩ := I4.facts
    by_cases hl : 0 < p.l
    · go_wp2_with (go_at_call 45; with_reducible refine (wide_calls _ _).mono ?_; rintro e w' ⟨rfl, rfl⟩)
      clear c0 c1 c2 c3 d0 d1 d2 f0 f1 f2
      refine CI.rename (P := fun w => Code.wp _ _ _ _ w) (I4.set1 _) (fun w5 I5 => ?_)
      clear I3 I4
      obtain ⟨c0, c1, c2, c3, d0, d1, d2, f0, f1, f2⟩ := I5.facts
      obtain ⟨n0, m1⟩ : ∃ n0 : Int, (if now < 0 then 0 else now) = n0 := ⟨_, rfl⟩
      obtain ⟨t0, m2⟩ : ∃ t0 : Int, (if n0 < times (wide p.l) p.b then n0 else times (wide p.l) p.b) = t0 := ⟨_, rfl⟩
      have tl := times_lo (wide p.l) p.b
      have m3 : IntKind.i64.wrap (now - t0) = now - t0 := IntWalk.i64_in _ (by grind)
      obtain ⟨l0, m4⟩ : ∃ l0 : Int, (if c.l < now - t0 then now - t0 else c.l) = l0 := ⟨_, rfl⟩
      have hL : l0 = max c.l (now - min (times (wide p.l) p.b) (max now 0)) := by grind
      have HL := hide hL
      clear hL
      go_still_tail 13, (by kernel_rfl)
      still_call (st (times_calls _ _ _))
      repeat still_step
      refine wpStill_nil ?_
      clear c0 c1 c2 c3 d0 d1 d2 f0 f1 f2 m1 m2 m3 m4 tl
      refine CI.rename (P := fun w => wpList _ _ _ _ _ w) I5.drew (fun w6 I6 => ?_)
      obtain ⟨c0, c1, c2, c3, d0, d1, d2, f0, f1, f2⟩ := I6.facts
      go_wp2_with fail
      clear c0 c1 c2 c3 d0 d1 d2 f0 f1 f2
      refine CI.rename (P := fun w => Code.wp _ _ _ _ w) (I6.set2 _) (fun w7 I7 => ?_)
      clear I5 I6
      obtain ⟨c0, c1, c2, c3, d0, d1, d2, f0, f1, f2⟩ := I7.facts
      go_still_tail 7, (by kernel_rfl)
      still_call (st (times_calls _ _ _))
      still_call (st (add_calls _ _ _))
      repeat still_step
      refine wpStill_nil ?_
      clear c0 c1 c2 c3 d0 d1 d2 f0 f1 f2
      refine CI.rename (P := fun w => wpList _ _ _ _ _ w) I7.drew (fun w8 I8 => ?_)
      obtain ⟨c0, c1, c2, c3, d0, d1, d2, f0, f1, f2⟩ := I8.facts
      obtain ⟨e0, e1, e2, g0, g1, g2⟩ := I8.facts2
      go_wp2_with fail
      have hc := charge_lim (c := c) (now := now) (phase := 2) (delta := delta) (rho := rho) hr (Or.inr rfl) (by omega)
      rw [← HL.out] at hc
      rw [show ((if (2 : Int) = 1 then 1 else 0) + done_ rho) = done_ rho by simp] at hc
      rw [hc]
      exact bodyPost_ret (v := .agg #[.int .i64 (add c.r (times (space p.r) (done_ rho))), .int .i64 (add c.p (times (67108864 / p.w) (1 + done_ delta))), .int .i64 (add l0 (times (wide p.l) (1 + done_ delta)))])
        (by simp [results, Try.results37, go_sem, *]) rfl ⟨rfl, by repeat (first | exact I8.base | refine Below.setCell ?_ (by simp <;> omega) _)⟩
    · have I5 := I4.set1 (add c.p (times (67108864 / p.w) (1 + done_ delta)))
      obtain ⟨e0, e1, e2, g0, g1, g2⟩ := I4.facts2
      go_wp2_with fail
      have hc := charge_free (c := c) (now := now) (phase := 2) (delta := delta) (rho := rho) hr (Or.inr rfl) (by omega)
      rw [show ((if (2 : Int) = 1 then 1 else 0) + done_ rho) = done_ rho by simp] at hc
      rw [hc]
      exact bodyPost_ret (v := .agg #[.int .i64 (add c.r (times (space p.r) (done_ rho))), .int .i64 (add c.p (times (67108864 / p.w) (1 + done_ delta))), .int .i64 c.l])
        (by simp [results, Try.results37, go_sem, *]) rfl ⟨rfl, by repeat (first | exact I5.base | refine Below.setCell ?_ (by simp <;> omega) _)⟩
end Go.Proofs.Ytjdkafamaoeifaa
