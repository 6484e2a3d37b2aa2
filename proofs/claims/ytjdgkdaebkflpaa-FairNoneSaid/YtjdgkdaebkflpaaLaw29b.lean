/- The law FairNone of layer 29: for every input it answers true. No conditions. -/
import Derived.Test.YtjdgkdaebkflpaaLaw29
namespace Go.Proofs.Ytjdgkdaebkflpaa
open Go.ChangeShapes Go.WideShapes Go.ChangeAt Go.RowKit Go.Joins
set_option linter.unusedVariables false
set_option maxRecDepth 100000

theorem Try.cellsPol2 : Try.prog.cellsOf 26 = 4 := by kernel_rfl
theorem open_pol2 {H : Type} {enc : TypeId × Value → H} {W : World} {base : Nat} {v : Value} {d : DataW H} {p : List MemPlace}
    (ok : Value.okWide Try.prog W .any base 26 v) (h : DataW.Trod enc Try.prog W 0 (fun _ => true) true 26 v d p) :
    ∃ q : Pol, v = .agg #[.int .i64 q.r, .int .i64 q.w, .int .i64 q.l, .int .i64 q.b] ∧ (Lit.int .i64 q.r).wf = true ∧ (Lit.int .i64 q.w).wf = true ∧ (Lit.int .i64 q.l).wf = true ∧ (Lit.int .i64 q.b).wf = true := by
  obtain ⟨v0, v1, v2, v3, y0, y1, y2, y3, n, rfl, _, _, h0, h1, h2, h3⟩ := open_agg4 Try.underlying26 (by kernel_rfl) Try.cellsPol2 ok h
  obtain ⟨a, e0, _, w0⟩ := DataW.trod_int Try.underlying3 h0
  obtain ⟨b, e1, _, w1⟩ := DataW.trod_int Try.underlying3 h1
  obtain ⟨c, e2, _, w2⟩ := DataW.trod_int Try.underlying3 h2
  obtain ⟨d, e3, _, w3⟩ := DataW.trod_int Try.underlying3 h3
  simp only [List.cons.injEq, and_true] at e0 e1 e2 e3
  subst e0 e1 e2 e3
  exact ⟨⟨a, b, c, d⟩, rfl, w0, w1, w2, w3⟩

theorem over_nil (flow : Int) (p : Pol) : over [] flow p = false := by
  unfold over
  rw [show overL (ticksL [] flow) (wide p.l) p.b = false from rfl, Bool.and_false]
theorem at_zero : at_ 0 = 0 := by decide +kernel
theorem wide_one : wide 1 = 65536000 := by decide +kernel
theorem over_one (flow y : Int) : over [⟨flow, y⟩] flow ⟨0, 1, 1, 0⟩ = false := by
  unfold over
  have e : ticksL [⟨flow, y⟩] flow = [y] := by simp [ticksL]
  have h : overL [y] 65536000 0 = false := over_no_mk fun a b h1 h2 h3 h => by
    simp only [List.length_cons, List.length_nil] at h1 h3
    obtain rfl : a = 0 := by omega
    obtain rfl : b = 0 := by omega
    unfold overAt at h
    simp only [List.getD_cons_zero, Int.sub_self, at_zero] at h
    omega
  rw [e]
  dsimp only
  rw [wide_one, h, Bool.and_false]
theorem over_two (flow x y : Int) (hxy : x ≤ y) (h0 : 0 ≤ x) (h1 : y ≤ 65535) : over [⟨flow, x⟩, ⟨flow, y⟩] flow ⟨0, 1, 1, 0⟩ = decide (y - x < 1000) := by
  unfold over
  have e : ticksL [⟨flow, x⟩, ⟨flow, y⟩] flow = [x, y] := by simp [ticksL]
  have ea : at_ (y - x) = 65536 * (y - x) := by
    unfold at_
    rw [times_small (by decide) (by decide) (by omega) (by omega)]
  rw [e]
  dsimp only
  rw [wide_one, show right 0 1 1 0 = true from by decide, show decide ((1 : Int) ≠ 0) = true from by decide, Bool.and_self, Bool.true_and]
  by_cases hd : y - x < 1000
  · rw [decide_eq_true hd]
    refine over_mk (k := 0) (j := 1) (by decide) (show 1 < 2 by decide) ?_
    unfold overAt
    simp only [List.getD_cons_zero, List.getD_cons_succ, ea]
    omega
  · rw [decide_eq_false hd]
    refine over_no_mk fun a b g1 g2 g3 h => ?_
    simp only [List.length_cons, List.length_nil] at g1 g3
    unfold overAt at h
    rcases (show (a = 0 ∧ b = 0) ∨ (a = 1 ∧ b = 1) ∨ (a = 0 ∧ b = 1) by omega) with ⟨rfl, rfl⟩ | ⟨rfl, rfl⟩ | ⟨rfl, rfl⟩
    · simp only [List.getD_cons_zero, Int.sub_self, at_zero] at h; omega
    · simp only [List.getD_cons_zero, List.getD_cons_succ, Int.sub_self, at_zero] at h; omega
    · simp only [List.getD_cons_zero, List.getD_cons_succ, ea] at h; omega

theorem none_over1 (flow x y : Int) (hxy : x ≤ y) (h0 : 0 ≤ x) (h1 : y ≤ 65535) (t : Bool) (ht : decide (y - x < 1000) = t) (b : Nat) (w : World) (hB : Blk w b 31 [.int .i64 flow, .int .i64 x, .int .i64 flow, .int .i64 y]) :
    Calls Try.prog 16 #[.slice (some ⟨b, 0, none⟩) 2 2, .int .i64 flow, .agg #[.int .i64 0, .int .i64 1, .int .i64 1, .int .i64 0]] w fun e w' => e = .returned (.bool t) ∧ Below w.heap.size w w' := by
  have hr : Reads w w.heap.size 2 (some ⟨b, 0, none⟩) 2 (ldCells [⟨flow, x⟩, ⟨flow, y⟩]) :=
    ⟨rfl, fun _ => ⟨b, 0, rfl, hB.lt, fun j u hu => by rw [Nat.zero_add]; exact (hB.cell j).trans hu⟩⟩
  have h := over_calls [⟨flow, x⟩, ⟨flow, y⟩] flow ⟨0, 1, 1, 0⟩ (some ⟨b, 0, none⟩) 2 w hr (by simp) (by intro z hz; simp [ticksL] at hz; omega)
  rw [over_two flow x y hxy h0 h1, ht] at h
  exact h
theorem none_over2 (flow x y : Int) (h0 : 0 ≤ y) (h1 : y ≤ 65535) (b : Nat) (w : World) (hB : Blk w b 31 [.int .i64 flow, .int .i64 x, .int .i64 flow, .int .i64 y]) :
    Calls Try.prog 16 #[.slice (some ⟨b, 2, none⟩) 1 1, .int .i64 flow, .agg #[.int .i64 0, .int .i64 1, .int .i64 1, .int .i64 0]] w fun e w' => e = .returned (.bool false) ∧ Below w.heap.size w w' := by
  have hr : Reads w w.heap.size 2 (some ⟨b, 2, none⟩) 1 (ldCells [⟨flow, y⟩]) :=
    ⟨rfl, fun _ => ⟨b, 2, rfl, hB.lt, fun j u hu => by
      rw [hB.cell (2 + j), Nat.add_comm]
      exact hu⟩⟩
  have h := over_calls [⟨flow, y⟩] flow ⟨0, 1, 1, 0⟩ (some ⟨b, 2, none⟩) 1 w hr (by simp) (by intro z hz; simp [ticksL] at hz; omega)
  rw [over_one] at h
  exact h
set_option maxHeartbeats 1000000 in
/-- THE WALK of FairNone: whatever comes in, it answers true, and nothing that was there turns. -/
theorem fairNone_walk {H : Type} {enc : TypeId × Value → H} (W : World) (base : Nat) (v0 v1 v2 v3 : Value) (d0 d1 d2 d3 : DataW H) (p0 p1 p2 p3 : List MemPlace)
    (ok0 : Value.okWide Try.prog W .any base 26 v0) (h0 : DataW.Trod enc Try.prog W 0 (fun _ => true) true 26 v0 d0 p0)
    (ok1 : Value.okWide Try.prog W .any base 3 v1) (h1 : DataW.Trod enc Try.prog W 0 (fun _ => true) true 3 v1 d1 p1)
    (ok2 : Value.okWide Try.prog W .any base 27 v2) (h2 : DataW.Trod enc Try.prog W 0 (fun _ => true) true 27 v2 d2 p2)
    (ok3 : Value.okWide Try.prog W .any base 27 v3) (h3 : DataW.Trod enc Try.prog W 0 (fun _ => true) true 27 v3 d3 p3) :
    Calls Try.prog 4 #[v0, v1, v2, v3] W fun e w' => e = .returned (.bool true) ∧ Below W.heap.size W w' := by
  obtain ⟨p, rfl, -, -, -, -⟩ := open_pol2 ok0 h0
  obtain ⟨flow, rfl, rfl, rfl, -⟩ := open_int Try.underlying3 ok1 h1
  obtain ⟨a, rfl, rfl, rfl, wa⟩ := open_int Try.underlying27 ok2 h2
  obtain ⟨b, rfl, rfl, rfl, wb⟩ := open_int Try.underlying27 ok3 h3
  obtain ⟨a0, a1⟩ := bounds_u16 wa
  obtain ⟨b0, b1⟩ := bounds_u16 wb
  clear ok0 h0 ok1 h1 ok2 h2 ok3 h3 wa wb
  have hm : most [] flow 0 1099511627776 = 0 := rfl
  rcases (show a < b ∨ b < a ∨ a = b by omega) with hab | hab | rfl
  · have e1 : IntKind.i64.wrap (b - a) = b - a := IntWalk.i64_in _ (by omega)
    obtain ⟨t, ht⟩ : ∃ t, decide (b - a < 1000) = t := ⟨_, rfl⟩
    cases t
    all_goals
      go_enter Try.func4, Try.ntmps4
      go_wp2_with fail
      refine (over_calls [] flow p none 0 _ Reads.none_ (by decide) (by intro x hx; cases hx)).mono ?_
      rintro e w1 ⟨rfl, hb1⟩
      rw [over_nil]
      have R1 := ((Below.refl W.heap.size W).alloc (Nat.le_refl _) _).trans (hb1.mono (by simp))
      clear hb1
      go_wp2_with fail
      refine (most_calls [] flow 0 1099511627776 none 0 _ Reads.none_ (by decide)).mono ?_
      rintro e w2 ⟨rfl, hb2⟩
      rw [hm]
      have R2 := R1.trans (hb2.mono R1.size)
      clear hb2 R1 hm
      go_wp2
      have B1 := (Blk.new (w := w2) (cs := [.int .i64 flow, .int .i64 a, .int .i64 flow, .int .i64 b]) (t := 31) rfl).alloc (.cells #[.int .i64 0, .int .i64 1, .int .i64 1, .int .i64 0] 26)
      have B2 := Blk.new (w := w2.alloc (.cells #[.int .i64 flow, .int .i64 a, .int .i64 flow, .int .i64 b] 31)) (b := w2.heap.size + 1) (cs := [.int .i64 0, .int .i64 1, .int .i64 1, .int .i64 0]) (t := 26) (by simp)
      have R3 := (R2.alloc R2.size (.cells #[.int .i64 flow, .int .i64 a, .int .i64 flow, .int .i64 b] 31)).alloc (by have := R2.size; simp; omega) (.cells #[.int .i64 0, .int .i64 1, .int .i64 1, .int .i64 0] 26)
      obtain ⟨w3, hw3⟩ : ∃ w3, (w2.alloc (.cells #[.int .i64 flow, .int .i64 a, .int .i64 flow, .int .i64 b] 31)).alloc (.cells #[.int .i64 0, .int .i64 1, .int .i64 1, .int .i64 0] 26) = w3 := ⟨_, rfl⟩
      rw [hw3] at R3 ⊢
      replace B1 : Blk w3 w2.heap.size 31 [.int .i64 flow, .int .i64 a, .int .i64 flow, .int .i64 b] := hw3 ▸ B1
      replace B2 : Blk w3 (w2.heap.size + 1) 26 [.int .i64 0, .int .i64 1, .int .i64 1, .int .i64 0] := hw3 ▸ B2
      clear hw3 R2
      have k0 := B2.rule 0 _ rfl
      have k1 := B2.rule 1 _ rfl
      have k2 := B2.rule 2 _ rfl
      have k3 := B2.rule 3 _ rfl
      have r0 := Below.refl w3.heap.size w3
      have HT := hide ht
      clear B2
      go_region_held3 (fun w' => Below w3.heap.size w3 w') (first | assumption | exact r0.drew | exact (by assumption : Below w3.heap.size w3 _).trans (hb1.mono (by assumption : Below w3.heap.size w3 _).size) | exact (by assumption : Below w3.heap.size w3 _).trans (hb2.mono (by assumption : Below w3.heap.size w3 _).size) | exact (by assumption : Below w3.heap.size w3 _).trans (hb4.mono (by assumption : Below w3.heap.size w3 _).size))
        (first | (go_at_call 16; with_reducible refine (none_over1 flow a b (by omega) (by omega) (by omega) _ HT.out _ _ (B1.below (by assumption))).mono ?_; rintro e w1 ⟨rfl, hb1⟩) | (go_at_call 16; with_reducible refine (none_over2 flow a b (by omega) (by omega) _ _ (B1.below (by assumption))).mono ?_; rintro e w2 ⟨rfl, hb2⟩) | (go_at_call 15; with_reducible refine (awake29_calls _).mono ?_; rintro e w4 ⟨rfl, hb4⟩))
      have q1 : Below w3.heap.size w3 w1 := r0.drew.trans hb1
      have q2 := q1.trans (hb2.mono q1.size)
      have q4 := q2.trans (hb4.mono q2.size)
      have R := R3.trans (q4.mono R3.size)
      clear q1 q2 q4 hb1 hb2 hb4 R3 k0 k1 k2 k3 r0
      go_wp2
      go_ret
      exact ⟨rfl, R⟩
  · have e1 : IntKind.i64.wrap (a - b) = a - b := IntWalk.i64_in _ (by omega)
    obtain ⟨t, ht⟩ : ∃ t, decide (a - b < 1000) = t := ⟨_, rfl⟩
    cases t
    all_goals
      go_enter Try.func4, Try.ntmps4
      go_wp2_with fail
      refine (over_calls [] flow p none 0 _ Reads.none_ (by decide) (by intro x hx; cases hx)).mono ?_
      rintro e w1 ⟨rfl, hb1⟩
      rw [over_nil]
      have R1 := ((Below.refl W.heap.size W).alloc (Nat.le_refl _) _).trans (hb1.mono (by simp))
      clear hb1
      go_wp2_with fail
      refine (most_calls [] flow 0 1099511627776 none 0 _ Reads.none_ (by decide)).mono ?_
      rintro e w2 ⟨rfl, hb2⟩
      rw [hm]
      have R2 := R1.trans (hb2.mono R1.size)
      clear hb2 R1 hm
      go_wp2
      have B1 := (Blk.new (w := w2) (cs := [.int .i64 flow, .int .i64 b, .int .i64 flow, .int .i64 a]) (t := 31) rfl).alloc (.cells #[.int .i64 0, .int .i64 1, .int .i64 1, .int .i64 0] 26)
      have B2 := Blk.new (w := w2.alloc (.cells #[.int .i64 flow, .int .i64 b, .int .i64 flow, .int .i64 a] 31)) (b := w2.heap.size + 1) (cs := [.int .i64 0, .int .i64 1, .int .i64 1, .int .i64 0]) (t := 26) (by simp)
      have R3 := (R2.alloc R2.size (.cells #[.int .i64 flow, .int .i64 b, .int .i64 flow, .int .i64 a] 31)).alloc (by have := R2.size; simp; omega) (.cells #[.int .i64 0, .int .i64 1, .int .i64 1, .int .i64 0] 26)
      obtain ⟨w3, hw3⟩ : ∃ w3, (w2.alloc (.cells #[.int .i64 flow, .int .i64 b, .int .i64 flow, .int .i64 a] 31)).alloc (.cells #[.int .i64 0, .int .i64 1, .int .i64 1, .int .i64 0] 26) = w3 := ⟨_, rfl⟩
      rw [hw3] at R3 ⊢
      replace B1 : Blk w3 w2.heap.size 31 [.int .i64 flow, .int .i64 b, .int .i64 flow, .int .i64 a] := hw3 ▸ B1
      replace B2 : Blk w3 (w2.heap.size + 1) 26 [.int .i64 0, .int .i64 1, .int .i64 1, .int .i64 0] := hw3 ▸ B2
      clear hw3 R2
      have k0 := B2.rule 0 _ rfl
      have k1 := B2.rule 1 _ rfl
      have k2 := B2.rule 2 _ rfl
      have k3 := B2.rule 3 _ rfl
      have r0 := Below.refl w3.heap.size w3
      have HT := hide ht
      clear B2
      go_region_held3 (fun w' => Below w3.heap.size w3 w') (first | assumption | exact r0.drew | exact (by assumption : Below w3.heap.size w3 _).trans (hb1.mono (by assumption : Below w3.heap.size w3 _).size) | exact (by assumption : Below w3.heap.size w3 _).trans (hb2.mono (by assumption : Below w3.heap.size w3 _).size) | exact (by assumption : Below w3.heap.size w3 _).trans (hb4.mono (by assumption : Below w3.heap.size w3 _).size))
        (first | (go_at_call 16; with_reducible refine (none_over1 flow b a (by omega) (by omega) (by omega) _ HT.out _ _ (B1.below (by assumption))).mono ?_; rintro e w1 ⟨rfl, hb1⟩) | (go_at_call 16; with_reducible refine (none_over2 flow b a (by omega) (by omega) _ _ (B1.below (by assumption))).mono ?_; rintro e w2 ⟨rfl, hb2⟩) | (go_at_call 15; with_reducible refine (awake29_calls _).mono ?_; rintro e w4 ⟨rfl, hb4⟩))
      have q1 : Below w3.heap.size w3 w1 := r0.drew.trans hb1
      have q2 := q1.trans (hb2.mono q1.size)
      have q4 := q2.trans (hb4.mono q2.size)
      have R := R3.trans (q4.mono R3.size)
      clear q1 q2 q4 hb1 hb2 hb4 R3 k0 k1 k2 k3 r0
      go_wp2
      go_ret
      exact ⟨rfl, R⟩
  · have ht : decide (a - a < 1000) = true := by simp
    all_goals
      go_enter Try.func4, Try.ntmps4
      go_wp2_with fail
      refine (over_calls [] flow p none 0 _ Reads.none_ (by decide) (by intro x hx; cases hx)).mono ?_
      rintro e w1 ⟨rfl, hb1⟩
      rw [over_nil]
      have R1 := ((Below.refl W.heap.size W).alloc (Nat.le_refl _) _).trans (hb1.mono (by simp))
      clear hb1
      go_wp2_with fail
      refine (most_calls [] flow 0 1099511627776 none 0 _ Reads.none_ (by decide)).mono ?_
      rintro e w2 ⟨rfl, hb2⟩
      rw [hm]
      have R2 := R1.trans (hb2.mono R1.size)
      clear hb2 R1 hm
      go_wp2
      have B1 := (Blk.new (w := w2) (cs := [.int .i64 flow, .int .i64 a, .int .i64 flow, .int .i64 a]) (t := 31) rfl).alloc (.cells #[.int .i64 0, .int .i64 1, .int .i64 1, .int .i64 0] 26)
      have B2 := Blk.new (w := w2.alloc (.cells #[.int .i64 flow, .int .i64 a, .int .i64 flow, .int .i64 a] 31)) (b := w2.heap.size + 1) (cs := [.int .i64 0, .int .i64 1, .int .i64 1, .int .i64 0]) (t := 26) (by simp)
      have R3 := (R2.alloc R2.size (.cells #[.int .i64 flow, .int .i64 a, .int .i64 flow, .int .i64 a] 31)).alloc (by have := R2.size; simp; omega) (.cells #[.int .i64 0, .int .i64 1, .int .i64 1, .int .i64 0] 26)
      obtain ⟨w3, hw3⟩ : ∃ w3, (w2.alloc (.cells #[.int .i64 flow, .int .i64 a, .int .i64 flow, .int .i64 a] 31)).alloc (.cells #[.int .i64 0, .int .i64 1, .int .i64 1, .int .i64 0] 26) = w3 := ⟨_, rfl⟩
      rw [hw3] at R3 ⊢
      replace B1 : Blk w3 w2.heap.size 31 [.int .i64 flow, .int .i64 a, .int .i64 flow, .int .i64 a] := hw3 ▸ B1
      replace B2 : Blk w3 (w2.heap.size + 1) 26 [.int .i64 0, .int .i64 1, .int .i64 1, .int .i64 0] := hw3 ▸ B2
      clear hw3 R2
      have k0 := B2.rule 0 _ rfl
      have k1 := B2.rule 1 _ rfl
      have k2 := B2.rule 2 _ rfl
      have k3 := B2.rule 3 _ rfl
      have r0 := Below.refl w3.heap.size w3
      have HT := hide ht
      clear B2
      go_region_held3 (fun w' => Below w3.heap.size w3 w') (first | assumption | exact r0.drew | exact (by assumption : Below w3.heap.size w3 _).trans (hb1.mono (by assumption : Below w3.heap.size w3 _).size) | exact (by assumption : Below w3.heap.size w3 _).trans (hb2.mono (by assumption : Below w3.heap.size w3 _).size) | exact (by assumption : Below w3.heap.size w3 _).trans (hb4.mono (by assumption : Below w3.heap.size w3 _).size))
        (first | (go_at_call 16; with_reducible refine (none_over1 flow a a (by omega) (by omega) (by omega) _ HT.out _ _ (B1.below (by assumption))).mono ?_; rintro e w1 ⟨rfl, hb1⟩) | (go_at_call 16; with_reducible refine (none_over2 flow a a (by omega) (by omega) _ _ (B1.below (by assumption))).mono ?_; rintro e w2 ⟨rfl, hb2⟩) | (go_at_call 15; with_reducible refine (awake29_calls _).mono ?_; rintro e w4 ⟨rfl, hb4⟩))
      have q1 : Below w3.heap.size w3 w1 := r0.drew.trans hb1
      have q2 := q1.trans (hb2.mono q1.size)
      have q4 := q2.trans (hb4.mono q2.size)
      have R := R3.trans (q4.mono R3.size)
      clear q1 q2 q4 hb1 hb2 hb4 R3 k0 k1 k2 k3 r0
      go_wp2
      go_ret
      exact ⟨rfl, R⟩
end Go.Proofs.Ytjdgkdaebkflpaa
