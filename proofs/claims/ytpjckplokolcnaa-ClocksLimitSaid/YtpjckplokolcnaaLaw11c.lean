/- The law ClocksLimit of layer 11: for every input it answers true. No conditions. -/
import Derived.Test.YtpjckplokolcnaaLaw11b
namespace Go.Proofs.Ytpjckplokolcnaa
open Go.ChangeShapes Go.WideShapes Go.ChangeAt Go.RowKit Go.Joins Go.Deep
set_option linter.unusedVariables false

section
variable {H : Type} {enc : TypeId × Value → H} {P : Program} {w : World} {base b0 : Nat} {spare : Nat → Bool} {held : Bool}
theorem trod_bool_inv {t : TypeId} {fuel : Nat} {cs : List Value} {x : DataW H × List MemPlace} (ht : P.underlying t = some .bool) (h : DataW.trod enc P w base spare held fuel t cs = some x) : ∃ b, cs = [.bool b] := by
  cases fuel with
  | zero => simp [DataW.trod] at h
  | succ n =>
    unfold DataW.trod at h
    simp only [ht] at h
    split at h <;> simp_all
/-- a slice of bools -/
theorem open_boolsR {r : Reach} {t e : TypeId} {v : Value} {d : DataW H} {ps : List MemPlace} (ht : P.underlying t = some (.slice e)) (he : P.underlying e = some .bool) (hC : P.cellsOf e = 1)
    (hv : Value.okWide P w r b0 t v) (h : DataW.Trod enc P w base spare held t v d ps) :
    ∃ (A : Option Addr) (c : Nat) (xs : List Bool), v = .slice A xs.length c ∧ xs.length ≤ c ∧ c ≤ maxLen ∧ Reads w w.heap.size 1 A xs.length (xs.map Value.bool) := by
  obtain ⟨A, n, c, rfl⟩ := okWide_slice ht hv
  obtain ⟨fuel, hf⟩ := h
  rcases open_slice ht hf with ⟨h0, _⟩ | ⟨a, len, cap, m, k, D, Pl, hcs, hb, hl, hm, hmm, hx, hi⟩
  · have e0 : A = none ∧ n = 0 ∧ c = 0 := by simpa [Value.cells] using h0
    obtain ⟨rfl, rfl, rfl⟩ := e0
    exact ⟨none, 0, [], rfl, Nat.le_refl _, by unfold maxLen; omega, Reads.none_⟩
  · have e0 : A = some a ∧ n = len ∧ c = cap := by simpa [Value.cells] using hcs
    obtain ⟨rfl, rfl, rfl⟩ := e0
    have hnm : n ≤ m := by rw [hmm]; split <;> omega
    have hall : ∀ i, i < n → ∃ b : Bool, w.cell? (a.add i) = some (.bool b) := by
      intro i hin
      obtain ⟨cs', hc, ht'⟩ := hi i (by omega)
      obtain ⟨b, rfl⟩ := trod_bool_inv he ht'
      rw [hC] at hc
      obtain ⟨_, hcl, hat⟩ := World.cells?_some hc
      have := hat 0 (by omega)
      refine ⟨b, ?_⟩
      rw [Nat.mul_one] at this
      simpa [Addr.add] using this
    obtain ⟨g, hg⟩ := choose_lt hall
    have hln : ((List.range n).map g).length = n := by simp
    refine ⟨some a, c, (List.range n).map g, by rw [hln], by rw [hln]; exact hl, hm, ?_⟩
    rw [hln]
    refine ⟨by simp, fun hn => ?_⟩
    obtain ⟨b, o, spot⟩ := a
    have h00 := hg 0 hn
    have hspot : spot = none := by simpa [Addr.add] using World.cell?_spot h00
    subst hspot
    refine ⟨b, o, rfl, ?_, fun j u hu => ?_⟩
    · have := World.block_lt_of_cell? w _ h00
      simpa [Addr.add] using this
    · have hj : j < n := by
        have := (List.getElem?_eq_some_iff.1 hu).1
        simpa using this
      rw [← Go.WideShapes.add_plain, hg j hj]
      simpa [hj] using hu
end

theorem lim_step {p : Pol} (hr : right p.r p.w p.l p.b = true) (hl : 0 < p.l) {R P L now ph : Int} (hp : ph = 1 ∨ ph = 2) (n0 : 0 ≤ now) (n1 : now ≤ 1099511627776) (l0 : 0 ≤ L) (l1 : L ≤ now) :
    L + wide p.l ≤ (charge p ⟨R, P, L⟩ now ph 0 0).l ∧ now - wide p.l * p.b + wide p.l ≤ (charge p ⟨R, P, L⟩ now ph 0 0).l ∧ 0 ≤ (charge p ⟨R, P, L⟩ now ph 0 0).l := by
  have r2 := right_iff.1 hr
  have wb := wide_bd p.l
  have e0 := times_small (a := wide p.l) (n := p.b) wb.1 (by omega) (by omega) (by omega)
  have e1 : times (wide p.l) 1 = wide p.l := by rw [times_small wb.1 (by omega) (by decide) (by decide), Int.mul_one]
  have m0 := (small_mul wb.1 wb.2 (b := p.b) (B := 1024) (by omega) (by omega)).1
  have d0 : done_ 0 = 0 := rfl
  rw [charge_lim hr hp hl]
  dsimp only
  rw [d0, Int.add_zero, e0, e1, add_plain (by omega) wb.1 (by omega)]
  omega
/-- picked n times, the span has room -/
theorem lim_room {w n now start b : Int} (hw : 1 ≤ w) (hs : start ≤ now) (hb : 0 ≤ b) (h : n = 0 ∨ start - w * b + n * w ≤ now) : n + 1 ≤ (now - start) / w + b + 1 := by
  have h0 : 0 ≤ (now - start) / w := Int.ediv_nonneg (by omega) (by omega)
  rcases h with h | h
  · omega
  · have h1 : (n - b) * w ≤ now - start := by rw [Int.sub_mul, Int.mul_comm b w]; omega
    have h2 := (Int.le_ediv_iff_mul_le (by omega : 0 < w)).2 h1
    omega
set_option maxHeartbeats 4000000 in
/-- THE WALK of ClocksLimit: whatever comes in, it answers true, and nothing that was there turns. -/
theorem clocksLimit_walk {H : Type} {enc : TypeId × Value → H} (W : World) (base : Nat) (v0 v1 v2 v3 v4 : Value) (d0 d1 d2 d3 d4 : DataW H) (p0 p1 p2 p3 p4 : List MemPlace)
    (ok0 : Value.okWide Try.prog W .any base 33 v0) (h0 : DataW.Trod enc Try.prog W 0 (fun _ => true) true 33 v0 d0 p0)
    (ok1 : Value.okWide Try.prog W .any base 45 v1) (h1 : DataW.Trod enc Try.prog W 0 (fun _ => true) true 45 v1 d1 p1)
    (ok2 : Value.okWide Try.prog W .any base 27 v2) (h2 : DataW.Trod enc Try.prog W 0 (fun _ => true) true 27 v2 d2 p2)
    (ok3 : Value.okWide Try.prog W .any base 46 v3) (h3 : DataW.Trod enc Try.prog W 0 (fun _ => true) true 46 v3 d3 p3)
    (ok4 : Value.okWide Try.prog W .any base 47 v4) (h4 : DataW.Trod enc Try.prog W 0 (fun _ => true) true 47 v4 d4 p4) :
    Calls Try.prog 11 #[v0, v1, v2, v3, v4] W fun e w' => e = .returned (.bool true) ∧ Below W.heap.size W w' := by
  obtain ⟨p, rfl, -, -, -, -⟩ := open_pol ok0 h0
  obtain ⟨c, rfl, -, -, -⟩ := open_clk ok1 h1
  obtain ⟨start, rfl, rfl, rfl, ws⟩ := open_int Try.underlying27 ok2 h2
  obtain ⟨A, cs, steps, rfl, _, hcs, hx, hrs⟩ := open_intsR Try.underlying46 Try.underlying49 (by kernel_rfl) ok3 h3
  obtain ⟨B, cp, phases, rfl, hpl, hcp, hrp⟩ := open_boolsR Try.underlying47 Try.underlying4 (by kernel_rfl) ok4 h4
  obtain ⟨s0, s1⟩ := bounds_u32 ws
  unfold maxLen at hcp
  clear ok0 h0 ok1 h1 ok2 h2 ok3 h3 ok4 h4 ws hcs
  have I0 : Inv W [(W.heap.size + 1, 45, #[.int .i64 c.r, .int .i64 c.p, .int .i64 c.l]), (W.heap.size, 33, #[.int .i64 p.r, .int .i64 p.w, .int .i64 p.l, .int .i64 p.b])] ((W.alloc (.cells #[.int .i64 p.r, .int .i64 p.w, .int .i64 p.l, .int .i64 p.b] 33)).alloc (.cells #[.int .i64 c.r, .int .i64 c.p, .int .i64 c.l] 45)) :=
    (((Inv.refl W).new rfl).new (b := W.heap.size + 1) (by simp))
  by_cases hg : steps.length ≤ 300 ∧ right p.r p.w p.l p.b = true ∧ ¬ p.l = 0 ∧ c.ok = true
  · obtain ⟨g1, hrt, g3, g4⟩ := hg
    have gk := (clk_ok g4).2.2
    have r2 := right_iff.1 hrt
    have hl : 0 < p.l := by omega
    have hz : (p.l == 0) = false := beq_eq_false_iff_ne.2 g3
    have wf := wide_facts (a := p.l) (by omega) (by omega)
    have wd := wide_bd p.l
    clear g3
    go_enter Try.func11, Try.ntmps11
    go_wp2_with fail
    with_reducible refine (rRight_calls _ _ _ _ _).mono ?_
    rintro e w1 ⟨rfl, hb1⟩
    have I1 := I0.below hb1
    clear hb1
    obtain ⟨c0, c1, c2, f0, f1, f2⟩ := clk_at I1 (List.Mem.head _)
    obtain ⟨q0, q1, q2, q3⟩ := pol_at I1 (List.Mem.tail _ (List.Mem.head _))
    go_wp2_with fail
    with_reducible refine (clkRight_calls c _).mono ?_
    rintro e w2 ⟨rfl, hb2⟩
    have I2 := I1.below hb2
    clear hb2 c0 c1 c2 f0 f1 f2 q0 q1 q2 q3 I1 I0
    go_wp2
    go_loopw [11, 12, 13] (fun nw nn i wr => ∃ (k : Nat) (n : Int) (now R P L : Int), k ≤ steps.length ∧ i = .int .i64 k ∧ nw = .int .i64 now ∧ nn = .int .i64 n ∧ 0 ≤ n ∧ n ≤ k ∧ 0 ≤ L ∧ (start ≤ now ∧ now ≤ start + 65536 * k ∧ (n = 0 ∨ start - wide p.l * p.b + n * wide p.l ≤ L)) ∧
      Inv W [(W.heap.size + 1, 45, #[.int .i64 R, .int .i64 P, .int .i64 L]), (W.heap.size, 33, #[.int .i64 p.r, .int .i64 p.w, .int .i64 p.l, .int .i64 p.b])] wr) (fun _ _ i _ => (steps.length - (intOf i).toNat))
    case atStart => exact ⟨0, 0, start, c.r, c.p, c.l, by omega, rfl, rfl, rfl, by omega, by omega, gk.1, ⟨by omega, by omega, Or.inl rfl⟩, I2⟩
    case round =>
      obtain ⟨k, n, now, R, P, L, hk, rfl, rfl, rfl, n0, n1, l0, hlim, I⟩ := hrel
      obtain ⟨hn1, hn2, hlim⟩ := hlim
      by_cases hlt : k < steps.length
      · have hx0 := bounds_u16 (hx steps[k] (List.getElem_mem hlt))
        obtain ⟨b, o, rfl, hbB, hcell⟩ := hrs.rule (by omega)
        have e0 : ∀ w', Below W.heap.size W w' → w'.cell? ⟨b, o + k, none⟩ = some (.int .u16 steps[k]) := hcell k _ (by simp [hlt])
        have Ib := I.base
        have c3 := e0 _ Ib
        have i1 : (k : Int) < (steps.length : Int) := by omega
        obtain ⟨c0, c1, c2, f0, f1, f2⟩ := clk_at I (List.Mem.head _)
        obtain ⟨q0, q1, q2, q3⟩ := pol_at I (List.Mem.tail _ (List.Mem.head _))
        clear e0 hcell
        by_cases hph : k < phases.length
        · obtain ⟨b', o', rfl, hbB', hcell'⟩ := hrp.rule (by omega)
          have e1 := hcell' k (.bool phases[k]) (by simp [hph]) _ Ib
          have i2 : (k : Int) < (phases.length : Int) := by omega
          clear hcell'
          cases hv : phases[k]
          · rw [hv] at e1
            cases hby : byLimit p ⟨R, P, L⟩ (now + (steps[k] : Int)) with
            | false =>
              go_wp2_with fail
              with_reducible refine (byLimit_calls p ⟨R, P, L⟩ _ _).mono ?_
              rintro e w2 ⟨rfl, hb2⟩
              have I2 := I.below hb2
              go_wp2
              go_roundw
              case rel => exact ⟨k + 1, n, now + steps[k], R, P, L, by omega, by go_num, rfl, rfl, by omega, by omega, l0, by rcases hlim with h | h <;> omega, I2⟩
              case measure => simp [intOf]; omega
            | true =>
              have hle : L ≤ now + (steps[k] : Int) := by
                have hd : p.l ≠ 0 := by omega
                simpa [byLimit, hrt, hd] using hby
              have st := lim_step hrt hl (R := R) (P := P) (L := L) (now := now + steps[k]) (ph := 2) (by omega) (by omega) (by omega) l0 hle
              have room := lim_room (w := wide p.l) (n := n) (now := now + steps[k]) (start := start) (b := p.b) (by omega) (by omega) (by omega) (by rcases hlim with h | h; exact Or.inl h; exact Or.inr (by omega))
              have ST := hide st
              clear st
              go_wp2_with fail
              with_reducible refine (byLimit_calls p ⟨R, P, L⟩ _ _).mono ?_
              rintro e w2 ⟨rfl, hb2⟩
              have I2 := I.below hb2
              clear hb2
              obtain ⟨c0, c1, c2, f0, f1, f2⟩ := clk_at I2 (List.Mem.head _)
              obtain ⟨q0, q1, q2, q3⟩ := pol_at I2 (List.Mem.tail _ (List.Mem.head _))
              go_wp2_with fail
              with_reducible refine (charge_calls p ⟨R, P, L⟩ (now + steps[k]) 2 0 0 _ ⟨by omega, by omega⟩).mono ?_
              have ST2 := ST.out
              generalize charge p ⟨R, P, L⟩ (now + (steps[k] : Int)) 2 0 0 = c' at ST2 ⊢
              obtain ⟨R', P', L'⟩ := c'
              dsimp only at ST2
              rintro e w3 ⟨rfl, hb3⟩
              have I3 := I2.below hb3
              clear hb3 c0 c1 c2 f0 f1 f2 q0 q1 q2 q3 ST
              obtain ⟨c0, c1, c2, f0, f1, f2⟩ := clk_at I3 (List.Mem.head _)
              have I4 := clk_set (x' := R') (y' := P') (z' := L') I3 (by omega) (by simp)
              have hx1 : now + (steps[k] : Int) - start ≤ 1099511627776 := by omega
              have wA : IntKind.i64.wrap (now + (steps[k] : Int) - start) = now + steps[k] - start := IntWalk.i64_in _ (by omega)
              have wB : ¬ wide p.l = 0 := by omega
              obtain ⟨qq, hqq⟩ : ∃ qq, (now + (steps[k] : Int) - start) / wide p.l = qq := ⟨_, rfl⟩
              have hq0 : 0 ≤ qq := by rw [← hqq]; exact Int.ediv_nonneg (by omega) (by omega)
              have hq1 : qq ≤ 1099511627776 := by rw [← hqq]; exact Int.le_trans (Int.ediv_le_self _ (by omega)) hx1
              rw [hqq] at room
              have wC : IntKind.i64.wrap (Int.tdiv (now + (steps[k] : Int) - start) (wide p.l)) = qq := by
                rw [Int.tdiv_eq_ediv_of_nonneg (by omega), hqq]
                exact IntWalk.i64_in _ (by omega)
              have wD : IntKind.i64.wrap (qq + p.b) = qq + p.b := IntWalk.i64_in _ (by omega)
              have wE : IntKind.i64.wrap (qq + p.b + 1) = qq + p.b + 1 := IntWalk.i64_in _ (by omega)
              have wF : decide (qq + p.b + 1 < n + 1) = false := decide_eq_false (by omega)
              have wG : IntKind.i64.wrap start = start := IntWalk.i64_in _ (by omega)
              have u2 : ∀ w', Inv W [(W.heap.size + 1, 45, #[.int .i64 R', .int .i64 P', .int .i64 L']), (W.heap.size, 33, #[.int .i64 p.r, .int .i64 p.w, .int .i64 p.l, .int .i64 p.b])] w' → w'.cell? ⟨W.heap.size, 2, none⟩ = some (.int .i64 p.l) := fun w' h => h.cell (List.Mem.tail _ (List.Mem.head _)) 2
              have u3 : ∀ w', Inv W [(W.heap.size + 1, 45, #[.int .i64 R', .int .i64 P', .int .i64 L']), (W.heap.size, 33, #[.int .i64 p.r, .int .i64 p.w, .int .i64 p.l, .int .i64 p.b])] w' → w'.cell? ⟨W.heap.size, 3, none⟩ = some (.int .i64 p.b) := fun w' h => h.cell (List.Mem.tail _ (List.Mem.head _)) 3
              clear hqq hx1
              go_wp2_with fail
              refine Inv.rename (P := fun w => Code.wp _ _ _ _ w) I4 (fun w4 I5 => ?_)
              clear I I2 I3 I4 c0 c1 c2 f0 f1 f2
              refine region_lex (fun w' => Inv W [(W.heap.size + 1, 45, #[.int .i64 R', .int .i64 P', .int .i64 L']), (W.heap.size, 33, #[.int .i64 p.r, .int .i64 p.w, .int .i64 p.l, .int .i64 p.b])] w') 0 [(false, 0), (false, 1), (false, 2), (false, 3), (false, 4), (false, 5), (false, 6), (false, 9), (false, 10), (true, 7), (false, 8), (false, 11), (false, 12), (false, 13)] #[true, true, true, true, true, true, true, true, true, true, true, true, true, true] (by kernel_rfl) (by kernel_rfl) (by decide) (by kernel_rfl) (by kernel_rfl) (fun _ _ _ _ _ h => h) (by first | assumption | exact I5.drew) (fun hS0 => ?_)
              simp only [List.map_cons, List.map_nil, List.getElem?_toArray, List.getElem?_cons_succ, List.getElem?_cons_zero]
              (apply lex_take (by rfl); (focus (intro w hw; (try dsimp only at hw); go_simp; (try with_reducible rfl); done)); simp only [Act.put, List.setIfInBounds_toArray, List.set_cons_zero, List.set_cons_succ])
              (apply lex_take (by rfl); (focus (intro w hw; (try dsimp only at hw); go_simp; (try with_reducible rfl); done)); simp only [Act.put, List.setIfInBounds_toArray, List.set_cons_zero, List.set_cons_succ])
              (apply lex_take (by rfl); (focus (intro w hw; (try dsimp only at hw); go_simp; (try with_reducible rfl); done)); simp only [Act.put, List.setIfInBounds_toArray, List.set_cons_zero, List.set_cons_succ])
              (apply lex_take (by rfl); (focus (intro w hw; (try dsimp only at hw); go_simp; (try with_reducible rfl); done)); simp only [Act.put, List.setIfInBounds_toArray, List.set_cons_zero, List.set_cons_succ])
              (apply lex_take (by rfl); (focus (intro w hw; (try dsimp only at hw); go_simp; (try with_reducible rfl); done)); simp only [Act.put, List.setIfInBounds_toArray, List.set_cons_zero, List.set_cons_succ])
              (apply lex_take (by rfl); (focus (intro w hw; (try dsimp only at hw); go_simp; (try with_reducible rfl); done)); simp only [Act.put, List.setIfInBounds_toArray, List.set_cons_zero, List.set_cons_succ])
              (apply lex_take (by rfl); (focus (intro w hw; (try dsimp only at hw); go_simp; (try with_reducible rfl); done)); simp only [Act.put, List.setIfInBounds_toArray, List.set_cons_zero, List.set_cons_succ])
              (apply lex_take (by rfl); (focus (intro w hw; (try dsimp only at hw); go_simp; (try with_reducible rfl); done)); simp only [Act.put, List.setIfInBounds_toArray, List.set_cons_zero, List.set_cons_succ])
              (apply lex_take (by rfl); (focus (intro w hw; (try dsimp only at hw); go_simp; (try with_reducible rfl); done)); simp only [Act.put, List.setIfInBounds_toArray, List.set_cons_zero, List.set_cons_succ])
              (refine lex_eff (by rfl) ?_; go_simp; (first | (go_at_call 24; with_reducible refine (rWide_calls _ _).mono ?_; rintro e w9 ⟨rfl, rfl⟩)); refine lex_both (by (first | assumption | exact I5.drew)) (fun hS1 => ?_))
              (apply lex_take (by rfl); (focus (intro w hw; (try dsimp only at hw); go_simp; (try with_reducible rfl); done)); simp only [Act.put, List.setIfInBounds_toArray, List.set_cons_zero, List.set_cons_succ])
              (apply lex_take (by rfl); (focus (intro w hw; (try dsimp only at hw); go_simp; (try with_reducible rfl); done)); simp only [Act.put, List.setIfInBounds_toArray, List.set_cons_zero, List.set_cons_succ])
              (apply lex_take (by rfl); (focus (intro w hw; (try dsimp only at hw); go_simp; (try with_reducible rfl); done)); simp only [Act.put, List.setIfInBounds_toArray, List.set_cons_zero, List.set_cons_succ])
              (apply lex_take (by rfl); (focus (intro w hw; (try dsimp only at hw); go_simp; (try with_reducible rfl); done)); simp only [Act.put, List.setIfInBounds_toArray, List.set_cons_zero, List.set_cons_succ])
              refine lex_nil (fun _ => wpAnyH_done (by kernel_rfl) ?_ _)
              go_wp2
              go_roundw
              case rel => exact ⟨k + 1, n + 1, now + steps[k], R', P', L', by omega, by go_num, rfl, rfl, by omega, by omega, ST2.2.2, ⟨by omega, by omega, Or.inr (by rw [Int.add_mul]; rcases hlim with h | h; (rw [h, Int.zero_mul]; omega); omega)⟩, I5.drew⟩
              case measure => simp [intOf]; omega
          · rw [hv] at e1
            cases hby : byLimit p ⟨R, P, L⟩ (now + (steps[k] : Int)) with
            | false =>
              go_wp2_with fail
              with_reducible refine (byLimit_calls p ⟨R, P, L⟩ _ _).mono ?_
              rintro e w2 ⟨rfl, hb2⟩
              have I2 := I.below hb2
              go_wp2
              go_roundw
              case rel => exact ⟨k + 1, n, now + steps[k], R, P, L, by omega, by go_num, rfl, rfl, by omega, by omega, l0, by rcases hlim with h | h <;> omega, I2⟩
              case measure => simp [intOf]; omega
            | true =>
              have hle : L ≤ now + (steps[k] : Int) := by
                have hd : p.l ≠ 0 := by omega
                simpa [byLimit, hrt, hd] using hby
              have st := lim_step hrt hl (R := R) (P := P) (L := L) (now := now + steps[k]) (ph := 1) (by omega) (by omega) (by omega) l0 hle
              have room := lim_room (w := wide p.l) (n := n) (now := now + steps[k]) (start := start) (b := p.b) (by omega) (by omega) (by omega) (by rcases hlim with h | h; exact Or.inl h; exact Or.inr (by omega))
              have ST := hide st
              clear st
              go_wp2_with fail
              with_reducible refine (byLimit_calls p ⟨R, P, L⟩ _ _).mono ?_
              rintro e w2 ⟨rfl, hb2⟩
              have I2 := I.below hb2
              clear hb2
              obtain ⟨c0, c1, c2, f0, f1, f2⟩ := clk_at I2 (List.Mem.head _)
              obtain ⟨q0, q1, q2, q3⟩ := pol_at I2 (List.Mem.tail _ (List.Mem.head _))
              go_wp2_with fail
              with_reducible refine (charge_calls p ⟨R, P, L⟩ (now + steps[k]) 1 0 0 _ ⟨by omega, by omega⟩).mono ?_
              have ST2 := ST.out
              generalize charge p ⟨R, P, L⟩ (now + (steps[k] : Int)) 1 0 0 = c' at ST2 ⊢
              obtain ⟨R', P', L'⟩ := c'
              dsimp only at ST2
              rintro e w3 ⟨rfl, hb3⟩
              have I3 := I2.below hb3
              clear hb3 c0 c1 c2 f0 f1 f2 q0 q1 q2 q3 ST
              obtain ⟨c0, c1, c2, f0, f1, f2⟩ := clk_at I3 (List.Mem.head _)
              have I4 := clk_set (x' := R') (y' := P') (z' := L') I3 (by omega) (by simp)
              have hx1 : now + (steps[k] : Int) - start ≤ 1099511627776 := by omega
              have wA : IntKind.i64.wrap (now + (steps[k] : Int) - start) = now + steps[k] - start := IntWalk.i64_in _ (by omega)
              have wB : ¬ wide p.l = 0 := by omega
              obtain ⟨qq, hqq⟩ : ∃ qq, (now + (steps[k] : Int) - start) / wide p.l = qq := ⟨_, rfl⟩
              have hq0 : 0 ≤ qq := by rw [← hqq]; exact Int.ediv_nonneg (by omega) (by omega)
              have hq1 : qq ≤ 1099511627776 := by rw [← hqq]; exact Int.le_trans (Int.ediv_le_self _ (by omega)) hx1
              rw [hqq] at room
              have wC : IntKind.i64.wrap (Int.tdiv (now + (steps[k] : Int) - start) (wide p.l)) = qq := by
                rw [Int.tdiv_eq_ediv_of_nonneg (by omega), hqq]
                exact IntWalk.i64_in _ (by omega)
              have wD : IntKind.i64.wrap (qq + p.b) = qq + p.b := IntWalk.i64_in _ (by omega)
              have wE : IntKind.i64.wrap (qq + p.b + 1) = qq + p.b + 1 := IntWalk.i64_in _ (by omega)
              have wF : decide (qq + p.b + 1 < n + 1) = false := decide_eq_false (by omega)
              have wG : IntKind.i64.wrap start = start := IntWalk.i64_in _ (by omega)
              have u2 : ∀ w', Inv W [(W.heap.size + 1, 45, #[.int .i64 R', .int .i64 P', .int .i64 L']), (W.heap.size, 33, #[.int .i64 p.r, .int .i64 p.w, .int .i64 p.l, .int .i64 p.b])] w' → w'.cell? ⟨W.heap.size, 2, none⟩ = some (.int .i64 p.l) := fun w' h => h.cell (List.Mem.tail _ (List.Mem.head _)) 2
              have u3 : ∀ w', Inv W [(W.heap.size + 1, 45, #[.int .i64 R', .int .i64 P', .int .i64 L']), (W.heap.size, 33, #[.int .i64 p.r, .int .i64 p.w, .int .i64 p.l, .int .i64 p.b])] w' → w'.cell? ⟨W.heap.size, 3, none⟩ = some (.int .i64 p.b) := fun w' h => h.cell (List.Mem.tail _ (List.Mem.head _)) 3
              clear hqq hx1
              go_wp2_with fail
              refine Inv.rename (P := fun w => Code.wp _ _ _ _ w) I4 (fun w4 I5 => ?_)
              clear I I2 I3 I4 c0 c1 c2 f0 f1 f2
              refine region_lex (fun w' => Inv W [(W.heap.size + 1, 45, #[.int .i64 R', .int .i64 P', .int .i64 L']), (W.heap.size, 33, #[.int .i64 p.r, .int .i64 p.w, .int .i64 p.l, .int .i64 p.b])] w') 0 [(false, 0), (false, 1), (false, 2), (false, 3), (false, 4), (false, 5), (false, 6), (false, 9), (false, 10), (true, 7), (false, 8), (false, 11), (false, 12), (false, 13)] #[true, true, true, true, true, true, true, true, true, true, true, true, true, true] (by kernel_rfl) (by kernel_rfl) (by decide) (by kernel_rfl) (by kernel_rfl) (fun _ _ _ _ _ h => h) (by first | assumption | exact I5.drew) (fun hS0 => ?_)
              simp only [List.map_cons, List.map_nil, List.getElem?_toArray, List.getElem?_cons_succ, List.getElem?_cons_zero]
              (apply lex_take (by rfl); (focus (intro w hw; (try dsimp only at hw); go_simp; (try with_reducible rfl); done)); simp only [Act.put, List.setIfInBounds_toArray, List.set_cons_zero, List.set_cons_succ])
              (apply lex_take (by rfl); (focus (intro w hw; (try dsimp only at hw); go_simp; (try with_reducible rfl); done)); simp only [Act.put, List.setIfInBounds_toArray, List.set_cons_zero, List.set_cons_succ])
              (apply lex_take (by rfl); (focus (intro w hw; (try dsimp only at hw); go_simp; (try with_reducible rfl); done)); simp only [Act.put, List.setIfInBounds_toArray, List.set_cons_zero, List.set_cons_succ])
              (apply lex_take (by rfl); (focus (intro w hw; (try dsimp only at hw); go_simp; (try with_reducible rfl); done)); simp only [Act.put, List.setIfInBounds_toArray, List.set_cons_zero, List.set_cons_succ])
              (apply lex_take (by rfl); (focus (intro w hw; (try dsimp only at hw); go_simp; (try with_reducible rfl); done)); simp only [Act.put, List.setIfInBounds_toArray, List.set_cons_zero, List.set_cons_succ])
              (apply lex_take (by rfl); (focus (intro w hw; (try dsimp only at hw); go_simp; (try with_reducible rfl); done)); simp only [Act.put, List.setIfInBounds_toArray, List.set_cons_zero, List.set_cons_succ])
              (apply lex_take (by rfl); (focus (intro w hw; (try dsimp only at hw); go_simp; (try with_reducible rfl); done)); simp only [Act.put, List.setIfInBounds_toArray, List.set_cons_zero, List.set_cons_succ])
              (apply lex_take (by rfl); (focus (intro w hw; (try dsimp only at hw); go_simp; (try with_reducible rfl); done)); simp only [Act.put, List.setIfInBounds_toArray, List.set_cons_zero, List.set_cons_succ])
              (apply lex_take (by rfl); (focus (intro w hw; (try dsimp only at hw); go_simp; (try with_reducible rfl); done)); simp only [Act.put, List.setIfInBounds_toArray, List.set_cons_zero, List.set_cons_succ])
              (refine lex_eff (by rfl) ?_; go_simp; (first | (go_at_call 24; with_reducible refine (rWide_calls _ _).mono ?_; rintro e w9 ⟨rfl, rfl⟩)); refine lex_both (by (first | assumption | exact I5.drew)) (fun hS1 => ?_))
              (apply lex_take (by rfl); (focus (intro w hw; (try dsimp only at hw); go_simp; (try with_reducible rfl); done)); simp only [Act.put, List.setIfInBounds_toArray, List.set_cons_zero, List.set_cons_succ])
              (apply lex_take (by rfl); (focus (intro w hw; (try dsimp only at hw); go_simp; (try with_reducible rfl); done)); simp only [Act.put, List.setIfInBounds_toArray, List.set_cons_zero, List.set_cons_succ])
              (apply lex_take (by rfl); (focus (intro w hw; (try dsimp only at hw); go_simp; (try with_reducible rfl); done)); simp only [Act.put, List.setIfInBounds_toArray, List.set_cons_zero, List.set_cons_succ])
              (apply lex_take (by rfl); (focus (intro w hw; (try dsimp only at hw); go_simp; (try with_reducible rfl); done)); simp only [Act.put, List.setIfInBounds_toArray, List.set_cons_zero, List.set_cons_succ])
              refine lex_nil (fun _ => wpAnyH_done (by kernel_rfl) ?_ _)
              go_wp2
              go_roundw
              case rel => exact ⟨k + 1, n + 1, now + steps[k], R', P', L', by omega, by go_num, rfl, rfl, by omega, by omega, ST2.2.2, ⟨by omega, by omega, Or.inr (by rw [Int.add_mul]; rcases hlim with h | h; (rw [h, Int.zero_mul]; omega); omega)⟩, I5.drew⟩
              case measure => simp [intOf]; omega
        · have i2 : (phases.length : Int) ≤ (k : Int) := by omega
          cases hby : byLimit p ⟨R, P, L⟩ (now + (steps[k] : Int)) with
          | false =>
            go_wp2_with fail
            with_reducible refine (byLimit_calls p ⟨R, P, L⟩ _ _).mono ?_
            rintro e w2 ⟨rfl, hb2⟩
            have I2 := I.below hb2
            go_wp2
            go_roundw
            case rel => exact ⟨k + 1, n, now + steps[k], R, P, L, by omega, by go_num, rfl, rfl, by omega, by omega, l0, by rcases hlim with h | h <;> omega, I2⟩
            case measure => simp [intOf]; omega
          | true =>
            have hle : L ≤ now + (steps[k] : Int) := by
              have hd : p.l ≠ 0 := by omega
              simpa [byLimit, hrt, hd] using hby
            have st := lim_step hrt hl (R := R) (P := P) (L := L) (now := now + steps[k]) (ph := 2) (by omega) (by omega) (by omega) l0 hle
            have room := lim_room (w := wide p.l) (n := n) (now := now + steps[k]) (start := start) (b := p.b) (by omega) (by omega) (by omega) (by rcases hlim with h | h; exact Or.inl h; exact Or.inr (by omega))
            have ST := hide st
            clear st
            go_wp2_with fail
            with_reducible refine (byLimit_calls p ⟨R, P, L⟩ _ _).mono ?_
            rintro e w2 ⟨rfl, hb2⟩
            have I2 := I.below hb2
            clear hb2
            obtain ⟨c0, c1, c2, f0, f1, f2⟩ := clk_at I2 (List.Mem.head _)
            obtain ⟨q0, q1, q2, q3⟩ := pol_at I2 (List.Mem.tail _ (List.Mem.head _))
            go_wp2_with fail
            with_reducible refine (charge_calls p ⟨R, P, L⟩ (now + steps[k]) 2 0 0 _ ⟨by omega, by omega⟩).mono ?_
            have ST2 := ST.out
            generalize charge p ⟨R, P, L⟩ (now + (steps[k] : Int)) 2 0 0 = c' at ST2 ⊢
            obtain ⟨R', P', L'⟩ := c'
            dsimp only at ST2
            rintro e w3 ⟨rfl, hb3⟩
            have I3 := I2.below hb3
            clear hb3 c0 c1 c2 f0 f1 f2 q0 q1 q2 q3 ST
            obtain ⟨c0, c1, c2, f0, f1, f2⟩ := clk_at I3 (List.Mem.head _)
            have I4 := clk_set (x' := R') (y' := P') (z' := L') I3 (by omega) (by simp)
            have hx1 : now + (steps[k] : Int) - start ≤ 1099511627776 := by omega
            have wA : IntKind.i64.wrap (now + (steps[k] : Int) - start) = now + steps[k] - start := IntWalk.i64_in _ (by omega)
            have wB : ¬ wide p.l = 0 := by omega
            obtain ⟨qq, hqq⟩ : ∃ qq, (now + (steps[k] : Int) - start) / wide p.l = qq := ⟨_, rfl⟩
            have hq0 : 0 ≤ qq := by rw [← hqq]; exact Int.ediv_nonneg (by omega) (by omega)
            have hq1 : qq ≤ 1099511627776 := by rw [← hqq]; exact Int.le_trans (Int.ediv_le_self _ (by omega)) hx1
            rw [hqq] at room
            have wC : IntKind.i64.wrap (Int.tdiv (now + (steps[k] : Int) - start) (wide p.l)) = qq := by
              rw [Int.tdiv_eq_ediv_of_nonneg (by omega), hqq]
              exact IntWalk.i64_in _ (by omega)
            have wD : IntKind.i64.wrap (qq + p.b) = qq + p.b := IntWalk.i64_in _ (by omega)
            have wE : IntKind.i64.wrap (qq + p.b + 1) = qq + p.b + 1 := IntWalk.i64_in _ (by omega)
            have wF : decide (qq + p.b + 1 < n + 1) = false := decide_eq_false (by omega)
            have wG : IntKind.i64.wrap start = start := IntWalk.i64_in _ (by omega)
            have u2 : ∀ w', Inv W [(W.heap.size + 1, 45, #[.int .i64 R', .int .i64 P', .int .i64 L']), (W.heap.size, 33, #[.int .i64 p.r, .int .i64 p.w, .int .i64 p.l, .int .i64 p.b])] w' → w'.cell? ⟨W.heap.size, 2, none⟩ = some (.int .i64 p.l) := fun w' h => h.cell (List.Mem.tail _ (List.Mem.head _)) 2
            have u3 : ∀ w', Inv W [(W.heap.size + 1, 45, #[.int .i64 R', .int .i64 P', .int .i64 L']), (W.heap.size, 33, #[.int .i64 p.r, .int .i64 p.w, .int .i64 p.l, .int .i64 p.b])] w' → w'.cell? ⟨W.heap.size, 3, none⟩ = some (.int .i64 p.b) := fun w' h => h.cell (List.Mem.tail _ (List.Mem.head _)) 3
            clear hqq hx1
            go_wp2_with fail
            refine Inv.rename (P := fun w => Code.wp _ _ _ _ w) I4 (fun w4 I5 => ?_)
            clear I I2 I3 I4 c0 c1 c2 f0 f1 f2
            refine region_lex (fun w' => Inv W [(W.heap.size + 1, 45, #[.int .i64 R', .int .i64 P', .int .i64 L']), (W.heap.size, 33, #[.int .i64 p.r, .int .i64 p.w, .int .i64 p.l, .int .i64 p.b])] w') 0 [(false, 0), (false, 1), (false, 2), (false, 3), (false, 4), (false, 5), (false, 6), (false, 9), (false, 10), (true, 7), (false, 8), (false, 11), (false, 12), (false, 13)] #[true, true, true, true, true, true, true, true, true, true, true, true, true, true] (by kernel_rfl) (by kernel_rfl) (by decide) (by kernel_rfl) (by kernel_rfl) (fun _ _ _ _ _ h => h) (by first | assumption | exact I5.drew) (fun hS0 => ?_)
            simp only [List.map_cons, List.map_nil, List.getElem?_toArray, List.getElem?_cons_succ, List.getElem?_cons_zero]
            (apply lex_take (by rfl); (focus (intro w hw; (try dsimp only at hw); go_simp; (try with_reducible rfl); done)); simp only [Act.put, List.setIfInBounds_toArray, List.set_cons_zero, List.set_cons_succ])
            (apply lex_take (by rfl); (focus (intro w hw; (try dsimp only at hw); go_simp; (try with_reducible rfl); done)); simp only [Act.put, List.setIfInBounds_toArray, List.set_cons_zero, List.set_cons_succ])
            (apply lex_take (by rfl); (focus (intro w hw; (try dsimp only at hw); go_simp; (try with_reducible rfl); done)); simp only [Act.put, List.setIfInBounds_toArray, List.set_cons_zero, List.set_cons_succ])
            (apply lex_take (by rfl); (focus (intro w hw; (try dsimp only at hw); go_simp; (try with_reducible rfl); done)); simp only [Act.put, List.setIfInBounds_toArray, List.set_cons_zero, List.set_cons_succ])
            (apply lex_take (by rfl); (focus (intro w hw; (try dsimp only at hw); go_simp; (try with_reducible rfl); done)); simp only [Act.put, List.setIfInBounds_toArray, List.set_cons_zero, List.set_cons_succ])
            (apply lex_take (by rfl); (focus (intro w hw; (try dsimp only at hw); go_simp; (try with_reducible rfl); done)); simp only [Act.put, List.setIfInBounds_toArray, List.set_cons_zero, List.set_cons_succ])
            (apply lex_take (by rfl); (focus (intro w hw; (try dsimp only at hw); go_simp; (try with_reducible rfl); done)); simp only [Act.put, List.setIfInBounds_toArray, List.set_cons_zero, List.set_cons_succ])
            (apply lex_take (by rfl); (focus (intro w hw; (try dsimp only at hw); go_simp; (try with_reducible rfl); done)); simp only [Act.put, List.setIfInBounds_toArray, List.set_cons_zero, List.set_cons_succ])
            (apply lex_take (by rfl); (focus (intro w hw; (try dsimp only at hw); go_simp; (try with_reducible rfl); done)); simp only [Act.put, List.setIfInBounds_toArray, List.set_cons_zero, List.set_cons_succ])
            (refine lex_eff (by rfl) ?_; go_simp; (first | (go_at_call 24; with_reducible refine (rWide_calls _ _).mono ?_; rintro e w9 ⟨rfl, rfl⟩)); refine lex_both (by (first | assumption | exact I5.drew)) (fun hS1 => ?_))
            (apply lex_take (by rfl); (focus (intro w hw; (try dsimp only at hw); go_simp; (try with_reducible rfl); done)); simp only [Act.put, List.setIfInBounds_toArray, List.set_cons_zero, List.set_cons_succ])
            (apply lex_take (by rfl); (focus (intro w hw; (try dsimp only at hw); go_simp; (try with_reducible rfl); done)); simp only [Act.put, List.setIfInBounds_toArray, List.set_cons_zero, List.set_cons_succ])
            (apply lex_take (by rfl); (focus (intro w hw; (try dsimp only at hw); go_simp; (try with_reducible rfl); done)); simp only [Act.put, List.setIfInBounds_toArray, List.set_cons_zero, List.set_cons_succ])
            (apply lex_take (by rfl); (focus (intro w hw; (try dsimp only at hw); go_simp; (try with_reducible rfl); done)); simp only [Act.put, List.setIfInBounds_toArray, List.set_cons_zero, List.set_cons_succ])
            refine lex_nil (fun _ => wpAnyH_done (by kernel_rfl) ?_ _)
            go_wp2
            go_roundw
            case rel => exact ⟨k + 1, n + 1, now + steps[k], R', P', L', by omega, by go_num, rfl, rfl, by omega, by omega, ST2.2.2, ⟨by omega, by omega, Or.inr (by rw [Int.add_mul]; rcases hlim with h | h; (rw [h, Int.zero_mul]; omega); omega)⟩, I5.drew⟩
            case measure => simp [intOf]; omega
      · have hge : steps.length ≤ k := by omega
        go_wp2_with fail
        with_reducible refine (awake11_calls _).mono ?_
        rintro e w5 ⟨rfl, hb5⟩
        have I5 := I.below hb5
        go_wp2
        go_ret
        exact ⟨rfl, I5.base⟩
  · have hcase : 300 < steps.length ∨ (steps.length ≤ 300 ∧ right p.r p.w p.l p.b = false) ∨ (steps.length ≤ 300 ∧ right p.r p.w p.l p.b = true ∧ p.l = 0) ∨ (steps.length ≤ 300 ∧ right p.r p.w p.l p.b = true ∧ ¬ p.l = 0 ∧ c.ok = false) := by
      by_cases h1 : steps.length ≤ 300
      · cases h2 : right p.r p.w p.l p.b
        · exact Or.inr (Or.inl ⟨h1, rfl⟩)
        · by_cases h3 : p.l = 0
          · exact Or.inr (Or.inr (Or.inl ⟨h1, rfl, h3⟩))
          · cases h4 : c.ok
            · exact Or.inr (Or.inr (Or.inr ⟨h1, rfl, h3, rfl⟩))
            · exact absurd ⟨h1, h2, h3, h4⟩ hg
      · exact Or.inl (by omega)
    clear hg
    rcases hcase with h | ⟨h, h1⟩ | ⟨h, h1, h2⟩ | ⟨h, h1, h2, h3⟩
    · go_enter Try.func11, Try.ntmps11
      go_wp2_with fail
      with_reducible refine (awake11_calls _).mono ?_
      rintro e w5 ⟨rfl, hb5⟩
      have I5 := I0.below hb5
      go_wp2
      go_ret
      exact ⟨rfl, I5.base⟩
    · go_enter Try.func11, Try.ntmps11
      go_wp2_with fail
      with_reducible refine (rRight_calls _ _ _ _ _).mono ?_
      rintro e w1 ⟨rfl, hb1⟩
      have I1 := I0.below hb1
      go_wp2_with fail
      with_reducible refine (awake11_calls _).mono ?_
      rintro e w5 ⟨rfl, hb5⟩
      have I5 := I1.below hb5
      go_wp2
      go_ret
      exact ⟨rfl, I5.base⟩
    · have hz : (p.l == 0) = true := beq_iff_eq.2 h2
      clear h2
      go_enter Try.func11, Try.ntmps11
      go_wp2_with fail
      with_reducible refine (rRight_calls _ _ _ _ _).mono ?_
      rintro e w1 ⟨rfl, hb1⟩
      have I1 := I0.below hb1
      obtain ⟨q0, q1, q2, q3⟩ := pol_at I1 (List.Mem.tail _ (List.Mem.head _))
      go_wp2_with fail
      with_reducible refine (awake11_calls _).mono ?_
      rintro e w5 ⟨rfl, hb5⟩
      have I5 := I1.below hb5
      go_wp2
      go_ret
      exact ⟨rfl, I5.base⟩
    · have hz : (p.l == 0) = false := beq_eq_false_iff_ne.2 h2
      clear h2
      go_enter Try.func11, Try.ntmps11
      go_wp2_with fail
      with_reducible refine (rRight_calls _ _ _ _ _).mono ?_
      rintro e w1 ⟨rfl, hb1⟩
      have I1 := I0.below hb1
      obtain ⟨c0, c1, c2, f0, f1, f2⟩ := clk_at I1 (List.Mem.head _)
      obtain ⟨q0, q1, q2, q3⟩ := pol_at I1 (List.Mem.tail _ (List.Mem.head _))
      go_wp2_with fail
      with_reducible refine (clkRight_calls c _).mono ?_
      rintro e w2 ⟨rfl, hb2⟩
      have I2 := I1.below hb2
      go_wp2_with fail
      with_reducible refine (awake11_calls _).mono ?_
      rintro e w5 ⟨rfl, hb5⟩
      have I5 := I2.below hb5
      go_wp2
      go_ret
      exact ⟨rfl, I5.base⟩
end Go.Proofs.Ytpjckplokolcnaa
