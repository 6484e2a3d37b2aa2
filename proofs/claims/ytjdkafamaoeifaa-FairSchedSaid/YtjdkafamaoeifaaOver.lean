/- The walk through fair.Over. -/
import Derived.Test.YtjdkafamaoeifaaLoad
import Derived.Test.YtjdkafamaoeifaaPol
-- PARTIAL
namespace Go.Proofs.Ytjdkafamaoeifaa
open Go.RowKit

def overAt (ts : List Int) (wd bu : Int) (a b : Nat) : Prop := at_ (ts.getD b 0 - ts.getD a 0) / wd + bu + 1 < (b : Int) - a + 1
instance (ts : List Int) (wd bu : Int) (a b : Nat) : Decidable (overAt ts wd bu a b) := by unfold overAt; infer_instance
def overL (ts : List Int) (wd bu : Int) : Bool := (List.range ts.length).any fun a => (List.range ts.length).any fun b => decide (a ≤ b ∧ overAt ts wd bu a b)
def over (xs : List Ld) (flow : Int) (p : Pol) : Bool := right p.r p.w p.l p.b && decide (p.l ≠ 0) && overL (ticksL xs flow) (wide p.l) p.b
set_option maxHeartbeats 1000000 in
theorem over_no (xs : List Ld) (flow : Int) (p : Pol) (A : Option Addr) (c : Nat) (W : World) (h : right p.r p.w p.l p.b = false ∨ p.l = 0) :
    Calls Try.prog 22 #[.slice A xs.length c, .int .i64 flow, .agg #[.int .i64 p.r, .int .i64 p.w, .int .i64 p.l, .int .i64 p.b]] W fun e w' => e = .returned (.bool (over xs flow p)) ∧ Below W.heap.size W w' := by
  have ho : over xs flow p = false := by
    unfold over
    rcases h with h | h <;> simp [h]
  rw [ho]
  clear ho
  cases hr : right p.r p.w p.l p.b with
  | false =>
    go_enter Try.func22, Try.ntmps22
    go_wp2
    go_step3
    go_wp2_with (go_at_call 32; with_reducible refine (right_calls _ _ _ _ _).mono ?_; rintro e w1 ⟨rfl, hb1⟩)
    rw [Exit.noGoto_ret]
    go_ret
    exact ⟨rfl, (((Below.refl _ _).alloc (Nat.le_refl _) _).trans (hb1.mono (by simp)))⟩
  | true =>
    have hl : p.l = 0 := by
      rcases h with h | h
      · rw [hr] at h; cases h
      · exact h
    have hl' : (p.l == 0) = true := by simp [hl]
    clear h hl
    go_enter Try.func22, Try.ntmps22
    go_wp2
    go_step3
    go_wp2_with fail
    with_reducible refine (right_calls _ _ _ _ _).mono ?_
    rintro e w1 ⟨rfl, hb1⟩
    rw [hr]
    have B1 := (Blk.new (cs := [.int .i64 p.r, .int .i64 p.w, .int .i64 p.l, .int .i64 p.b]) (t := 29) (rfl : W.heap.size = W.heap.size)).below hb1
    have c2 : w1.cell? ⟨W.heap.size, 2, none⟩ = some (.int .i64 p.l) := B1.cell 2
    have R := ((Below.refl _ _).alloc (Nat.le_refl _) _).trans (hb1.mono (by simp))
    clear hb1 B1
    go_wp2
    rw [Exit.noGoto_ret]
    go_ret
    exact ⟨rfl, R⟩
theorem right_facts {r w l b : Int} (h : right r w l b = true) (hl : l ≠ 0) : 1 ≤ l ∧ l ≤ 1048576 ∧ 0 ≤ b ∧ b ≤ 1024 ∧ 1 ≤ wide l := by
  obtain ⟨_, _, h3, h4, _, _, _, h5, h6⟩ := right_iff.1 h
  have h1 : 1 ≤ l := by omega
  have hi : isRate l = true := by simp [isRate]; omega
  refine ⟨h1, h4, h5, h6, ?_⟩
  unfold wide
  rw [if_pos hi]
  exact (Int.le_ediv_iff_mul_le (by omega)).2 (by omega)
theorem over_mk {ts : List Int} {wd bu : Int} {k j : Nat} (hk : k ≤ j) (hj : j < ts.length) (h : overAt ts wd bu k j) : overL ts wd bu = true := by
  unfold overL
  rw [List.any_eq_true]
  refine ⟨k, List.mem_range.2 (by omega), ?_⟩
  rw [List.any_eq_true]
  exact ⟨j, List.mem_range.2 hj, decide_eq_true ⟨hk, h⟩⟩
theorem no_in {ts : List Int} {wd bu : Int} {k j : Nat} (h : ∀ b, k ≤ b → b < j → ¬ overAt ts wd bu k b) (hj : ¬ overAt ts wd bu k j) : ∀ b, k ≤ b → b < j + 1 → ¬ overAt ts wd bu k b := by
  intro b h1 h2
  by_cases e : b = j
  · subst e; exact hj
  · exact h b h1 (by omega)
theorem no_out {ts : List Int} {wd bu : Int} {k n : Nat} (h : ∀ a b, a < k → a ≤ b → b < n → ¬ overAt ts wd bu a b) (hj : ∀ b, k ≤ b → b < n → ¬ overAt ts wd bu k b) : ∀ a b, a < k + 1 → a ≤ b → b < n → ¬ overAt ts wd bu a b := by
  intro a b h1 h2 h3
  by_cases e : a = k
  · subst e; exact hj b h2 h3
  · exact h a b (by omega) h2 h3
theorem over_no_mk {ts : List Int} {wd bu : Int} (h : ∀ a b, a < ts.length → a ≤ b → b < ts.length → ¬ overAt ts wd bu a b) : overL ts wd bu = false := by
  unfold overL
  rw [List.any_eq_false]
  intro a ha
  rw [Bool.not_eq_true, List.any_eq_false]
  intro b hb
  rw [List.mem_range] at ha hb
  simp only [decide_eq_true_eq]
  exact fun x => h a b ha x.1 hb x.2
theorem ticks_calls2 (xs : List Ld) (flow : Int) (A : Option Addr) (c : Nat) (W : World) (hr : Reads W W.heap.size 2 A xs.length (ldCells xs)) (hn : xs.length ≤ 1099511627776) :
    Calls Try.prog 44 #[.slice A xs.length c, .int .i64 flow] W fun e w' => ∃ A2 cap, e = .returned (.slice A2 (ticksL xs flow).length cap) ∧ (ticksL xs flow).length ≤ cap ∧
      Reads w' w'.heap.size 1 A2 (ticksL xs flow).length ((ticksL xs flow).map (Value.int .i64)) ∧ Below W.heap.size W w' :=
  (ticks_calls xs flow A c W hr hn).mono fun e w' ⟨v, he, hown, _, hb⟩ => by
    obtain ⟨A2, cap, hv, h1, _, _, _, hrd⟩ := own_view hown
    subst hv
    exact ⟨A2, cap, he, h1, hrd _ (fun g hg => own_lt hown hg), hb⟩
set_option maxHeartbeats 1000000 in
theorem over_yes (xs : List Ld) (flow : Int) (p : Pol) (A : Option Addr) (c : Nat) (W : World) (hr : right p.r p.w p.l p.b = true) (hl : p.l ≠ 0) (hrd : Reads W W.heap.size 2 A xs.length (ldCells xs)) (hn : xs.length ≤ 1099511627776)
    (ht : ∀ x ∈ ticksL xs flow, 0 ≤ x ∧ x ≤ 1099511627776) :
    Calls Try.prog 22 #[.slice A xs.length c, .int .i64 flow, .agg #[.int .i64 p.r, .int .i64 p.w, .int .i64 p.l, .int .i64 p.b]] W fun e w' => e = .returned (.bool (over xs flow p)) ∧ Below W.heap.size W w' := by
  have ho : over xs flow p = overL (ticksL xs flow) (wide p.l) p.b := by
    unfold over
    simp [hr, hl]
  rw [ho]
  clear ho
  obtain ⟨l1, l2, b1, b2, w1l⟩ := right_facts hr hl
  have hlf : (p.l == 0) = false := by simp [hl]
  clear hl
  have tl := ticksL_le xs flow
  go_enter Try.func22, Try.ntmps22
  go_wp2
  go_step3
  go_wp2_with fail
  with_reducible refine (right_calls _ _ _ _ _).mono ?_
  rintro e w1 ⟨rfl, hb1⟩
  rw [hr]
  have B1 := (Blk.new (cs := [.int .i64 p.r, .int .i64 p.w, .int .i64 p.l, .int .i64 p.b]) (t := 29) (rfl : W.heap.size = W.heap.size)).below hb1
  have c2 := B1.rule 2 _ rfl
  have c3 := B1.rule 3 _ rfl
  have R := ((Below.refl W.heap.size W).alloc (Nat.le_refl _) _).trans (hb1.mono (by simp))
  clear hb1 B1
  have r0 := Below.refl w1.heap.size w1
  go_wp2
  go_region_held3 (fun w' => Below w1.heap.size w1 w') (first | assumption | exact r0.drew | exact (by assumption : Below w1.heap.size w1 _).trans (hbt.mono (by assumption : Below w1.heap.size w1 _).size))
    (first | (go_at_call 44; with_reducible refine (ticks_calls2 xs _ _ _ _ (hrd.later R (by assumption)) hn).mono ?_; rintro e w2 ⟨A2, cap2, rfl, hc2, hrv, hbt⟩) | (go_at_call 45; with_reducible refine (wide_calls _ _).mono ?_; rintro e w' ⟨rfl, rfl⟩))
  have hb2 : Below w1.heap.size w1 w2 := r0.drew.trans hbt
  have c3' := c3 w2 hb2
  clear c3
  have R2 : Below W.heap.size W w2 := R.trans (hb2.mono R.size)
  clear hb2 c2 hbt hrd R r0 hlf
  have tlen : (ticksL xs flow).length ≤ 1099511627776 := by omega
  clear tl hn
  obtain ⟨ts, hts⟩ : ∃ ts, ticksL xs flow = ts := ⟨_, rfl⟩
  rw [hts] at ht hc2 hrv tlen ⊢
  have HT := hide hts
  clear hts
  go_wp2
  go_step3
  go_wp2
  go_loopw [6, 27] (fun v i wr => ∃ k q : Nat, k ≤ ts.length ∧ i = .int .i64 k ∧ v = .bool false ∧ (∀ a b, a < k → a ≤ b → b < ts.length → ¬ overAt ts (wide p.l) p.b a b) ∧ wr = w2.drewN q) (fun _ i _ => ts.length - (intOf i).toNat)
  case atStart => exact ⟨0, 0, by omega, rfl, rfl, fun a b h => absurd h (by omega), rfl⟩
  case round =>
    obtain ⟨k, q, hk, rfl, rfl, hno, rfl⟩ := hrel
    by_cases hlt : k < ts.length
    · obtain ⟨b, o, rfl, hbB, hcell⟩ := hrv.at_ (by omega)
      have ck : w2.cell? ⟨b, o + k, none⟩ = some (.int .i64 ts[k]) := hcell k _ (by simp [hlt])
      have hk0 := ht _ (List.getElem_mem hlt)
      have HN := hide hno
      clear hno
      go_wp2
      go_loopw [6, 10] (fun v i wr => ∃ j q : Nat, k ≤ j ∧ j ≤ ts.length ∧ i = .int .i64 j ∧ v = .bool false ∧ (∀ b, k ≤ b → b < j → ¬ overAt ts (wide p.l) p.b k b) ∧ wr = w2.drewN q) (fun _ i _ => ts.length - (intOf i).toNat)
      case atStart => exact ⟨k, q, by omega, by omega, rfl, rfl, fun b h1 h2 => absurd h1 (by omega), rfl⟩
      case round =>
        obtain ⟨j, q', hkj, hj, rfl, rfl, hno, rfl⟩ := hrel
        by_cases hjl : j < ts.length
        · have cj : w2.cell? ⟨b, o + j, none⟩ = some (.int .i64 ts[j]) := hcell j _ (by simp [hjl])
          have hj0 := ht _ (List.getElem_mem hjl)
          have e1 : IntKind.i64.wrap ((j : Int) - k) = (j : Int) - k := IntWalk.i64_in _ (by omega)
          have e2 : IntKind.i64.wrap ((j : Int) - k + 1) = (j : Int) - k + 1 := IntWalk.i64_in _ (by omega)
          have e3 : IntKind.i64.wrap (ts[j] - ts[k]) = ts[j] - ts[k] := IntWalk.i64_in _ (by omega)
          have a0 : 0 ≤ at_ (ts[j] - ts[k]) := times_lo _ _
          have a1 : at_ (ts[j] - ts[k]) ≤ 2305843009213693952 := times_hi _ _
          have q0 : 0 ≤ at_ (ts[j] - ts[k]) / wide p.l := Int.ediv_nonneg a0 (by omega)
          have q1 : at_ (ts[j] - ts[k]) / wide p.l ≤ at_ (ts[j] - ts[k]) := Int.ediv_le_self _ a0
          have e4 : (at_ (ts[j] - ts[k])).tdiv (wide p.l) = at_ (ts[j] - ts[k]) / wide p.l := Int.tdiv_eq_ediv_of_nonneg a0
          have e5 : IntKind.i64.wrap (at_ (ts[j] - ts[k]) / wide p.l) = at_ (ts[j] - ts[k]) / wide p.l := IntWalk.i64_in _ (by omega)
          have e6 : IntKind.i64.wrap (at_ (ts[j] - ts[k]) / wide p.l + p.b) = at_ (ts[j] - ts[k]) / wide p.l + p.b := IntWalk.i64_in _ (by omega)
          have e7 : IntKind.i64.wrap (at_ (ts[j] - ts[k]) / wide p.l + p.b + 1) = at_ (ts[j] - ts[k]) / wide p.l + p.b + 1 := IntWalk.i64_in _ (by omega)
          have e8 : (wide p.l == 0) = false := by simp; omega
          have hov : overAt ts (wide p.l) p.b k j ↔ at_ (ts[j] - ts[k]) / wide p.l + p.b + 1 < (j : Int) - k + 1 := by
            unfold overAt
            rw [List.getD_eq_getElem?_getD, List.getD_eq_getElem?_getD, List.getElem?_eq_getElem hjl, List.getElem?_eq_getElem hlt]
            rfl
          by_cases hd : at_ (ts[j] - ts[k]) / wide p.l + p.b + 1 < (j : Int) - k + 1
          · have hy := hide (hov.2 hd)
            clear hov hno
            go_wp2
            go_quiet ((go_at_call 33; first | exact quiet_same (at_calls _ _) | exact quiet_add_same (at_calls _ _)))
            clear e1 e2 e3 e4 e5 e6 e7
            go_wp2
            rw [Exit.noGoto_ret]
            go_ret
            exact ⟨ret_bool (by rw [HT.out]; exact (over_mk hkj hjl hy.out).symm), below_drewN (below_drewN R2 _) _⟩
          · have hy := hide (fun h => hd (hov.1 h))
            clear hov
            go_wp2
            go_quiet ((go_at_call 33; first | exact quiet_same (at_calls _ _) | exact quiet_add_same (at_calls _ _)))
            clear e1 e2 e3 e4 e5 e6 e7
            go_wp2
            go_roundw
            case rel => exact ⟨j + 1, _, by omega, by omega, by go_num, rfl, no_in hno hy.out, rfl⟩
            case measure => simp [intOf]; omega
        · have e : j = ts.length := by omega
          subst e
          go_wp2
          go_roundw
          case rel => exact ⟨k + 1, q', by omega, by go_num, rfl, no_out HN.out hno, rfl⟩
          case measure => simp [intOf]; omega
    · have e : k = ts.length := by omega
      subst e
      go_wp2
      rw [Exit.noGoto_ret]
      go_ret
      exact ⟨ret_bool (by rw [HT.out]; exact (over_no_mk hno).symm), below_drewN R2 q⟩
theorem over_calls (xs : List Ld) (flow : Int) (p : Pol) (A : Option Addr) (c : Nat) (W : World) (hrd : Reads W W.heap.size 2 A xs.length (ldCells xs)) (hn : xs.length ≤ 1099511627776)
    (ht : ∀ x ∈ ticksL xs flow, 0 ≤ x ∧ x ≤ 1099511627776) :
    Calls Try.prog 22 #[.slice A xs.length c, .int .i64 flow, .agg #[.int .i64 p.r, .int .i64 p.w, .int .i64 p.l, .int .i64 p.b]] W fun e w' => e = .returned (.bool (over xs flow p)) ∧ Below W.heap.size W w' := by
  cases hr : right p.r p.w p.l p.b with
  | false => exact over_no xs flow p A c W (Or.inl hr)
  | true =>
    by_cases hl : p.l = 0
    · exact over_no xs flow p A c W (Or.inr hl)
    · exact over_yes xs flow p A c W hr hl hrd hn ht
end Go.Proofs.Ytjdkafamaoeifaa
