/- The limit, plainly: a history of picks of one flow. -/
import Derived.Test.YtjdkafamaoeifaaFill
namespace Go.Proofs.Ytjdkafamaoeifaa
open Go.RowKit Go.Proofs
set_option linter.unusedVariables false

theorem wide_facts {a : Int} (h1 : 1 ≤ a) (h2 : a ≤ 1048576) :
    1 ≤ space a ∧ space a ≤ 65536000 ∧ space a ≤ wide a ∧ wide a ≤ space a + 1 ∧ a ≤ 65536000 / space a ∧ 65536000 / wide a ≤ a := by
  have hr : isRate a = true := by simp [isRate]; omega
  obtain ⟨m1, m2, _⟩ := div_mul_facts (M := 65536000) (r := a) (by omega)
  have e0 : space a = 65536000 / a := by simp [space, hr]
  have hs := space_pos hr
  rw [← e0] at m1 m2 hs
  have e1 := rWide_eq a
  unfold rWide at e1
  have hw : space a ≤ wide a ∧ wide a ≤ space a + 1 ∧ 65536000 ≤ wide a * a := by
    rw [← e1]
    split
    · rw [Int.add_mul]; omega
    · omega
  refine ⟨hs.1, hs.2, hw.1, hw.2.1, (Int.le_ediv_iff_mul_le (by omega)).2 (by rw [Int.mul_comm]; exact m1), ?_⟩
  have h3 : 65536000 / wide a < a + 1 := (Int.ediv_lt_iff_lt_mul (by omega)).2 (by rw [Int.add_mul, Int.mul_comm]; omega)
  omega

theorem wide_bd (r : Int) : 0 ≤ wide r ∧ wide r ≤ 65536001 := by
  cases h : isRate r with
  | false => simp [wide, h]
  | true =>
    obtain ⟨h1, h2⟩ := isRate_yes h
    have := wide_facts h1 h2
    omega
theorem lim_step {p : Pol} (hr : right p.r p.w p.l p.b = true) (hl : 0 < p.l) {R P L now ph : Int} (hp : ph = 1 ∨ ph = 2) (n0 : 0 ≤ now) (n1 : now ≤ 1099511627776) (l0 : 0 ≤ L) (l1 : L ≤ now) :
    L + wide p.l ≤ (charge p ⟨R, P, L⟩ now ph 0 0).l ∧ now - wide p.l * p.b + wide p.l ≤ (charge p ⟨R, P, L⟩ now ph 0 0).l ∧ 0 ≤ (charge p ⟨R, P, L⟩ now ph 0 0).l := by
  have r2 := right_iff.1 hr
  have wb := wide_bd p.l
  have e0 := times_small (a := wide p.l) (n := p.b) wb.1 (by omega) (by omega) (by omega)
  have e1 : times (wide p.l) 1 = wide p.l := by rw [times_small wb.1 (by omega) (by decide) (by decide), Int.mul_one]
  have m0 := (small_mul wb.1 wb.2 (b := p.b) (B := 1024) (by omega) (by omega)).1
  have d0 : done_ 0 = 0 := rfl
  rw [charge_lim hr hp hl]
  dsimp only
  rw [d0, Int.add_zero, e0, e1, add_plain (by omega) wb.1 (by omega)]
  omega
theorem lim_room {w n now start b : Int} (hw : 1 ≤ w) (hs : start ≤ now) (hb : 0 ≤ b) (h : n = 0 ∨ start - w * b + n * w ≤ now) : n + 1 ≤ (now - start) / w + b + 1 := by
  have h0 : 0 ≤ (now - start) / w := Int.ediv_nonneg (by omega) (by omega)
  rcases h with h | h
  · omega
  · have h1 : (n - b) * w ≤ now - start := by rw [Int.sub_mul, Int.mul_comm b w]; omega
    have h2 := (Int.le_ediv_iff_mul_le (by omega : 0 < w)).2 h1
    omega
/-- picks of a flow at ts (in ticks), its clock l behind them, now the last moment -/
structure Hist (p : Pol) (l : Int) (ts : List Int) (now : Int) : Prop where
  lo : 0 ≤ l
  le : ∀ t ∈ ts, 0 ≤ t ∧ t ≤ now
  span : ∀ (a : Nat) (h : a < ts.length), 65536 * ts[a] - wide p.l * p.b + ((ts.length : Int) - a) * wide p.l ≤ l
  rise : ∀ (a b : Nat) (hab : a ≤ b) (hb : b < ts.length), ts[a]'(by omega) ≤ ts[b]
  ok : ∀ (a b : Nat) (hab : a ≤ b) (hb : b < ts.length), (b : Int) - a + 1 ≤ 65536 * (ts[b] - ts[a]'(by omega)) / wide p.l + p.b + 1
theorem Hist.start (p : Pol) (now : Int) : Hist p 0 [] now := ⟨by omega, by simp, fun a h => by simp at h, fun a b hab hb => by simp at hb, fun a b hab hb => by simp at hb⟩
theorem Hist.later {p : Pol} {l now now' : Int} {ts : List Int} (h : Hist p l ts now) (hn : now ≤ now') : Hist p l ts now' :=
  ⟨h.lo, fun t ht => by have := h.le t ht; omega, h.span, h.rise, h.ok⟩
theorem at_small {t : Int} (h0 : 0 ≤ t) (h1 : t ≤ 1000000) : at_ t = 65536 * t := by
  unfold at_
  exact times_small (by decide) (by decide) h0 (by omega)
theorem Hist.step {p : Pol} {c : Clk} {ts : List Int} {now ph : Int} (h : Hist p c.l ts now) (hr : right p.r p.w p.l p.b = true) (hl : 0 < p.l) (hp : ph = 1 ∨ ph = 2) (n0 : 0 ≤ now) (n1 : now ≤ 1000) (hm : c.l ≤ at_ now) :
    Hist p (charge p c (at_ now) ph 0 0).l (ts ++ [now]) now := by
  rw [at_small n0 (by omega)] at hm ⊢
  have r2 := right_iff.1 hr
  obtain ⟨w1, w2, w3, w4, w5, w6⟩ := wide_facts (a := p.l) (by omega) (by omega)
  have hw : 1 ≤ wide p.l := by omega
  obtain ⟨s1, s2, s3⟩ := lim_step (R := c.r) (P := c.p) (L := c.l) hr hl hp (now := 65536 * now) (by omega) (by omega) h.lo hm
  have hc : (charge p ⟨c.r, c.p, c.l⟩ (65536 * now) ph 0 0) = charge p c (65536 * now) ph 0 0 := rfl
  rw [hc] at s1 s2 s3
  have hlen : (ts ++ [now]).length = ts.length + 1 := by simp
  refine ⟨s3, fun t ht => ?_, fun a ha => ?_, fun a b hab hb => ?_, fun a b hab hb => ?_⟩
  · rcases List.mem_append.1 ht with h1 | h1
    · exact h.le t h1
    · rw [List.mem_singleton.1 h1]; omega
  · rw [hlen] at ha
    by_cases e : a < ts.length
    · rw [List.getElem_append_left e]
      have := h.span a e
      rw [hlen, Int.natCast_add, show ((ts.length : Int) + ((1 : Nat) : Int) - a) = ((ts.length : Int) - a) + 1 by omega, Int.add_mul]
      omega
    · have e2 : a = ts.length := by omega
      subst e2
      rw [hlen, List.getElem_concat_length rfl, Int.natCast_add, show ((ts.length : Int) + ((1 : Nat) : Int) - (ts.length : Int)) = 1 by omega, Int.one_mul]
      omega
  · rw [hlen] at hb
    by_cases e : b < ts.length
    · rw [List.getElem_append_left e, List.getElem_append_left (by omega)]
      exact h.rise a b hab e
    · have e2 : b = ts.length := by omega
      subst e2
      rw [List.getElem_concat_length rfl]
      by_cases ea : a < ts.length
      · rw [List.getElem_append_left ea]
        exact (h.le _ (List.getElem_mem ea)).2
      · have e3 : a = ts.length := by omega
        subst e3
        rw [List.getElem_concat_length rfl]
        exact Int.le_refl _
  · rw [hlen] at hb
    by_cases e : b < ts.length
    · rw [List.getElem_append_left e, List.getElem_append_left (by omega)]
      exact h.ok a b hab e
    · have e2 : b = ts.length := by omega
      subst e2
      rw [List.getElem_concat_length rfl]
      by_cases ea : a < ts.length
      · rw [List.getElem_append_left ea]
        have hs := h.span a ea
        have ht := (h.le _ (List.getElem_mem ea)).2
        have := lim_room (w := wide p.l) (n := (ts.length : Int) - a) (now := 65536 * now) (start := 65536 * ts[a]) (b := p.b) hw (by omega) (by omega) (Or.inr (by omega))
        rw [← Int.mul_sub] at this
        exact this
      · have e3 : a = ts.length := by omega
        subst e3
        rw [List.getElem_concat_length rfl, show now - now = 0 by omega, Int.mul_zero, Int.zero_ediv]
        omega
end Go.Proofs.Ytjdkafamaoeifaa
