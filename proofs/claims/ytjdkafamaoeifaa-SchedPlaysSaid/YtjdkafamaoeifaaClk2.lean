/- The walks through clocks and the document's answer for layer 11: the rest. -/
import Derived.Test.YtjdkafamaoeifaaClk
-- PARTIAL
namespace Go.Proofs.Ytjdkafamaoeifaa
open Go.RowKit

set_option maxHeartbeats 1000000 in
theorem charge_calls (p : Pol) (c : Clk) (now phase delta rho : Int) (W : World) (hn : -9223372036854775808 ≤ now ∧ now ≤ 9223372036854775807) :
    Calls Try.prog 37 #[.agg #[.int .i64 p.r, .int .i64 p.w, .int .i64 p.l, .int .i64 p.b], .agg #[.int .i64 c.r, .int .i64 c.p, .int .i64 c.l], .int .i64 now, .int .i64 phase, .int .i64 delta, .int .i64 rho] W fun e w' =>
      e = .returned (.agg #[.int .i64 (charge p c now phase delta rho).r, .int .i64 (charge p c now phase delta rho).p, .int .i64 (charge p c now phase delta rho).l]) ∧ Below W.heap.size W w' := by
  by_cases hp : phase = 1 ∨ phase = 2
  · cases hr : right p.r p.w p.l p.b with
    | true => exact charge_yes p c now phase delta rho W hr hp hn
    | false =>
      rw [charge_no (Or.inl hr)]
      go_enter Try.func37, Try.ntmps37
      go_wp2_with fail
      with_reducible refine (right_calls _ _ _ _ _).mono ?_
      rintro e w1 ⟨rfl, hb1⟩
      have I1 := (CI.start W p c.r c.p c.l).below hb1
      clear hb1
      obtain ⟨c0, c1, c2, c3, d0, d1, d2, f0, f1, f2⟩ := I1.facts
      obtain ⟨e0, e1, e2, g0, g1, g2⟩ := I1.facts2
      go_wp2
      exact bodyPost_ret (v := .agg #[.int .i64 c.r, .int .i64 c.p, .int .i64 c.l]) (by simp [results, Try.results37, go_sem, *]) rfl ⟨rfl, by repeat (first | exact I1.base | refine Below.setCell ?_ (by simp <;> omega) _)⟩
  · have h1 : (phase == 1) = false := beq_eq_false_iff_ne.2 (by omega)
    have h2 : (phase == 2) = false := beq_eq_false_iff_ne.2 (by omega)
    have h3 : (phase != 1) = true := bne_iff_ne.2 (by omega)
    have h4 : (phase != 2) = true := bne_iff_ne.2 (by omega)
    rw [charge_no (Or.inr (by omega))]
    clear hp
    cases hr : right p.r p.w p.l p.b
    all_goals
      go_enter Try.func37, Try.ntmps37
      go_wp2_with fail
      with_reducible refine (right_calls _ _ _ _ _).mono ?_
      rintro e w1 ⟨rfl, hb1⟩
      have I1 := (CI.start W p c.r c.p c.l).below hb1
      clear hb1
      obtain ⟨c0, c1, c2, c3, d0, d1, d2, f0, f1, f2⟩ := I1.facts
      obtain ⟨e0, e1, e2, g0, g1, g2⟩ := I1.facts2
      go_wp2
      exact bodyPost_ret (v := .agg #[.int .i64 c.r, .int .i64 c.p, .int .i64 c.l]) (by simp [results, Try.results37, go_sem, *]) rfl ⟨rfl, by repeat (first | exact I1.base | refine Below.setCell ?_ (by simp <;> omega) _)⟩

def wake (c : Clk) (now least : Int) : Clk := ⟨max c.r now, max c.p least, c.l⟩
set_option maxHeartbeats 1000000 in
theorem wake_calls (c : Clk) (now least : Int) (W : World) :
    Calls Try.prog 40 #[.agg #[.int .i64 c.r, .int .i64 c.p, .int .i64 c.l], .int .i64 now, .int .i64 least] W fun e w' =>
      e = .returned (.agg #[.int .i64 (wake c now least).r, .int .i64 (wake c now least).p, .int .i64 (wake c now least).l]) ∧ Below W.heap.size W w' := by
  simp only [wake]
  by_cases h1 : c.r < now <;> by_cases h2 : c.p < least
  · rw [show max c.r now = now by omega, show max c.p least = least by omega]
    go_enter Try.func40, Try.ntmps40
    go_wp2
    exact bodyPost_ret (v := .agg #[.int .i64 now, .int .i64 least, .int .i64 c.l]) (by simp [results, Try.results40, go_sem, *]) rfl
      ⟨rfl, by repeat (first | exact Below.refl _ _ | refine Below.drew ?_ | refine below_drewN ?_ _ | refine Below.setCell ?_ (by simp <;> omega) _ | refine Below.alloc ?_ (by simp <;> omega) _)⟩
  · rw [show max c.r now = now by omega, show max c.p least = c.p by omega]
    go_enter Try.func40, Try.ntmps40
    go_wp2
    exact bodyPost_ret (v := .agg #[.int .i64 now, .int .i64 c.p, .int .i64 c.l]) (by simp [results, Try.results40, go_sem, *]) rfl
      ⟨rfl, by repeat (first | exact Below.refl _ _ | refine Below.drew ?_ | refine below_drewN ?_ _ | refine Below.setCell ?_ (by simp <;> omega) _ | refine Below.alloc ?_ (by simp <;> omega) _)⟩
  · rw [show max c.r now = c.r by omega, show max c.p least = least by omega]
    go_enter Try.func40, Try.ntmps40
    go_wp2
    exact bodyPost_ret (v := .agg #[.int .i64 c.r, .int .i64 least, .int .i64 c.l]) (by simp [results, Try.results40, go_sem, *]) rfl
      ⟨rfl, by repeat (first | exact Below.refl _ _ | refine Below.drew ?_ | refine below_drewN ?_ _ | refine Below.setCell ?_ (by simp <;> omega) _ | refine Below.alloc ?_ (by simp <;> omega) _)⟩
  · rw [show max c.r now = c.r by omega, show max c.p least = c.p by omega]
    go_enter Try.func40, Try.ntmps40
    go_wp2
    exact bodyPost_ret (v := .agg #[.int .i64 c.r, .int .i64 c.p, .int .i64 c.l]) (by simp [results, Try.results40, go_sem, *]) rfl
      ⟨rfl, by repeat (first | exact Below.refl _ _ | refine Below.drew ?_ | refine below_drewN ?_ _ | refine Below.setCell ?_ (by simp <;> omega) _ | refine Below.alloc ?_ (by simp <;> omega) _)⟩
set_option maxHeartbeats 1000000 in
theorem rWake_calls (c : Clk) (now least : Int) (W : World) :
    Calls Try.prog 48 #[.agg #[.int .i64 c.r, .int .i64 c.p, .int .i64 c.l], .int .i64 now, .int .i64 least] W fun e w' =>
      e = .returned (.agg #[.int .i64 (wake c now least).r, .int .i64 (wake c now least).p, .int .i64 (wake c now least).l]) ∧ Below W.heap.size W w' := by
  simp only [wake]
  by_cases h1 : c.r < now <;> by_cases h2 : c.p < least
  · rw [show max c.r now = now by omega, show max c.p least = least by omega]
    go_enter Try.func48, Try.ntmps48
    go_wp2
    exact bodyPost_ret (v := .agg #[.int .i64 now, .int .i64 least, .int .i64 c.l]) (by simp [results, Try.results48, go_sem, *]) rfl
      ⟨rfl, by repeat (first | exact Below.refl _ _ | refine Below.drew ?_ | refine below_drewN ?_ _ | refine Below.setCell ?_ (by simp <;> omega) _ | refine Below.alloc ?_ (by simp <;> omega) _)⟩
  · rw [show max c.r now = now by omega, show max c.p least = c.p by omega]
    go_enter Try.func48, Try.ntmps48
    go_wp2
    exact bodyPost_ret (v := .agg #[.int .i64 now, .int .i64 c.p, .int .i64 c.l]) (by simp [results, Try.results48, go_sem, *]) rfl
      ⟨rfl, by repeat (first | exact Below.refl _ _ | refine Below.drew ?_ | refine below_drewN ?_ _ | refine Below.setCell ?_ (by simp <;> omega) _ | refine Below.alloc ?_ (by simp <;> omega) _)⟩
  · rw [show max c.r now = c.r by omega, show max c.p least = least by omega]
    go_enter Try.func48, Try.ntmps48
    go_wp2
    exact bodyPost_ret (v := .agg #[.int .i64 c.r, .int .i64 least, .int .i64 c.l]) (by simp [results, Try.results48, go_sem, *]) rfl
      ⟨rfl, by repeat (first | exact Below.refl _ _ | refine Below.drew ?_ | refine below_drewN ?_ _ | refine Below.setCell ?_ (by simp <;> omega) _ | refine Below.alloc ?_ (by simp <;> omega) _)⟩
  · rw [show max c.r now = c.r by omega, show max c.p least = c.p by omega]
    go_enter Try.func48, Try.ntmps48
    go_wp2
    exact bodyPost_ret (v := .agg #[.int .i64 c.r, .int .i64 c.p, .int .i64 c.l]) (by simp [results, Try.results48, go_sem, *]) rfl
      ⟨rfl, by repeat (first | exact Below.refl _ _ | refine Below.drew ?_ | refine below_drewN ?_ _ | refine Below.setCell ?_ (by simp <;> omega) _ | refine Below.alloc ?_ (by simp <;> omega) _)⟩
def byLimit (p : Pol) (c : Clk) (now : Int) : Bool := right p.r p.w p.l p.b && (decide (p.l = 0) || decide (c.l ≤ now))
def byReserve (p : Pol) (c : Clk) (now : Int) : Bool := byLimit p c now && decide (0 < p.r) && decide (c.r ≤ now)
set_option maxHeartbeats 1000000 in
theorem byLimit_calls (p : Pol) (c : Clk) (now : Int) (W : World) :
    Calls Try.prog 36 #[.agg #[.int .i64 p.r, .int .i64 p.w, .int .i64 p.l, .int .i64 p.b], .agg #[.int .i64 c.r, .int .i64 c.p, .int .i64 c.l], .int .i64 now] W fun e w' =>
      e = .returned (.bool (byLimit p c now)) ∧ Below W.heap.size W w' := by
  go_enter Try.func36, Try.ntmps36
  go_wp2_with fail
  with_reducible refine (right_calls _ _ _ _ _).mono ?_
  rintro e w1 ⟨rfl, hb1⟩
  have I1 := (((Inv.refl W).new rfl).new (b := W.heap.size + 1) (t := 51) (cs := #[.int .i64 c.r, .int .i64 c.p, .int .i64 c.l]) (by simp)).below hb1
  have c2 : w1.cell? ⟨W.heap.size, 2, none⟩ = _ := I1.cell (List.Mem.tail _ (List.Mem.head _)) 2
  have d2 : w1.cell? ⟨W.heap.size + 1, 2, none⟩ = _ := I1.cell (List.Mem.head _) 2
  cases hr : right p.r p.w p.l p.b
  · go_wp2
    go_ret
    exact ⟨ret_bool (by simp [byLimit, hr]), I1.base⟩
  · by_cases h0 : p.l = 0
    · have hz : (p.l == 0) = true := beq_iff_eq.2 h0
      have H0 := hide h0
      clear h0
      go_wp2
      go_ret
      exact ⟨ret_bool (by unfold byLimit; rw [hr, decide_eq_true H0.out]; rfl), I1.base⟩
    · have hz : (p.l == 0) = false := beq_eq_false_iff_ne.2 h0
      have H0 := hide h0
      clear h0
      go_wp2
      go_ret
      exact ⟨ret_bool (by simp [byLimit, hr, H0.out]), I1.base⟩
set_option maxHeartbeats 1000000 in
theorem rByLimit_calls (p : Pol) (c : Clk) (now : Int) (W : World) :
    Calls Try.prog 51 #[.agg #[.int .i64 p.r, .int .i64 p.w, .int .i64 p.l, .int .i64 p.b], .agg #[.int .i64 c.r, .int .i64 c.p, .int .i64 c.l], .int .i64 now] W fun e w' =>
      e = .returned (.bool (byLimit p c now)) ∧ Below W.heap.size W w' := by
  go_enter Try.func51, Try.ntmps51
  go_wp2_with fail
  with_reducible refine (rRight_calls _ _ _ _ _).mono ?_
  rintro e w1 ⟨rfl, hb1⟩
  have I1 := (((Inv.refl W).new rfl).new (b := W.heap.size + 1) (t := 51) (cs := #[.int .i64 c.r, .int .i64 c.p, .int .i64 c.l]) (by simp)).below hb1
  have c2 : w1.cell? ⟨W.heap.size, 2, none⟩ = _ := I1.cell (List.Mem.tail _ (List.Mem.head _)) 2
  have d2 : w1.cell? ⟨W.heap.size + 1, 2, none⟩ = _ := I1.cell (List.Mem.head _) 2
  cases hr : right p.r p.w p.l p.b
  · go_wp2
    go_ret
    exact ⟨ret_bool (by simp [byLimit, hr]), I1.base⟩
  · by_cases h0 : p.l = 0
    · have hz : (p.l == 0) = true := beq_iff_eq.2 h0
      have H0 := hide h0
      clear h0
      go_wp2
      go_ret
      exact ⟨ret_bool (by unfold byLimit; rw [hr, decide_eq_true H0.out]; rfl), I1.base⟩
    · have hz : (p.l == 0) = false := beq_eq_false_iff_ne.2 h0
      have H0 := hide h0
      clear h0
      go_wp2
      go_ret
      exact ⟨ret_bool (by simp [byLimit, hr, H0.out]), I1.base⟩
set_option maxHeartbeats 1000000 in
theorem byReserve_calls (p : Pol) (c : Clk) (now : Int) (W : World) :
    Calls Try.prog 35 #[.agg #[.int .i64 p.r, .int .i64 p.w, .int .i64 p.l, .int .i64 p.b], .agg #[.int .i64 c.r, .int .i64 c.p, .int .i64 c.l], .int .i64 now] W fun e w' =>
      e = .returned (.bool (byReserve p c now)) ∧ Below W.heap.size W w' := by
  go_enter Try.func35, Try.ntmps35
  go_wp2_with fail
  with_reducible refine (byLimit_calls _ _ _ _).mono ?_
  rintro e w1 ⟨rfl, hb1⟩
  have I1 := (((Inv.refl W).new rfl).new (b := W.heap.size + 1) (t := 51) (cs := #[.int .i64 c.r, .int .i64 c.p, .int .i64 c.l]) (by simp)).below hb1
  have c0 : w1.cell? ⟨W.heap.size, 0, none⟩ = _ := I1.cell (List.Mem.tail _ (List.Mem.head _)) 0
  have d0 : w1.cell? ⟨W.heap.size + 1, 0, none⟩ = _ := I1.cell (List.Mem.head _) 0
  cases hr : byLimit p c now
  · go_wp2
    go_ret
    exact ⟨ret_bool (by simp [byReserve, hr]), I1.base⟩
  · have hx : right p.r p.w p.l p.b = true := by
      unfold byLimit at hr
      rw [Bool.and_eq_true] at hr
      exact hr.1
    have r2 := (right_iff.1 hx).1
    by_cases h0 : 0 < p.r
    · skip
      go_wp2
      all_goals (go_ret; exact ⟨ret_bool (by simp [byReserve, hr]; try omega), I1.base⟩)
    · skip
      go_wp2
      all_goals (go_ret; exact ⟨ret_bool (by simp [byReserve, hr]; omega), I1.base⟩)
set_option maxHeartbeats 1000000 in
theorem rByReserve_calls (p : Pol) (c : Clk) (now : Int) (W : World) :
    Calls Try.prog 50 #[.agg #[.int .i64 p.r, .int .i64 p.w, .int .i64 p.l, .int .i64 p.b], .agg #[.int .i64 c.r, .int .i64 c.p, .int .i64 c.l], .int .i64 now] W fun e w' =>
      e = .returned (.bool (byReserve p c now)) ∧ Below W.heap.size W w' := by
  go_enter Try.func50, Try.ntmps50
  go_wp2_with fail
  with_reducible refine (rByLimit_calls _ _ _ _).mono ?_
  rintro e w1 ⟨rfl, hb1⟩
  have I1 := (((Inv.refl W).new rfl).new (b := W.heap.size + 1) (t := 51) (cs := #[.int .i64 c.r, .int .i64 c.p, .int .i64 c.l]) (by simp)).below hb1
  have c0 : w1.cell? ⟨W.heap.size, 0, none⟩ = _ := I1.cell (List.Mem.tail _ (List.Mem.head _)) 0
  have d0 : w1.cell? ⟨W.heap.size + 1, 0, none⟩ = _ := I1.cell (List.Mem.head _) 0
  cases hr : byLimit p c now
  · go_wp2
    go_ret
    exact ⟨ret_bool (by simp [byReserve, hr]), I1.base⟩
  · have hx : right p.r p.w p.l p.b = true := by
      unfold byLimit at hr
      rw [Bool.and_eq_true] at hr
      exact hr.1
    have r2 := (right_iff.1 hx).1
    by_cases h0 : 0 < p.r
    · have hz : (p.r != 0) = true := bne_iff_ne.2 (by omega)
      go_wp2
      all_goals (go_ret; exact ⟨ret_bool (by simp [byReserve, hr]; try omega), I1.base⟩)
    · have hz : (p.r != 0) = false := bne_eq_false_iff_eq.2 (by omega)
      go_wp2
      all_goals (go_ret; exact ⟨ret_bool (by simp [byReserve, hr]; omega), I1.base⟩)
def tag (n : Int) : Bool := decide (0 ≤ n ∧ n ≤ 2305843009213693952)
def Clk.ok (c : Clk) : Bool := tag c.r && tag c.p && tag c.l
end Go.Proofs.Ytjdkafamaoeifaa
