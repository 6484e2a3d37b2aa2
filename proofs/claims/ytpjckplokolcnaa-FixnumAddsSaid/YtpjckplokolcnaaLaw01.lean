/- The laws of layer 1 (fixnum): for every input each of them answers true. No conditions. -/
import Derived.Test.YtpjckplokolcnaaFix
namespace Go.Proofs.Ytpjckplokolcnaa
open Go.ChangeShapes Go.WideShapes Go.ChangeAt Go.RowKit

theorem aw1 : (space 3 == 21845333) = true := by decide
theorem aw2 : (wide 3 == 21845334) = true := by decide
theorem aw3 : (at_ 2 == 131072) = true := by decide
set_option maxHeartbeats 400000 in
theorem awake01_calls (w : World) : Calls Try.prog 17 #[] w fun e w' => e = .returned (.bool true) ∧ w = w' := by
  have a1 := aw1
  have a2 := aw2
  have a3 := aw3
  go_enter Try.func17, Try.ntmps17
  go_wp2_with (first | (go_at_call 15; refine (space_calls _ _).mono ?_; rintro e w' ⟨rfl, rfl⟩) | (go_at_call 16; refine (wide_calls _ _).mono ?_; rintro e w' ⟨rfl, rfl⟩) | (go_at_call 20; refine (at_calls _ _).mono ?_; rintro e w' ⟨rfl, rfl⟩))
  go_ret
  exact ⟨rfl, rfl⟩

theorem space_no {r : Int} (h : r < 1 ∨ 1048576 < r) : space r = 0 := by simp [space, isRate]; omega
theorem wide_no {r : Int} (h : r < 1 ∨ 1048576 < r) : wide r = 0 := by simp [wide, isRate]; omega

theorem room_facts {a : Int} (h1 : 1 ≤ a) (h2 : a ≤ 1048576) :
    1 ≤ space a ∧ space a ≤ 65536000 ∧ space a ≤ wide a ∧ wide a ≤ space a + 1 ∧ a ≤ 65536000 / space a ∧ 65536000 / wide a ≤ a := by
  have hr : isRate a = true := by simp [isRate]; omega
  obtain ⟨m1, m2, _⟩ := div_mul_facts (M := 65536000) (r := a) (by omega)
  have e0 : space a = 65536000 / a := by simp [space, hr]
  have hs := space_pos hr
  rw [← e0] at m1 m2 hs
  have e1 := rWide_eq a
  unfold rWide at e1
  have hw : space a ≤ wide a ∧ wide a ≤ space a + 1 ∧ 65536000 ≤ wide a * a := by
    rw [← e1]
    split
    · rw [Int.add_mul]; omega
    · omega
  refine ⟨hs.1, hs.2, hw.1, hw.2.1, (Int.le_ediv_iff_mul_le (by omega)).2 (by rw [Int.mul_comm]; exact m1), ?_⟩
  have h3 : 65536000 / wide a < a + 1 := (Int.ediv_lt_iff_lt_mul (by omega)).2 (by rw [Int.add_mul, Int.mul_comm]; omega)
  omega

set_option maxHeartbeats 400000 in
/-- THE WALK of FixnumRooms: whatever comes in, it answers true, and nothing that was there turns. -/
theorem fixnumRooms_walk {H : Type} {enc : TypeId × Value → H} (W : World) (base : Nat) (v0 : Value) (d0 : DataW H) (p0 : List MemPlace)
    (ok0 : Value.okWide Try.prog W .any base 3 v0) (h0 : DataW.Trod enc Try.prog W 0 (fun _ => true) true 3 v0 d0 p0) :
    Calls Try.prog 3 #[v0] W fun e w' => e = .returned (.bool true) ∧ Below W.heap.size W w' := by
  obtain ⟨a, rfl, rfl, rfl, wa⟩ := open_int Try.underlying3 ok0 h0
  clear ok0 h0 wa
  by_cases h : a < 1 ∨ 1048576 < a
  · have e1 : (space a == 0) = true := beq_iff_eq.2 (space_no h)
    have e2 : (wide a == 0) = true := beq_iff_eq.2 (wide_no h)
    go_enter Try.func3, Try.ntmps3
    go_wp2_with (first | (go_at_call 15; refine (space_calls _ _).mono ?_; rintro e w' ⟨rfl, rfl⟩) | (go_at_call 16; refine (wide_calls _ _).mono ?_; rintro e w' ⟨rfl, rfl⟩) | (go_at_call 17; refine (awake01_calls _).mono ?_; rintro e w' ⟨rfl, rfl⟩))
    all_goals (go_ret; exact ⟨rfl, Below.refl _ _⟩)
  · have h1 : 1 ≤ a := by omega
    have h2 : a ≤ 1048576 := by omega
    clear h
    obtain ⟨s1, s2, s3, s4, s5, s6⟩ := room_facts h1 h2
    go_enter Try.func3, Try.ntmps3
    go_wp2_with (first | (go_at_call 15; refine (space_calls _ _).mono ?_; rintro e w' ⟨rfl, rfl⟩) | (go_at_call 16; refine (wide_calls _ _).mono ?_; rintro e w' ⟨rfl, rfl⟩) | (go_at_call 17; refine (awake01_calls _).mono ?_; rintro e w' ⟨rfl, rfl⟩))
    all_goals (go_ret; exact ⟨rfl, Below.refl _ _⟩)

theorem add_mono {a b : Int} (c : Int) (h : a ≤ b) : add a c ≤ add b c := by
  unfold add
  exact hold_mono (by have := hold_mono h; omega)
theorem add_comm_ (a b : Int) : add a b = add b a := by unfold add; rw [Int.add_comm]
theorem times_mono {a b : Int} (c : Int) (h : a ≤ b) : times a c ≤ times b c := by
  rw [times_hold, times_hold]
  exact hold_mono (Int.mul_le_mul_of_nonneg_right (hold_mono h) (hold_lo c))
set_option maxHeartbeats 400000 in
/-- THE WALK of FixnumGrows: whatever comes in, it answers true, and nothing that was there turns. -/
theorem fixnumGrows_walk {H : Type} {enc : TypeId × Value → H} (W : World) (base : Nat) (v0 v1 v2 : Value) (d0 d1 d2 : DataW H) (p0 p1 p2 : List MemPlace)
    (ok0 : Value.okWide Try.prog W .any base 3 v0) (h0 : DataW.Trod enc Try.prog W 0 (fun _ => true) true 3 v0 d0 p0)
    (ok1 : Value.okWide Try.prog W .any base 3 v1) (h1 : DataW.Trod enc Try.prog W 0 (fun _ => true) true 3 v1 d1 p1)
    (ok2 : Value.okWide Try.prog W .any base 3 v2) (h2 : DataW.Trod enc Try.prog W 0 (fun _ => true) true 3 v2 d2 p2) :
    Calls Try.prog 4 #[v0, v1, v2] W fun e w' => e = .returned (.bool true) ∧ Below W.heap.size W w' := by
  obtain ⟨a, rfl, rfl, rfl, wa⟩ := open_int Try.underlying3 ok0 h0
  obtain ⟨b, rfl, rfl, rfl, wb⟩ := open_int Try.underlying3 ok1 h1
  obtain ⟨c, rfl, rfl, rfl, wc⟩ := open_int Try.underlying3 ok2 h2
  clear ok0 h0 wa ok1 h1 wb ok2 h2 wc
  by_cases h : b < a
  · have f1 := add_mono c (show b ≤ a by omega)
    go_enter Try.func4, Try.ntmps4
    go_wp2_with (first | (go_at_call 18; refine (add_calls _ _ _).mono ?_; rintro e w' ⟨rfl, rfl⟩) | (go_at_call 17; refine (awake01_calls _).mono ?_; rintro e w' ⟨rfl, rfl⟩))
    all_goals (go_ret; exact ⟨rfl, Below.refl _ _⟩)
  · have f1 := add_mono c (show a ≤ b by omega)
    have f2 := times_mono c (show a ≤ b by omega)
    have f3 := add_hi b c
    have f4 := times_hi b c
    have f5 := add_lo a c
    have f6 := times_lo a c
    have f7 : (add a c == add c a) = true := beq_iff_eq.2 (add_comm_ a c)
    go_enter Try.func4, Try.ntmps4
    go_wp2_with (first | (go_at_call 18; refine (add_calls _ _ _).mono ?_; rintro e w' ⟨rfl, rfl⟩) | (go_at_call 19; refine (times_calls _ _ _).mono ?_; rintro e w' ⟨rfl, rfl⟩) | (go_at_call 17; refine (awake01_calls _).mono ?_; rintro e w' ⟨rfl, rfl⟩))
    all_goals (go_ret; exact ⟨rfl, Below.refl _ _⟩)

set_option maxHeartbeats 400000 in
/-- THE WALK of FixnumTells: whatever comes in, it answers true, and nothing that was there turns. -/
theorem fixnumTells_walk {H : Type} {enc : TypeId × Value → H} (W : World) (base : Nat) (v0 v1 : Value) (d0 d1 : DataW H) (p0 p1 : List MemPlace)
    (ok0 : Value.okWide Try.prog W .any base 3 v0) (h0 : DataW.Trod enc Try.prog W 0 (fun _ => true) true 3 v0 d0 p0)
    (ok1 : Value.okWide Try.prog W .any base 3 v1) (h1 : DataW.Trod enc Try.prog W 0 (fun _ => true) true 3 v1 d1 p1) :
    Calls Try.prog 6 #[v0, v1] W fun e w' => e = .returned (.bool true) ∧ Below W.heap.size W w' := by
  obtain ⟨a, rfl, rfl, rfl, wa⟩ := open_int Try.underlying3 ok0 h0
  obtain ⟨b, rfl, rfl, rfl, wb⟩ := open_int Try.underlying3 ok1 h1
  clear ok0 h0 wa ok1 h1 wb
  have f1 : (at_ a == times 65536 a) = true := beq_iff_eq.2 rfl
  go_enter Try.func6, Try.ntmps6
  go_wp2_with (first | (go_at_call 18; refine (add_calls _ _ _).mono ?_; rintro e w' ⟨rfl, rfl⟩) | (go_at_call 21; refine (rAdd_calls _ _ _).mono ?_; rintro e w' ⟨rfl, rfl⟩) | (go_at_call 19; refine (times_calls _ _ _).mono ?_; rintro e w' ⟨rfl, rfl⟩) | (go_at_call 22; refine (rTimes_calls _ _ _).mono ?_; rintro e w' ⟨rfl, rfl⟩) | (go_at_call 20; refine (at_calls _ _).mono ?_; rintro e w' ⟨rfl, rfl⟩) | (go_at_call 15; refine (space_calls _ _).mono ?_; rintro e w' ⟨rfl, rfl⟩) | (go_at_call 23; refine (rSpace_calls _ _).mono ?_; rintro e w' ⟨rfl, rfl⟩) | (go_at_call 16; refine (wide_calls _ _).mono ?_; rintro e w' ⟨rfl, rfl⟩) | (go_at_call 24; refine (rWide_calls _ _).mono ?_; rintro e w' ⟨rfl, rfl⟩) | (go_at_call 25; refine (share_calls _ _).mono ?_; rintro e w' ⟨rfl, nq, rfl⟩) | (go_at_call 26; refine (rShare_calls _ _).mono ?_; rintro e w' ⟨rfl, rfl⟩) | (go_at_call 17; refine (awake01_calls _).mono ?_; rintro e w' ⟨rfl, rfl⟩))
  all_goals (go_ret; exact ⟨rfl, below_drewN (Below.refl _ _) _⟩)

theorem adds_plain {x y z : Int} (x0 : 0 ≤ x) (x1 : x ≤ 4294967295) (y0 : 0 ≤ y) (y1 : y ≤ 4294967295) (z0 : 0 ≤ z) (z1 : z ≤ 4294967295) : (add (add x y) z == add x (add z y)) = true := by
  rw [beq_iff_eq]
  unfold add
  rw [hold_in x0 (by omega), hold_in y0 (by omega), hold_in z0 (by omega)]
  unfold hold
  grind
theorem add_step {x : Int} (k : Nat) (x0 : 0 ≤ x) (x1 : x ≤ 4294967295) (hk : k < 255) : add (k * x) x = (↑(k + 1) : Int) * x := by
  have h0 : 0 ≤ (k : Int) * x := Int.mul_nonneg (by omega) x0
  have h1 : (k : Int) * x ≤ 255 * 4294967295 := Int.mul_le_mul (by omega) x1 x0 (by decide)
  unfold add
  rw [hold_in h0 (by omega), hold_in x0 (by omega), hold_in (by omega) (by omega)]
  rw [Int.natCast_add, Int.add_mul]; omega
theorem times_plain {x n : Int} (x0 : 0 ≤ x) (x1 : x ≤ 4294967295) (n0 : 0 ≤ n) (n1 : n ≤ 65536) : times x n = n * x := by
  have h0 : 0 ≤ x * n := Int.mul_nonneg x0 n0
  have h1 : x * n ≤ 4294967295 * 65536 := Int.mul_le_mul x1 n1 n0 (by decide)
  rw [times_hold, hold_in x0 (by omega), hold_in n0 (by omega), hold_in h0 (by omega), Int.mul_comm]
set_option maxHeartbeats 400000 in
/-- THE WALK of FixnumAdds: whatever comes in, it answers true, and nothing that was there turns. -/
theorem fixnumAdds_walk {H : Type} {enc : TypeId × Value → H} (W : World) (base : Nat) (v0 v1 v2 v3 : Value) (d0 d1 d2 d3 : DataW H) (p0 p1 p2 p3 : List MemPlace)
    (ok0 : Value.okWide Try.prog W .any base 27 v0) (h0 : DataW.Trod enc Try.prog W 0 (fun _ => true) true 27 v0 d0 p0)
    (ok1 : Value.okWide Try.prog W .any base 27 v1) (h1 : DataW.Trod enc Try.prog W 0 (fun _ => true) true 27 v1 d1 p1)
    (ok2 : Value.okWide Try.prog W .any base 27 v2) (h2 : DataW.Trod enc Try.prog W 0 (fun _ => true) true 27 v2 d2 p2)
    (ok3 : Value.okWide Try.prog W .any base 5 v3) (h3 : DataW.Trod enc Try.prog W 0 (fun _ => true) true 5 v3 d3 p3) :
    Calls Try.prog 5 #[v0, v1, v2, v3] W fun e w' => e = .returned (.bool true) ∧ Below W.heap.size W w' := by
  obtain ⟨x, rfl, rfl, rfl, wa⟩ := open_int Try.underlying27 ok0 h0
  obtain ⟨y, rfl, rfl, rfl, wb⟩ := open_int Try.underlying27 ok1 h1
  obtain ⟨z, rfl, rfl, rfl, wc⟩ := open_int Try.underlying27 ok2 h2
  obtain ⟨n, rfl, rfl, rfl, wd⟩ := open_int Try.underlying5 ok3 h3
  obtain ⟨x0, x1⟩ := bounds_u32 wa
  obtain ⟨y0, y1⟩ := bounds_u32 wb
  obtain ⟨z0, z1⟩ := bounds_u32 wc
  obtain ⟨n0, n1⟩ := bounds_u8 wd
  clear ok0 h0 wa ok1 h1 wb ok2 h2 wc ok3 h3 wd
  have f1 := adds_plain x0 x1 y0 y1 z0 z1
  have f2 : (times x n == n * x) = true := beq_iff_eq.2 (times_plain x0 x1 n0 (by omega))
  have f3 : (at_ x == times x 65536) = true := beq_iff_eq.2 (by rw [times_plain x0 x1 (by decide) (by decide)]; unfold at_; rw [times_hold, hold_in (a := 65536) (by decide) (by decide), hold_in x0 (by omega), hold_in (by omega) (by omega)])
  go_enter Try.func5, Try.ntmps5
  go_wp2
  go_loop [12, 13] (fun s i => ∃ k : Nat, (k : Int) ≤ n ∧ i = .int .i64 k ∧ s = .int .i64 (k * x)) (fun _ i => (n - intOf i).toNat)
  case atStart => exact ⟨0, by omega, rfl, by rw [Int.natCast_zero, Int.zero_mul]⟩
  case round =>
    obtain ⟨k, hk, rfl, rfl⟩ := hrel
    by_cases hlt : (k : Int) < n
    · have hs := add_step k x0 x1 (by omega)
      have HS := hide hs
      clear hs
      go_wp2_with (go_at_call 18; refine (add_calls _ _ _).mono ?_; rintro e w' ⟨rfl, rfl⟩)
      go_round
      case rel => exact ⟨k + 1, by omega, by go_num, by rw [HS.out]⟩
      case measure => simp [intOf]; omega
    · have e : n = k := by omega
      have f2' : (times x (k : Int) == (k : Int) * x) = true := by rw [← e]; exact f2
      have e2 : (k : Int) = n := e.symm
      have E := hide e
      subst e
      clear f2 e2 E
      go_wp2_with (first | (go_at_call 18; refine (add_calls _ _ _).mono ?_; rintro e w' ⟨rfl, rfl⟩) | (go_at_call 19; refine (times_calls _ _ _).mono ?_; rintro e w' ⟨rfl, rfl⟩) | (go_at_call 20; refine (at_calls _ _).mono ?_; rintro e w' ⟨rfl, rfl⟩) | (go_at_call 17; refine (awake01_calls _).mono ?_; rintro e w' ⟨rfl, rfl⟩))
      go_ret
      exact ⟨rfl, Below.refl _ _⟩
end Go.Proofs.Ytpjckplokolcnaa
