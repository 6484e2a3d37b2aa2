/- The law ClocksSpaces of layer 11: for every input it answers true. No conditions. -/
import Derived.Test.YtpjckplokolcnaaLaw11
namespace Go.Proofs.Ytpjckplokolcnaa
open Go.ChangeShapes Go.WideShapes Go.ChangeAt Go.RowKit Go.Joins
set_option linter.unusedVariables false

theorem wide_facts {a : Int} (h1 : 1 ≤ a) (h2 : a ≤ 1048576) :
    1 ≤ space a ∧ space a ≤ 65536000 ∧ space a ≤ wide a ∧ wide a ≤ space a + 1 ∧ a ≤ 65536000 / space a ∧ 65536000 / wide a ≤ a := by
  have hr : isRate a = true := by simp [isRate]; omega
  obtain ⟨m1, m2, _⟩ := div_mul_facts (M := 65536000) (r := a) (by omega)
  have e0 : space a = 65536000 / a := by simp [space, hr]
  have hs := space_pos hr
  rw [← e0] at m1 m2 hs
  have e1 := rWide_eq a
  unfold rWide at e1
  have hw : space a ≤ wide a ∧ wide a ≤ space a + 1 ∧ 65536000 ≤ wide a * a := by
    rw [← e1]
    split
    · rw [Int.add_mul]; omega
    · omega
  refine ⟨hs.1, hs.2, hw.1, hw.2.1, (Int.le_ediv_iff_mul_le (by omega)).2 (by rw [Int.mul_comm]; exact m1), ?_⟩
  have h3 : 65536000 / wide a < a + 1 := (Int.ediv_lt_iff_lt_mul (by omega)).2 (by rw [Int.add_mul, Int.mul_comm]; omega)
  omega

theorem small_mul {a b A B : Int} (a0 : 0 ≤ a) (a1 : a ≤ A) (b0 : 0 ≤ b) (b1 : b ≤ B) : 0 ≤ a * b ∧ a * b ≤ A * B :=
  ⟨Int.mul_nonneg a0 b0, Int.mul_le_mul a1 b1 b0 (by omega)⟩
theorem add_plain {a b : Int} (a0 : 0 ≤ a) (b0 : 0 ≤ b) (h : a + b ≤ 2305843009213693952) : add a b = a + b := by
  unfold add
  rw [hold_in a0 (by omega), hold_in b0 (by omega), hold_in (by omega) h]
theorem times_small {a n : Int} (a0 : 0 ≤ a) (a1 : a ≤ 67108864) (n0 : 0 ≤ n) (n1 : n ≤ 1048577) : times a n = a * n := by
  obtain ⟨h0, h1⟩ := small_mul a0 a1 n0 n1
  rw [times_hold, hold_in a0 (by omega), hold_in n0 (by omega), hold_in h0 (by omega)]
theorem space_bd (r : Int) : 0 ≤ space r ∧ space r ≤ 65536000 := by
  cases h : isRate r with
  | false => simp [space, h]
  | true => have := space_pos h; simp [space, h]; omega
theorem wide_bd (r : Int) : 0 ≤ wide r ∧ wide r ≤ 65536001 := by
  cases h : isRate r with
  | false => simp [wide, h]
  | true =>
    obtain ⟨h1, h2⟩ := isRate_yes h
    have := wide_facts h1 h2
    omega
theorem quo_bd {w : Int} (h : 1 ≤ w) : 0 ≤ 67108864 / w ∧ 67108864 / w ≤ 67108864 :=
  ⟨Int.ediv_nonneg (by decide) (by omega), Int.ediv_le_self _ (by decide)⟩
theorem done_in {n : Int} (h0 : 0 ≤ n) (h1 : n ≤ 1048576) : done_ n = n := by unfold done_; rw [if_neg (by omega), if_neg (by omega)]

/-- one by reservation and one by weight behind it: R goes on by Space, P by two of its shares -/
theorem spaces_step {p : Pol} (hr : right p.r p.w p.l p.b = true) {start : Int} (s0 : 0 ≤ start) (s1 : start ≤ 4294967295) (k : Nat) (hk : k < 60) (L : Int) :
    (charge p ⟨start + k * space p.r, 2 * k * (67108864 / p.w), L⟩ start 1 0 0).r = start + ((k : Int) + 1) * space p.r ∧
    (charge p ⟨start + k * space p.r, 2 * k * (67108864 / p.w), L⟩ start 1 0 0).p = (2 * k + 1) * (67108864 / p.w) ∧
    ∀ L', (charge p ⟨start + ((k : Int) + 1) * space p.r, (2 * k + 1) * (67108864 / p.w), L'⟩ start 2 0 0).r = start + ((k : Int) + 1) * space p.r ∧
      (charge p ⟨start + ((k : Int) + 1) * space p.r, (2 * k + 1) * (67108864 / p.w), L'⟩ start 2 0 0).p = 2 * ((k : Int) + 1) * (67108864 / p.w) := by
  have pw := (right_iff.1 hr).2.2.2.2.2.1
  have sb := space_bd p.r
  have qb := quo_bd pw
  generalize hS : space p.r = s at *
  generalize hQ : 67108864 / p.w = q at *
  have e1 : ((k : Int) + 1) * s = k * s + s := by rw [Int.add_mul]; omega
  have e2 : (2 * (k : Int) + 1) * q = 2 * (k * q) + q := by rw [Int.add_mul, Int.mul_assoc]; omega
  have e3 : 2 * ((k : Int) + 1) * q = 2 * (k * q) + 2 * q := by rw [Int.mul_assoc, Int.add_mul]; omega
  have e4 : 2 * (k : Int) * q = 2 * (k * q) := Int.mul_assoc _ _ _
  obtain ⟨a0, a1⟩ := small_mul (a := k) (b := s) (A := 60) (B := 65536000) (by omega) (by omega) sb.1 sb.2
  obtain ⟨b0, b1⟩ := small_mul (a := k) (b := q) (A := 60) (B := 67108864) (by omega) (by omega) qb.1 qb.2
  have t1 : times s 1 = s := by rw [times_small sb.1 (by omega) (by decide) (by decide), Int.mul_one]
  have t0 : times s 0 = 0 := by rw [times_small sb.1 (by omega) (by decide) (by decide), Int.mul_zero]
  have u1 : times q 1 = q := by rw [times_small qb.1 qb.2 (by decide) (by decide), Int.mul_one]
  have d0 : done_ 0 = 0 := rfl
  rw [e1, e2, e3, e4]
  have fr : ∀ (c : Clk) (ph : Int), ph = 1 ∨ ph = 2 → (charge p c start ph 0 0).r = add c.r (times s (if ph = 1 then 1 else 0)) ∧ (charge p c start ph 0 0).p = add c.p q := by
    intro c ph hp
    unfold charge
    rw [if_neg (by rw [hr]; intro h; rcases h with h | h; cases h; omega), hS, hQ, d0]
    simp only [Int.add_zero]
    rw [u1]
    exact ⟨trivial, rfl⟩
  refine ⟨?_, ?_, fun L' => ⟨?_, ?_⟩⟩
  · rw [(fr _ 1 (Or.inl rfl)).1, if_pos rfl, t1]; dsimp only; rw [add_plain (by omega) sb.1 (by omega)]; omega
  · rw [(fr _ 1 (Or.inl rfl)).2]; dsimp only; rw [add_plain (by omega) qb.1 (by omega)]
  · rw [(fr _ 2 (Or.inr rfl)).1, if_neg (by decide), t0]; dsimp only; rw [add_plain (by omega) (by decide) (by omega)]; omega
  · rw [(fr _ 2 (Or.inr rfl)).2]; dsimp only; rw [add_plain (by omega) qb.1 (by omega)]; omega

def limOf (p : Pol) : Int := if 0 < p.l then wide p.l else 0
theorem limOf_bd (p : Pol) : 0 ≤ limOf p ∧ limOf p ≤ 65536001 := by
  have := wide_bd p.l
  unfold limOf; split <;> omega
/-- from zero, at the moment zero, by reservation -/
theorem zero_charge {p : Pol} (hr : right p.r p.w p.l p.b = true) (R P L : Int) (n : Int) (n0 : 0 ≤ n) (n1 : n ≤ 255) (hR : 0 ≤ R) (hR1 : R + space p.r * (1 + n) ≤ 2305843009213693952) (hP : 0 ≤ P) (hP1 : P + 67108864 / p.w * (1 + n) ≤ 2305843009213693952)
    (hL : 0 ≤ L) (hL1 : L + limOf p * (1 + n) ≤ 2305843009213693952) :
    charge p ⟨R, P, L⟩ 0 1 n n = ⟨R + space p.r * (1 + n), P + 67108864 / p.w * (1 + n), L + limOf p * (1 + n)⟩ := by
  have pw := (right_iff.1 hr).2.2.2.2.2.1
  have sb := space_bd p.r
  have qb := quo_bd pw
  have wb := wide_bd p.l
  have tb := times_lo (wide p.l) p.b
  have m1 := (small_mul sb.1 sb.2 (b := 1 + n) (B := 256) (by omega) (by omega)).1
  have m2 := (small_mul qb.1 qb.2 (b := 1 + n) (B := 256) (by omega) (by omega)).1
  have m3 := (small_mul wb.1 wb.2 (b := 1 + n) (B := 256) (by omega) (by omega)).1
  have e1 := times_small (n := 1 + n) sb.1 (by omega) (by omega) (by omega)
  have e2 := times_small (n := 1 + n) qb.1 qb.2 (by omega) (by omega)
  have e3 := times_small (n := 1 + n) wb.1 (by omega) (by omega) (by omega)
  unfold charge
  rw [if_neg (by rw [hr]; intro h; rcases h with h | h; cases h; omega), done_in n0 (by omega), if_pos rfl, e1, e2]
  rw [add_plain hR m1 hR1, add_plain hP m2 hP1]
  by_cases hl : 0 < p.l
  · have hlo : limOf p = wide p.l := by simp [limOf, hl]
    rw [hlo] at hL1 ⊢
    rw [if_pos hl, e3, show max L (0 - min (times (wide p.l) p.b) (max 0 0)) = L by omega, add_plain hL m3 hL1]
  · have hlo : limOf p = 0 := by simp [limOf, hl]
    rw [hlo, if_neg hl, Int.zero_mul, Int.add_zero]

/-- what was done elsewhere counts at once as one by one -/
theorem zero_once {p : Pol} (hr : right p.r p.w p.l p.b = true) (rn : Nat) (h : rn ≤ 255) :
    charge p ⟨0, 0, 0⟩ 0 1 rn rn = ⟨((rn : Int) + 1) * space p.r, ((rn : Int) + 1) * (67108864 / p.w), ((rn : Int) + 1) * limOf p⟩ := by
  have pw := (right_iff.1 hr).2.2.2.2.2.1
  have sb := space_bd p.r
  have qb := quo_bd pw
  have lb := limOf_bd p
  have m1 := (small_mul sb.1 sb.2 (b := 1 + (rn : Int)) (B := 256) (by omega) (by omega)).2
  have m2 := (small_mul qb.1 qb.2 (b := 1 + (rn : Int)) (B := 256) (by omega) (by omega)).2
  have m3 := (small_mul lb.1 lb.2 (b := 1 + (rn : Int)) (B := 256) (by omega) (by omega)).2
  rw [zero_charge hr 0 0 0 rn (by omega) (by omega) (by decide) (by omega) (by decide) (by omega) (by decide) (by omega)]
  have e : ((rn : Int) + 1) = 1 + (rn : Int) := by omega
  rw [e, Int.zero_add, Int.zero_add, Int.zero_add, Int.mul_comm (space p.r), Int.mul_comm (67108864 / p.w), Int.mul_comm (limOf p)]
theorem zero_step {p : Pol} (hr : right p.r p.w p.l p.b = true) (j : Nat) (h : j ≤ 255) :
    charge p ⟨(j : Int) * space p.r, (j : Int) * (67108864 / p.w), (j : Int) * limOf p⟩ 0 1 0 0 = ⟨((j : Int) + 1) * space p.r, ((j : Int) + 1) * (67108864 / p.w), ((j : Int) + 1) * limOf p⟩ := by
  have pw := (right_iff.1 hr).2.2.2.2.2.1
  have sb := space_bd p.r
  have qb := quo_bd pw
  have lb := limOf_bd p
  obtain ⟨a1, m1⟩ := small_mul (a := (j : Int)) (A := 256) (by omega) (by omega) sb.1 sb.2
  obtain ⟨a2, m2⟩ := small_mul (a := (j : Int)) (A := 256) (by omega) (by omega) qb.1 qb.2
  obtain ⟨a3, m3⟩ := small_mul (a := (j : Int)) (A := 256) (by omega) (by omega) lb.1 lb.2
  rw [zero_charge hr _ _ _ 0 (by omega) (by omega) a1 (by omega) a2 (by omega) a3 (by omega)]
  have e : ∀ x : Int, ((j : Int) + 1) * x = j * x + x * (1 + 0) := fun x => by rw [Int.add_mul, Int.add_zero, Int.mul_one]; omega
  rw [e, e, e]
/-- the cells of clocks, and of a policy, in known blocks -/
theorem clk_at {W w : World} {L : List (Nat × TypeId × Array Value)} (h : Inv W L w) {b : Nat} {t : TypeId} {x y z : Int} (hp : (b, t, #[.int .i64 x, .int .i64 y, .int .i64 z]) ∈ L) :
    w.cell? ⟨b, 0, none⟩ = some (.int .i64 x) ∧ w.cell? ⟨b, 1, none⟩ = some (.int .i64 y) ∧ w.cell? ⟨b, 2, none⟩ = some (.int .i64 z) ∧ w.frozen? ⟨b, 0, none⟩ = false ∧ w.frozen? ⟨b, 1, none⟩ = false ∧ w.frozen? ⟨b, 2, none⟩ = false :=
  ⟨h.cell hp 0, h.cell hp 1, h.cell hp 2, h.frozen hp 0, h.frozen hp 1, h.frozen hp 2⟩
theorem pol_at {W w : World} {L : List (Nat × TypeId × Array Value)} (h : Inv W L w) {b : Nat} {t : TypeId} {p : Pol} (hp : (b, t, #[.int .i64 p.r, .int .i64 p.w, .int .i64 p.l, .int .i64 p.b]) ∈ L) :
    w.cell? ⟨b, 0, none⟩ = some (.int .i64 p.r) ∧ w.cell? ⟨b, 1, none⟩ = some (.int .i64 p.w) ∧ w.cell? ⟨b, 2, none⟩ = some (.int .i64 p.l) ∧ w.cell? ⟨b, 3, none⟩ = some (.int .i64 p.b) :=
  ⟨h.cell hp 0, h.cell hp 1, h.cell hp 2, h.cell hp 3⟩
/-- three stores, one behind the other, into the clocks' block -/
theorem clk_set {W w : World} {L : List (Nat × TypeId × Array Value)} {b : Nat} {t : TypeId} {x y z x' y' z' : Int} (h : Inv W ((b, t, #[.int .i64 x, .int .i64 y, .int .i64 z]) :: L) w) (hb : W.heap.size ≤ b) (hd : ∀ q ∈ L, q.1 ≠ b) :
    Inv W ((b, t, #[.int .i64 x', .int .i64 y', .int .i64 z']) :: L) (((w.setCell ⟨b, 0, none⟩ (.int .i64 x')).setCell ⟨b, 1, none⟩ (.int .i64 y')).setCell ⟨b, 2, none⟩ (.int .i64 z')) :=
  ((h.set hb hd 0 _).set hb hd 1 _).set hb hd 2 _
/-- the four blocks behind both loops -/
def SPW (W : World) (p : Pol) (start : Int) (k rn : Nat) (L : Int) (b1 b2 : Nat) (w : World) : Prop :=
  Inv W [(b2 + 1, 45, #[.int .i64 (((rn : Int) + 1) * space p.r), .int .i64 (((rn : Int) + 1) * (67108864 / p.w)), .int .i64 (((rn : Int) + 1) * limOf p)]),
    (b2, 45, #[.int .i64 (((rn : Int) + 1) * space p.r), .int .i64 (((rn : Int) + 1) * (67108864 / p.w)), .int .i64 (((rn : Int) + 1) * limOf p)]),
    (b1, 45, #[.int .i64 (start + k * space p.r), .int .i64 (2 * k * (67108864 / p.w)), .int .i64 L]), (W.heap.size, 33, #[.int .i64 p.r, .int .i64 p.w, .int .i64 p.l, .int .i64 p.b])] w
theorem SPW.drew {W w : World} {p : Pol} {start L : Int} {k rn b1 b2 : Nat} (h : SPW W p start k rn L b1 b2 w) : SPW W p start k rn L b1 b2 w.drew := Inv.drew h
theorem SPW.below {W w w' : World} {p : Pol} {start L : Int} {k rn b1 b2 : Nat} (h : SPW W p start k rn L b1 b2 w) (hb : Below w.heap.size w w') : SPW W p start k rn L b1 b2 w' := Inv.below h hb
theorem SPW.rules (W : World) (p : Pol) (start : Int) (k rn : Nat) (L : Int) (b1 b2 : Nat) :
    (∀ w, SPW W p start k rn L b1 b2 w → w.cell? ⟨b1, 0, none⟩ = some (.int .i64 (start + k * space p.r))) ∧ (∀ w, SPW W p start k rn L b1 b2 w → w.cell? ⟨b1, 1, none⟩ = some (.int .i64 (2 * k * (67108864 / p.w)))) ∧
    (∀ w, SPW W p start k rn L b1 b2 w → w.cell? ⟨W.heap.size, 1, none⟩ = some (.int .i64 p.w)) ∧
    (∀ w, SPW W p start k rn L b1 b2 w → w.cell? ⟨b2, 0, none⟩ = some (.int .i64 (((rn : Int) + 1) * space p.r))) ∧ (∀ w, SPW W p start k rn L b1 b2 w → w.cell? ⟨b2, 1, none⟩ = some (.int .i64 (((rn : Int) + 1) * (67108864 / p.w)))) ∧ (∀ w, SPW W p start k rn L b1 b2 w → w.cell? ⟨b2, 2, none⟩ = some (.int .i64 (((rn : Int) + 1) * limOf p))) ∧
    (∀ w, SPW W p start k rn L b1 b2 w → w.cell? ⟨b2 + 1, 0, none⟩ = some (.int .i64 (((rn : Int) + 1) * space p.r))) ∧ (∀ w, SPW W p start k rn L b1 b2 w → w.cell? ⟨b2 + 1, 1, none⟩ = some (.int .i64 (((rn : Int) + 1) * (67108864 / p.w)))) ∧ (∀ w, SPW W p start k rn L b1 b2 w → w.cell? ⟨b2 + 1, 2, none⟩ = some (.int .i64 (((rn : Int) + 1) * limOf p))) :=
  have m0 := List.Mem.head _
  have m1 := List.Mem.tail _ (List.Mem.head _)
  have m2 := List.Mem.tail _ (List.Mem.tail _ (List.Mem.head _))
  have m3 := List.Mem.tail _ (List.Mem.tail _ (List.Mem.tail _ (List.Mem.head _)))
  ⟨fun w h => Inv.cell h m2 0, fun w h => Inv.cell h m2 1, fun w h => Inv.cell h m3 1, fun w h => Inv.cell h m1 0, fun w h => Inv.cell h m1 1, fun w h => Inv.cell h m1 2, fun w h => Inv.cell h m0 0, fun w h => Inv.cell h m0 1, fun w h => Inv.cell h m0 2⟩
set_option maxHeartbeats 2000000 in
/-- THE WALK of ClocksSpaces: whatever comes in, it answers true, and nothing that was there turns. -/
theorem clocksSpaces_walk {H : Type} {enc : TypeId × Value → H} (W : World) (base : Nat) (v0 v1 v2 v3 : Value) (d0 d1 d2 d3 : DataW H) (p0 p1 p2 p3 : List MemPlace)
    (ok0 : Value.okWide Try.prog W .any base 33 v0) (h0 : DataW.Trod enc Try.prog W 0 (fun _ => true) true 33 v0 d0 p0)
    (ok1 : Value.okWide Try.prog W .any base 27 v1) (h1 : DataW.Trod enc Try.prog W 0 (fun _ => true) true 27 v1 d1 p1)
    (ok2 : Value.okWide Try.prog W .any base 5 v2) (h2 : DataW.Trod enc Try.prog W 0 (fun _ => true) true 5 v2 d2 p2)
    (ok3 : Value.okWide Try.prog W .any base 5 v3) (h3 : DataW.Trod enc Try.prog W 0 (fun _ => true) true 5 v3 d3 p3) :
    Calls Try.prog 12 #[v0, v1, v2, v3] W fun e w' => e = .returned (.bool true) ∧ Below W.heap.size W w' := by
  obtain ⟨p, rfl, -, -, -, -⟩ := open_pol ok0 h0
  obtain ⟨start, rfl, rfl, rfl, ws⟩ := open_int Try.underlying27 ok1 h1
  obtain ⟨n, rfl, rfl, rfl, wn⟩ := open_int Try.underlying5 ok2 h2
  obtain ⟨rho, rfl, rfl, rfl, wr⟩ := open_int Try.underlying5 ok3 h3
  obtain ⟨s0, s1⟩ := bounds_u32 ws
  obtain ⟨n0, n1⟩ := bounds_u8 wn
  obtain ⟨r0, r1⟩ := bounds_u8 wr
  clear ok0 h0 ok1 h1 ok2 h2 ok3 h3 ws wn wr
  have I0 : Inv W [(W.heap.size, 33, #[.int .i64 p.r, .int .i64 p.w, .int .i64 p.l, .int .i64 p.b])] (W.alloc (.cells #[.int .i64 p.r, .int .i64 p.w, .int .i64 p.l, .int .i64 p.b] 33)) := (Inv.refl W).new rfl
  cases hr : right p.r p.w p.l p.b with
  | false =>
    go_enter Try.func12, Try.ntmps12
    go_wp2_with fail
    with_reducible refine (rRight_calls _ _ _ _ _).mono ?_
    rintro e w1 ⟨rfl, hb1⟩
    have I1 := I0.below hb1
    go_wp2_with fail
    with_reducible refine (awake11_calls _).mono ?_
    rintro e w2 ⟨rfl, hb2⟩
    have I2 := I1.below hb2
    go_wp2
    go_ret
    exact ⟨rfl, Inv.base I2⟩
  | true =>
    obtain ⟨kk, hkk⟩ : ∃ kk : Nat, n % 60 = kk := ⟨(n % 60).toNat, (Int.toNat_of_nonneg (by omega)).symm⟩
    have kk1 : (kk : Int) < 60 := by omega
    have HKK := hide hkk
    clear hkk
    obtain ⟨rn, hrn⟩ : ∃ rn : Nat, rho = rn := ⟨rho.toNat, (Int.toNat_of_nonneg r0).symm⟩
    subst hrn
    have hpw0 : ¬ p.w = 0 := by have := (right_iff.1 hr).2.2.2.2.2.1; omega
    have sb := space_bd p.r
    have pw := (right_iff.1 hr).2.2.2.2.2.1
    have qb := quo_bd pw
    have lb := limOf_bd p
    go_enter Try.func12, Try.ntmps12
    go_wp2_with fail
    with_reducible refine (rRight_calls _ _ _ _ _).mono ?_
    rintro e w1 ⟨rfl, hb1⟩
    have I1 := I0.below hb1
    have z1 := I1.lt (List.Mem.head _)
    have y1 : W.heap.size ≤ w1.heap.size := by omega
    clear hb1
    go_wp2
    rw [HKK.out]
    go_loopw [11] (fun i wr => ∃ (k : Nat) (L : Int), k ≤ kk ∧ i = .int .i64 k ∧ Inv W [(w1.heap.size, 45, #[.int .i64 (start + k * space p.r), .int .i64 (2 * k * (67108864 / p.w)), .int .i64 L]), (W.heap.size, 33, #[.int .i64 p.r, .int .i64 p.w, .int .i64 p.l, .int .i64 p.b])] wr) (fun i _ => (60 - intOf i).toNat)
    case atStart => exact ⟨0, 0, by omega, rfl, by simpa using I1.new (t := 45) (cs := #[.int .i64 start, .int .i64 0, .int .i64 0]) rfl⟩
    case round =>
      obtain ⟨k, L, hk, rfl, I⟩ := hrel
      obtain ⟨c0, c1, c2, f0, f1, f2⟩ := clk_at I (List.Mem.head _)
      obtain ⟨q0, q1, q2, q3⟩ := pol_at I (List.Mem.tail _ (List.Mem.head _))
      by_cases hlt : k < kk
      · obtain ⟨v1, v2, v3⟩ := spaces_step hr s0 s1 k (by omega) L
        have V1 := hide v1
        have V2 := hide v2
        have V3 := hide v3
        clear v1 v2 v3
        go_wp2_with fail
        with_reducible refine (charge_calls p ⟨start + k * space p.r, 2 * k * (67108864 / p.w), L⟩ start 1 0 0 _ ⟨by omega, by omega⟩).mono ?_
        rw [V1.out, V2.out]
        generalize (charge p ⟨start + k * space p.r, 2 * k * (67108864 / p.w), L⟩ start 1 0 0).l = L1
        rintro e w2 ⟨rfl, hb2⟩
        have I2 := I.below hb2
        clear hb2 c0 c1 c2 f0 f1 f2 q0 q1 q2 q3
        obtain ⟨c0, c1, c2, f0, f1, f2⟩ := clk_at I2 (List.Mem.head _)
        have I3 := clk_set (x' := start + ((k : Int) + 1) * space p.r) (y' := (2 * k + 1) * (67108864 / p.w)) (z' := L1) I2 y1 (by simp; omega)
        obtain ⟨q0, q1, q2, q3⟩ := pol_at I2 (List.Mem.tail _ (List.Mem.head _))
        go_wp2_with fail
        refine Inv.rename (P := fun w => Calls _ _ _ w _) I3 (fun w3 I4 => ?_)
        clear I2 I3 c0 c1 c2 f0 f1 f2 q0 q1 q2 q3
        with_reducible refine (charge_calls p ⟨start + ((k : Int) + 1) * space p.r, (2 * k + 1) * (67108864 / p.w), L1⟩ start 2 0 0 _ ⟨by omega, by omega⟩).mono ?_
        rw [(V3.out L1).1, (V3.out L1).2]
        generalize (charge p ⟨start + ((k : Int) + 1) * space p.r, (2 * k + 1) * (67108864 / p.w), L1⟩ start 2 0 0).l = L2
        rintro e w4 ⟨rfl, hb4⟩
        have I5 := I4.below hb4
        clear hb4 I4
        obtain ⟨c0, c1, c2, f0, f1, f2⟩ := clk_at I5 (List.Mem.head _)
        have I6 := clk_set (x' := start + ((k : Int) + 1) * space p.r) (y' := 2 * ((k : Int) + 1) * (67108864 / p.w)) (z' := L2) I5 y1 (by simp; omega)
        go_wp2
        go_roundw
        case rel => exact ⟨k + 1, L2, by omega, by go_num, by simpa using I6⟩
        case measure => simp [intOf]; omega
      · obtain rfl : k = kk := by omega
        clear hlt hk
        go_wp2_with (go_at_call 23; with_reducible refine (rSpace_calls _ _).mono ?_; rintro e w' ⟨rfl, rfl⟩)
        with_reducible refine (charge_calls p ⟨0, 0, 0⟩ 0 1 rn rn _ ⟨by decide, by decide⟩).mono ?_
        rw [zero_once hr rn (by omega)]
        rintro e w2 ⟨rfl, hb2⟩
        have J2 := I.below hb2
        have z2 := J2.lt (List.Mem.head _)
        have J3 := J2.new (t := 45) (cs := #[.int .i64 (((rn : Int) + 1) * space p.r), .int .i64 (((rn : Int) + 1) * (67108864 / p.w)), .int .i64 (((rn : Int) + 1) * limOf p)]) rfl
        have J4 := J3.new (b := w2.heap.size + 1) (t := 45) (cs := #[.int .i64 0, .int .i64 0, .int .i64 0]) (by simp)
        have y2 : W.heap.size ≤ w2.heap.size + 1 := by omega
        clear hb2 c0 c1 c2 f0 f1 f2 q0 q1 q2 q3 I1
        go_wp2
        go_loopw [15] (fun i wr => ∃ j : Nat, j ≤ rn + 1 ∧ i = .int .i64 j ∧ Inv W [(w2.heap.size + 1, 45, #[.int .i64 ((j : Int) * space p.r), .int .i64 ((j : Int) * (67108864 / p.w)), .int .i64 ((j : Int) * limOf p)]),
          (w2.heap.size, 45, #[.int .i64 (((rn : Int) + 1) * space p.r), .int .i64 (((rn : Int) + 1) * (67108864 / p.w)), .int .i64 (((rn : Int) + 1) * limOf p)]),
          (w1.heap.size, 45, #[.int .i64 (start + k * space p.r), .int .i64 (2 * k * (67108864 / p.w)), .int .i64 L]), (W.heap.size, 33, #[.int .i64 p.r, .int .i64 p.w, .int .i64 p.l, .int .i64 p.b])] wr) (fun i _ => (rn + 2 - intOf i).toNat)
        case atStart => exact ⟨0, by omega, rfl, by simpa using J4⟩
        case round =>
          obtain ⟨j, hj, rfl, I⟩ := hrel
          by_cases hlt : j ≤ rn
          · obtain ⟨c0, c1, c2, f0, f1, f2⟩ := clk_at I (List.Mem.head _)
            obtain ⟨q0, q1, q2, q3⟩ := pol_at I (List.Mem.tail _ (List.Mem.tail _ (List.Mem.tail _ (List.Mem.head _))))
            go_wp2_with fail
            with_reducible refine (charge_calls p ⟨(j : Int) * space p.r, (j : Int) * (67108864 / p.w), (j : Int) * limOf p⟩ 0 1 0 0 _ ⟨by decide, by decide⟩).mono ?_
            rw [zero_step hr j (by omega)]
            rintro e w3 ⟨rfl, hb3⟩
            have I2 := I.below hb3
            clear hb3 c0 c1 c2 f0 f1 f2 q0 q1 q2 q3
            obtain ⟨c0, c1, c2, f0, f1, f2⟩ := clk_at I2 (List.Mem.head _)
            have I3 := clk_set (x' := ((j : Int) + 1) * space p.r) (y' := ((j : Int) + 1) * (67108864 / p.w)) (z' := ((j : Int) + 1) * limOf p) I2 y2 (by simp; omega)
            go_wp2
            go_roundw
            case rel => exact ⟨j + 1, by omega, by go_num, by simpa using I3⟩
            case measure => simp [intOf]; omega
          · obtain rfl : j = rn + 1 := by omega
            clear hlt hj
            obtain ⟨a0, a1⟩ := small_mul (a := (k : Int)) (A := 60) (by omega) (by omega) sb.1 sb.2
            obtain ⟨b0, b1⟩ := small_mul (a := 2 * (k : Int)) (A := 120) (by omega) (by omega) qb.1 qb.2
            have wa : IntKind.i64.wrap (k * space p.r) = k * space p.r := IntWalk.i64_in _ (by omega)
            have wb : IntKind.i64.wrap (start + k * space p.r) = start + k * space p.r := IntWalk.i64_in _ (by omega)
            have wc : IntKind.i64.wrap (2 * (k : Int)) = 2 * k := IntWalk.i64_in _ (by omega)
            have wd : IntKind.i64.wrap (2 * (k : Int) * (67108864 / p.w)) = 2 * k * (67108864 / p.w) := IntWalk.i64_in _ (by omega)
            have wq : IntKind.i64.wrap (Int.tdiv 67108864 p.w) = 67108864 / p.w := by
              rw [Int.tdiv_eq_ediv_of_nonneg (by decide)]
              exact IntWalk.i64_in _ (by omega)
            have ws : IntKind.i64.wrap start = start := IntWalk.i64_in _ (by omega)
            have cc : ((rn + 1 : Nat) : Int) = (rn : Int) + 1 := by omega
            rw [cc] at I
            clear cc a0 a1 b0 b1 J2 J3 J4
            obtain ⟨u1, u2, u3, u4, u5, u6, u7, u8, u9⟩ := SPW.rules W p start k rn L w1.heap.size w2.heap.size
            go_wp2
            refine region_lex (fun w' => SPW W p start k rn L w1.heap.size w2.heap.size w') 0 [(false, 0), (false, 1), (false, 2), (false, 3), (false, 4), (false, 5), (false, 6), (false, 7), (false, 8), (false, 9), (false, 10), (false, 11), (false, 12), (false, 13), (false, 14), (false, 15), (false, 16), (false, 17), (false, 18), (false, 19), (false, 20), (false, 21), (false, 22), (false, 23), (false, 24), (false, 25), (false, 26), (false, 27), (false, 28), (false, 29), (false, 30), (false, 31), (false, 32), (false, 33), (false, 34), (false, 35), (false, 36), (false, 37), (false, 38), (false, 39), (false, 40), (false, 41), (true, 42), (false, 43), (false, 44)] #[true, true, true, true, true, true, true, true, true, true, true, true, true, true, true, true, true, true, true, true, true, true, true, true, true, true, true, true, true, true, true, true, true, true, true, true, true, true, true, true, true, true, true, true, true] (by kernel_rfl) (by kernel_rfl) (by decide) (by kernel_rfl) (by kernel_rfl) (fun _ _ _ _ _ h => h) (by first | assumption | exact SPW.drew I | exact SPW.below (by assumption) hb9) (fun hS0 => ?_)
            simp only [List.map_cons, List.map_nil, List.getElem?_toArray, List.getElem?_cons_succ, List.getElem?_cons_zero]
            (apply lex_take (by rfl); (focus (intro w hw; (try dsimp only at hw); go_simp; (try with_reducible rfl); done)); simp only [Act.put, List.setIfInBounds_toArray, List.set_cons_zero, List.set_cons_succ])
            (apply lex_take (by rfl); (focus (intro w hw; (try dsimp only at hw); go_simp; (try with_reducible rfl); done)); simp only [Act.put, List.setIfInBounds_toArray, List.set_cons_zero, List.set_cons_succ])
            (apply lex_take (by rfl); (focus (intro w hw; (try dsimp only at hw); go_simp; (try with_reducible rfl); done)); simp only [Act.put, List.setIfInBounds_toArray, List.set_cons_zero, List.set_cons_succ])
            (apply lex_take (by rfl); (focus (intro w hw; (try dsimp only at hw); go_simp; (try with_reducible rfl); done)); simp only [Act.put, List.setIfInBounds_toArray, List.set_cons_zero, List.set_cons_succ])
            (apply lex_take (by rfl); (focus (intro w hw; (try dsimp only at hw); go_simp; (try with_reducible rfl); done)); simp only [Act.put, List.setIfInBounds_toArray, List.set_cons_zero, List.set_cons_succ])
            (apply lex_take (by rfl); (focus (intro w hw; (try dsimp only at hw); go_simp; (try with_reducible rfl); done)); simp only [Act.put, List.setIfInBounds_toArray, List.set_cons_zero, List.set_cons_succ])
            (apply lex_take (by rfl); (focus (intro w hw; (try dsimp only at hw); go_simp; (try with_reducible rfl); done)); simp only [Act.put, List.setIfInBounds_toArray, List.set_cons_zero, List.set_cons_succ])
            (apply lex_take (by rfl); (focus (intro w hw; (try dsimp only at hw); go_simp; (try with_reducible rfl); done)); simp only [Act.put, List.setIfInBounds_toArray, List.set_cons_zero, List.set_cons_succ])
            (apply lex_take (by rfl); (focus (intro w hw; (try dsimp only at hw); go_simp; (try with_reducible rfl); done)); simp only [Act.put, List.setIfInBounds_toArray, List.set_cons_zero, List.set_cons_succ])
            (apply lex_take (by rfl); (focus (intro w hw; (try dsimp only at hw); go_simp; (try with_reducible rfl); done)); simp only [Act.put, List.setIfInBounds_toArray, List.set_cons_zero, List.set_cons_succ])
            first | (apply lex_take (by rfl); (focus (intro w hw; (try dsimp only at hw); go_simp; (try with_reducible rfl); done)); simp only [Act.put, List.setIfInBounds_toArray, List.set_cons_zero, List.set_cons_succ]) | (refine lex_skip (by rfl) ?_; simp only [Act.put, List.setIfInBounds_toArray, List.set_cons_zero, List.set_cons_succ])
            first | (apply lex_take (by rfl); (focus (intro w hw; (try dsimp only at hw); go_simp; (try with_reducible rfl); done)); simp only [Act.put, List.setIfInBounds_toArray, List.set_cons_zero, List.set_cons_succ]) | (refine lex_skip (by rfl) ?_; simp only [Act.put, List.setIfInBounds_toArray, List.set_cons_zero, List.set_cons_succ])
            first | (apply lex_take (by rfl); (focus (intro w hw; (try dsimp only at hw); go_simp; (try with_reducible rfl); done)); simp only [Act.put, List.setIfInBounds_toArray, List.set_cons_zero, List.set_cons_succ]) | (refine lex_skip (by rfl) ?_; simp only [Act.put, List.setIfInBounds_toArray, List.set_cons_zero, List.set_cons_succ])
            first | (apply lex_take (by rfl); (focus (intro w hw; (try dsimp only at hw); go_simp; (try with_reducible rfl); done)); simp only [Act.put, List.setIfInBounds_toArray, List.set_cons_zero, List.set_cons_succ]) | (refine lex_skip (by rfl) ?_; simp only [Act.put, List.setIfInBounds_toArray, List.set_cons_zero, List.set_cons_succ])
            first | (apply lex_take (by rfl); (focus (intro w hw; (try dsimp only at hw); go_simp; (try with_reducible rfl); done)); simp only [Act.put, List.setIfInBounds_toArray, List.set_cons_zero, List.set_cons_succ]) | (refine lex_skip (by rfl) ?_; simp only [Act.put, List.setIfInBounds_toArray, List.set_cons_zero, List.set_cons_succ])
            first | (apply lex_take (by rfl); (focus (intro w hw; (try dsimp only at hw); go_simp; (try with_reducible rfl); done)); simp only [Act.put, List.setIfInBounds_toArray, List.set_cons_zero, List.set_cons_succ]) | (refine lex_skip (by rfl) ?_; simp only [Act.put, List.setIfInBounds_toArray, List.set_cons_zero, List.set_cons_succ])
            first | (apply lex_take (by rfl); (focus (intro w hw; (try dsimp only at hw); go_simp; (try with_reducible rfl); done)); simp only [Act.put, List.setIfInBounds_toArray, List.set_cons_zero, List.set_cons_succ]) | (refine lex_skip (by rfl) ?_; simp only [Act.put, List.setIfInBounds_toArray, List.set_cons_zero, List.set_cons_succ])
            first | (apply lex_take (by rfl); (focus (intro w hw; (try dsimp only at hw); go_simp; (try with_reducible rfl); done)); simp only [Act.put, List.setIfInBounds_toArray, List.set_cons_zero, List.set_cons_succ]) | (refine lex_skip (by rfl) ?_; simp only [Act.put, List.setIfInBounds_toArray, List.set_cons_zero, List.set_cons_succ])
            first | (apply lex_take (by rfl); (focus (intro w hw; (try dsimp only at hw); go_simp; (try with_reducible rfl); done)); simp only [Act.put, List.setIfInBounds_toArray, List.set_cons_zero, List.set_cons_succ]) | (refine lex_skip (by rfl) ?_; simp only [Act.put, List.setIfInBounds_toArray, List.set_cons_zero, List.set_cons_succ])
            (apply lex_take (by rfl); (focus (intro w hw; (try dsimp only at hw); go_simp; (try with_reducible rfl); done)); simp only [Act.put, List.setIfInBounds_toArray, List.set_cons_zero, List.set_cons_succ])
            (apply lex_take (by rfl); (focus (intro w hw; (try dsimp only at hw); go_simp; (try with_reducible rfl); done)); simp only [Act.put, List.setIfInBounds_toArray, List.set_cons_zero, List.set_cons_succ])
            first | (apply lex_take (by rfl); (focus (intro w hw; (try dsimp only at hw); go_simp; (try with_reducible rfl); done)); simp only [Act.put, List.setIfInBounds_toArray, List.set_cons_zero, List.set_cons_succ]) | (refine lex_skip (by rfl) ?_; simp only [Act.put, List.setIfInBounds_toArray, List.set_cons_zero, List.set_cons_succ])
            first | (apply lex_take (by rfl); (focus (intro w hw; (try dsimp only at hw); go_simp; (try with_reducible rfl); done)); simp only [Act.put, List.setIfInBounds_toArray, List.set_cons_zero, List.set_cons_succ]) | (refine lex_skip (by rfl) ?_; simp only [Act.put, List.setIfInBounds_toArray, List.set_cons_zero, List.set_cons_succ])
            first | (apply lex_take (by rfl); (focus (intro w hw; (try dsimp only at hw); go_simp; (try with_reducible rfl); done)); simp only [Act.put, List.setIfInBounds_toArray, List.set_cons_zero, List.set_cons_succ]) | (refine lex_skip (by rfl) ?_; simp only [Act.put, List.setIfInBounds_toArray, List.set_cons_zero, List.set_cons_succ])
            first | (apply lex_take (by rfl); (focus (intro w hw; (try dsimp only at hw); go_simp; (try with_reducible rfl); done)); simp only [Act.put, List.setIfInBounds_toArray, List.set_cons_zero, List.set_cons_succ]) | (refine lex_skip (by rfl) ?_; simp only [Act.put, List.setIfInBounds_toArray, List.set_cons_zero, List.set_cons_succ])
            first | (apply lex_take (by rfl); (focus (intro w hw; (try dsimp only at hw); go_simp; (try with_reducible rfl); done)); simp only [Act.put, List.setIfInBounds_toArray, List.set_cons_zero, List.set_cons_succ]) | (refine lex_skip (by rfl) ?_; simp only [Act.put, List.setIfInBounds_toArray, List.set_cons_zero, List.set_cons_succ])
            (apply lex_take (by rfl); (focus (intro w hw; (try dsimp only at hw); go_simp; (try with_reducible rfl); done)); simp only [Act.put, List.setIfInBounds_toArray, List.set_cons_zero, List.set_cons_succ])
            (apply lex_take (by rfl); (focus (intro w hw; (try dsimp only at hw); go_simp; (try with_reducible rfl); done)); simp only [Act.put, List.setIfInBounds_toArray, List.set_cons_zero, List.set_cons_succ])
            first | (apply lex_take (by rfl); (focus (intro w hw; (try dsimp only at hw); go_simp; (try with_reducible rfl); done)); simp only [Act.put, List.setIfInBounds_toArray, List.set_cons_zero, List.set_cons_succ]) | (refine lex_skip (by rfl) ?_; simp only [Act.put, List.setIfInBounds_toArray, List.set_cons_zero, List.set_cons_succ])
            first | (apply lex_take (by rfl); (focus (intro w hw; (try dsimp only at hw); go_simp; (try with_reducible rfl); done)); simp only [Act.put, List.setIfInBounds_toArray, List.set_cons_zero, List.set_cons_succ]) | (refine lex_skip (by rfl) ?_; simp only [Act.put, List.setIfInBounds_toArray, List.set_cons_zero, List.set_cons_succ])
            first | (apply lex_take (by rfl); (focus (intro w hw; (try dsimp only at hw); go_simp; (try with_reducible rfl); done)); simp only [Act.put, List.setIfInBounds_toArray, List.set_cons_zero, List.set_cons_succ]) | (refine lex_skip (by rfl) ?_; simp only [Act.put, List.setIfInBounds_toArray, List.set_cons_zero, List.set_cons_succ])
            first | (apply lex_take (by rfl); (focus (intro w hw; (try dsimp only at hw); go_simp; (try with_reducible rfl); done)); simp only [Act.put, List.setIfInBounds_toArray, List.set_cons_zero, List.set_cons_succ]) | (refine lex_skip (by rfl) ?_; simp only [Act.put, List.setIfInBounds_toArray, List.set_cons_zero, List.set_cons_succ])
            first | (apply lex_take (by rfl); (focus (intro w hw; (try dsimp only at hw); go_simp; (try with_reducible rfl); done)); simp only [Act.put, List.setIfInBounds_toArray, List.set_cons_zero, List.set_cons_succ]) | (refine lex_skip (by rfl) ?_; simp only [Act.put, List.setIfInBounds_toArray, List.set_cons_zero, List.set_cons_succ])
            (apply lex_take (by rfl); (focus (intro w hw; (try dsimp only at hw); go_simp; (try with_reducible rfl); done)); simp only [Act.put, List.setIfInBounds_toArray, List.set_cons_zero, List.set_cons_succ])
            (apply lex_take (by rfl); (focus (intro w hw; (try dsimp only at hw); go_simp; (try with_reducible rfl); done)); simp only [Act.put, List.setIfInBounds_toArray, List.set_cons_zero, List.set_cons_succ])
            first | (apply lex_take (by rfl); (focus (intro w hw; (try dsimp only at hw); go_simp; (try with_reducible rfl); done)); simp only [Act.put, List.setIfInBounds_toArray, List.set_cons_zero, List.set_cons_succ]) | (refine lex_skip (by rfl) ?_; simp only [Act.put, List.setIfInBounds_toArray, List.set_cons_zero, List.set_cons_succ])
            first | (apply lex_take (by rfl); (focus (intro w hw; (try dsimp only at hw); go_simp; (try with_reducible rfl); done)); simp only [Act.put, List.setIfInBounds_toArray, List.set_cons_zero, List.set_cons_succ]) | (refine lex_skip (by rfl) ?_; simp only [Act.put, List.setIfInBounds_toArray, List.set_cons_zero, List.set_cons_succ])
            first | (apply lex_take (by rfl); (focus (intro w hw; (try dsimp only at hw); go_simp; (try with_reducible rfl); done)); simp only [Act.put, List.setIfInBounds_toArray, List.set_cons_zero, List.set_cons_succ]) | (refine lex_skip (by rfl) ?_; simp only [Act.put, List.setIfInBounds_toArray, List.set_cons_zero, List.set_cons_succ])
            first | (apply lex_take (by rfl); (focus (intro w hw; (try dsimp only at hw); go_simp; (try with_reducible rfl); done)); simp only [Act.put, List.setIfInBounds_toArray, List.set_cons_zero, List.set_cons_succ]) | (refine lex_skip (by rfl) ?_; simp only [Act.put, List.setIfInBounds_toArray, List.set_cons_zero, List.set_cons_succ])
            first | (apply lex_take (by rfl); (focus (intro w hw; (try dsimp only at hw); go_simp; (try with_reducible rfl); done)); simp only [Act.put, List.setIfInBounds_toArray, List.set_cons_zero, List.set_cons_succ]) | (refine lex_skip (by rfl) ?_; simp only [Act.put, List.setIfInBounds_toArray, List.set_cons_zero, List.set_cons_succ])
            (apply lex_take (by rfl); (focus (intro w hw; (try dsimp only at hw); go_simp; (try with_reducible rfl); done)); simp only [Act.put, List.setIfInBounds_toArray, List.set_cons_zero, List.set_cons_succ])
            (apply lex_take (by rfl); (focus (intro w hw; (try dsimp only at hw); go_simp; (try with_reducible rfl); done)); simp only [Act.put, List.setIfInBounds_toArray, List.set_cons_zero, List.set_cons_succ])
            first | (refine lex_eff (by rfl) ?_; go_simp; (first | (go_at_call 39; with_reducible refine (awake11_calls _).mono ?_; rintro e w9 ⟨rfl, hb9⟩)); refine lex_both (by (first | assumption | exact SPW.drew I | exact SPW.below (by assumption) hb9)) (fun hS1 => ?_)) | (refine lex_effskip (by rfl) (by assumption) ?_; simp only [Act.put, List.setIfInBounds_toArray, List.set_cons_zero, List.set_cons_succ])
            (apply lex_take (by rfl); (focus (intro w hw; (try dsimp only at hw); go_simp; (try with_reducible rfl); done)); simp only [Act.put, List.setIfInBounds_toArray, List.set_cons_zero, List.set_cons_succ])
            (apply lex_take (by rfl); (focus (intro w hw; (try dsimp only at hw); go_simp; (try with_reducible rfl); done)); simp only [Act.put, List.setIfInBounds_toArray, List.set_cons_zero, List.set_cons_succ])
            refine lex_nil (fun _ => wpAnyH_done (by kernel_rfl) ?_ _)
            have I9 : SPW W p start k rn L w1.heap.size w2.heap.size w9 := by assumption
            go_wp2
            go_ret
            exact ⟨rfl, Inv.base I9⟩
end Go.Proofs.Ytpjckplokolcnaa
