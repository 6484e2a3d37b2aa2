/- One text of: Plain. -/
import Derived.Test.YtanfdnpnkdiiiaaGreatRows
namespace Go.Proofs.YtanfdnpnkdiiiaaGreat

def hold (n : Int) : Int := if n < 0 then 0 else if n > 2305843009213693952 then 2305843009213693952 else n
theorem hold_lo (a : Int) : 0 ≤ hold a := by unfold hold; grind
theorem hold_hi (a : Int) : hold a ≤ 2305843009213693952 := by unfold hold; grind
theorem hold_in {a : Int} (h0 : 0 ≤ a) (h1 : a ≤ 2305843009213693952) : hold a = a := by unfold hold; grind
theorem hold_hold (a : Int) : hold (hold a) = hold a := hold_in (hold_lo a) (hold_hi a)
theorem hold_mono {a b : Int} (h : a ≤ b) : hold a ≤ hold b := by unfold hold; grind
def add (a b : Int) : Int := hold (hold a + hold b)
def times (a n : Int) : Int := if hold n > 0 ∧ hold a > 2305843009213693952 / hold n then 2305843009213693952 else hold a * hold n
def at_ (t : Int) : Int := times 65536 t
def isRate (n : Int) : Bool := decide (1 ≤ n ∧ n ≤ 1048576)
def space (r : Int) : Int := if isRate r = true then 65536000 / r else 0
def wide (r : Int) : Int := if isRate r = true then (65536000 + r - 1) / r else 0
def share (s : Int) : Int := if s < 1 then 0 else 1099511627776 / s + min (1099511627776 % s) 1
theorem isRate_yes {r : Int} (h : isRate r = true) : 1 ≤ r ∧ r ≤ 1048576 := by simpa [isRate] using h
theorem isRate_no {r : Int} (h : isRate r = false) : r < 1 ∨ 1048576 < r := by
  simp [isRate] at h; omega

/-- a product that does not go beyond the greatest tag -/
theorem mul_le_of_le_div {a n M : Int} (hn : 0 < n) (h : a ≤ M / n) : a * n ≤ M := by
  have h1 : a * n ≤ M / n * n := Int.mul_le_mul_of_nonneg_right h (by omega)
  have h2 : M / n * n ≤ M := Int.ediv_mul_le M (by omega)
  omega
theorem lt_mul_of_div_lt {a n M : Int} (hn : 0 < n) (h : M / n < a) : M < a * n := (Int.ediv_lt_iff_lt_mul hn).1 h
theorem times_hold (a n : Int) : times a n = hold (hold a * hold n) := by
  have a0 := hold_lo a
  have n0 := hold_lo n
  have p0 : 0 ≤ hold a * hold n := Int.mul_nonneg a0 n0
  unfold times
  by_cases h : hold n > 0
  · by_cases h2 : hold a > 2305843009213693952 / hold n
    · rw [if_pos ⟨h, h2⟩]
      have := lt_mul_of_div_lt h h2
      generalize hold a * hold n = x at *
      unfold hold; grind
    · rw [if_neg (fun c => h2 c.2)]
      exact (hold_in p0 (mul_le_of_le_div h (by omega))).symm
  · have h0 : hold n = 0 := by omega
    rw [if_neg (fun c => h c.1), h0, Int.mul_zero]
    rfl
theorem times_lo (a n : Int) : 0 ≤ times a n := by rw [times_hold]; exact hold_lo _
theorem times_hi (a n : Int) : times a n ≤ 2305843009213693952 := by rw [times_hold]; exact hold_hi _
theorem add_lo (a n : Int) : 0 ≤ add a n := hold_lo _
theorem add_hi (a n : Int) : add a n ≤ 2305843009213693952 := hold_hi _
/-- the product of the walk is not wrapped where it is the answer -/
theorem prod_fits {a n : Int} (h : hold n ≤ 0 ∨ hold a ≤ 2305843009213693952 / hold n) : 0 ≤ hold a * hold n ∧ hold a * hold n ≤ 2305843009213693952 := by
  have a0 := hold_lo a
  have n0 := hold_lo n
  refine ⟨Int.mul_nonneg a0 n0, ?_⟩
  rcases h with h | h
  · have h0 : hold n = 0 := by omega
    rw [h0, Int.mul_zero]; decide
  · by_cases h1 : hold n = 0
    · rw [h1, Int.mul_zero]; decide
    · exact mul_le_of_le_div (by omega) h

/-! the document's -/
def rAdd (a b : Int) : Int := if hold a > 2305843009213693952 - hold b then 2305843009213693952 else hold a + hold b
def rTimes (a n : Int) : Int := if hold a = 0 ∨ hold n = 0 then 0 else if hold a > 2305843009213693952 / hold n then 2305843009213693952 else hold a * hold n
def rWide (r : Int) : Int := if space r * r < 65536000 ∧ space r > 0 then space r + 1 else space r
def rShare (s : Int) : Int := if s < 1 then 0 else if 1099511627776 / s * s < 1099511627776 then 1099511627776 / s + 1 else 1099511627776 / s
theorem rAdd_eq (a b : Int) : rAdd a b = add a b := by
  have a0 := hold_lo a
  have b0 := hold_lo b
  unfold rAdd add
  generalize hold a = x at *
  generalize hold b = y at *
  unfold hold; grind
theorem rTimes_eq (a n : Int) : rTimes a n = times a n := by
  have a0 := hold_lo a
  have b0 := hold_lo n
  unfold rTimes times
  by_cases h : hold a = 0 ∨ hold n = 0
  · rw [if_pos h]
    rcases h with h | h
    · rw [h, Int.zero_mul]
      by_cases hn : hold n > 0
      · rw [if_neg]
        intro c
        have : 0 ≤ 2305843009213693952 / hold n := Int.ediv_nonneg (by decide) b0
        omega
      · rw [if_neg (fun c => hn c.1)]
    · rw [h, Int.mul_zero, if_neg (by omega)]
  · rw [if_neg h]
    have : hold n > 0 := by omega
    by_cases h2 : hold a > 2305843009213693952 / hold n
    · rw [if_pos h2, if_pos ⟨this, h2⟩]
    · rw [if_neg h2, if_neg (fun c => h2 c.2)]
theorem div_mul_facts {M r : Int} (hr : 0 < r) : M / r * r ≤ M ∧ M < M / r * r + r ∧ M % r = M - M / r * r := by
  have h := Int.mul_ediv_add_emod M r
  have h1 := Int.emod_nonneg M (show r ≠ 0 by omega)
  have h2 := Int.emod_lt_of_pos M hr
  have h3 : r * (M / r) = M / r * r := Int.mul_comm _ _
  omega
theorem ediv_eq {a b q : Int} (hb : 0 < b) (h1 : q * b ≤ a) (h2 : a < (q + 1) * b) : a / b = q := by
  have h3 : q ≤ a / b := (Int.le_ediv_iff_mul_le hb).2 h1
  have h4 : a / b < q + 1 := (Int.ediv_lt_iff_lt_mul hb).2 h2
  omega
theorem space_pos {r : Int} (h : isRate r = true) : 1 ≤ 65536000 / r ∧ 65536000 / r ≤ 65536000 := by
  obtain ⟨h1, h2⟩ := isRate_yes h
  have a : 1 ≤ 65536000 / r := (Int.le_ediv_iff_mul_le (by omega)).2 (by omega)
  have b : 65536000 / r ≤ 65536000 := Int.ediv_le_self _ (by decide)
  exact ⟨a, b⟩
theorem rWide_eq (r : Int) : rWide r = wide r := by
  unfold rWide wide space
  cases h : isRate r with
  | false => simp
  | true =>
    obtain ⟨h1, h2⟩ := isRate_yes h
    obtain ⟨a, b, _⟩ := div_mul_facts (M := 65536000) (r := r) (by omega)
    have hp := (space_pos h).1
    simp only [if_true]
    by_cases c : 65536000 / r * r < 65536000
    · rw [if_pos ⟨c, by omega⟩]
      exact (ediv_eq (by omega) (by rw [Int.add_mul]; omega) (by rw [Int.add_mul, Int.add_mul]; omega)).symm
    · rw [if_neg (fun x => c x.1)]
      exact (ediv_eq (by omega) (by omega) (by rw [Int.add_mul]; omega)).symm
theorem rShare_eq (s : Int) : rShare s = share s := by
  unfold rShare share
  by_cases h : s < 1
  · rw [if_pos h, if_pos h]
  · obtain ⟨a, b, c⟩ := div_mul_facts (M := 1099511627776) (r := s) (by omega)
    rw [if_neg h, if_neg h]
    by_cases d : 1099511627776 / s * s < 1099511627776
    · rw [if_pos d]; omega
    · rw [if_neg d]; omega
end Go.Proofs.YtanfdnpnkdiiiaaGreat
