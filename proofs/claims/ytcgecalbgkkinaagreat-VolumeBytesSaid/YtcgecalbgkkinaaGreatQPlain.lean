/- One text of: Plain. -/
import Derived.Test.YtcgecalbgkkinaaGreatRows
namespace Go.Proofs.YtcgecalbgkkinaaGreat

def hold (n : Int) : Int := if n < 0 then 0 else if n > 2305843009213693952 then 2305843009213693952 else n
def add (a b : Int) : Int := hold (hold a + hold b)
def times (a n : Int) : Int := if hold n > 0 ∧ hold a > 2305843009213693952 / hold n then 2305843009213693952 else hold a * hold n
def at_ (t : Int) : Int := times 65536 t
def isRate (n : Int) : Bool := decide (1 ≤ n ∧ n ≤ 1048576)
def space (r : Int) : Int := if isRate r = true then 65536000 / r else 0
def wide (r : Int) : Int := if isRate r = true then (65536000 + r - 1) / r else 0
def share (s : Int) : Int := if s < 1 then 0 else 1099511627776 / s + min (1099511627776 % s) 1
theorem isRate_yes {r : Int} (h : isRate r = true) : 1 ≤ r ∧ r ≤ 1048576 := by simpa [isRate] using h
def rShare (s : Int) : Int := if s < 1 then 0 else if 1099511627776 / s * s < 1099511627776 then 1099511627776 / s + 1 else 1099511627776 / s
theorem div_mul_facts {M r : Int} (hr : 0 < r) : M / r * r ≤ M ∧ M < M / r * r + r ∧ M % r = M - M / r * r := by
  have h := Int.mul_ediv_add_emod M r
  have h1 := Int.emod_nonneg M (show r ≠ 0 by omega)
  have h2 := Int.emod_lt_of_pos M hr
  have h3 : r * (M / r) = M / r * r := Int.mul_comm _ _
  omega
theorem rShare_eq (s : Int) : rShare s = share s := by
  unfold rShare share
  by_cases h : s < 1
  · rw [if_pos h, if_pos h]
  · obtain ⟨a, b, c⟩ := div_mul_facts (M := 1099511627776) (r := s) (by omega)
    rw [if_neg h, if_neg h]
    by_cases d : 1099511627776 / s * s < 1099511627776
    · rw [if_pos d]; omega
    · rw [if_neg d]; omega
end Go.Proofs.YtcgecalbgkkinaaGreat
