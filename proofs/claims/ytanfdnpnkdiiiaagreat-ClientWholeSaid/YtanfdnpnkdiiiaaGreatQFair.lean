/- One text of: Fair. -/
import Derived.Test.YtanfdnpnkdiiiaaGreatQFix
namespace Go.Proofs.YtanfdnpnkdiiiaaGreat
open Go.RowKit

def in_ (n : Int) : Int := if n < 0 then 0 else if 1048576 < n then 1048576 else n
theorem in_bd (n : Int) : 0 ≤ in_ n ∧ in_ n ≤ 1048576 := by unfold in_; grind
theorem in_mono {a b : Int} (h : a ≤ b) : in_ a ≤ in_ b := by unfold in_; grind
def bound (n s q d : Int) : Int := min (add (times (60 + 14 * in_ n) (in_ d + 1)) (times (times (in_ s + 1) (in_ q + 4)) (8 * (in_ d + 1)))) 1152921504606846976
theorem small_mul {a b A B : Int} (a0 : 0 ≤ a) (a1 : a ≤ A) (b0 : 0 ≤ b) (b1 : b ≤ B) : 0 ≤ a * b ∧ a * b ≤ A * B :=
  ⟨Int.mul_nonneg a0 b0, Int.mul_le_mul a1 b1 b0 (by omega)⟩
theorem times_small {a n : Int} (a0 : 0 ≤ a) (a1 : a ≤ 67108864) (n0 : 0 ≤ n) (n1 : n ≤ 1048580) : times a n = a * n := by
  obtain ⟨h0, h1⟩ := small_mul a0 a1 n0 n1
  rw [times_hold, hold_in a0 (by omega), hold_in n0 (by omega), hold_in h0 (by omega)]
theorem bound_eq (n s q d : Int) : bound n s q d = min (add ((60 + 14 * in_ n) * (in_ d + 1)) (times ((in_ s + 1) * (in_ q + 4)) (8 * (in_ d + 1)))) 1152921504606846976 := by
  have b1 := in_bd n
  have b2 := in_bd s
  have b3 := in_bd q
  have b4 := in_bd d
  unfold bound
  rw [times_small (a := 60 + 14 * in_ n) (by omega) (by omega) (by omega) (by omega), times_small (a := in_ s + 1) (by omega) (by omega) (by omega) (by omega)]
theorem times_mono {a b c d : Int} (h : a ≤ b) (k : c ≤ d) : times a c ≤ times b d := by
  rw [times_hold, times_hold]
  exact hold_mono (Int.mul_le_mul (hold_mono h) (hold_mono k) (hold_lo _) (hold_lo _))
theorem add_mono {a b c d : Int} (h : a ≤ b) (k : c ≤ d) : add a c ≤ add b d := by
  unfold add
  have := hold_mono h
  have := hold_mono k
  exact hold_mono (by omega)
theorem bound_mono {n n' s q d d' : Int} (h : n ≤ n') (k : d ≤ d') : bound n s q d ≤ bound n' s q d' := by
  have i1 := in_mono h
  have i2 := in_mono k
  have := add_mono (times_mono (a := 60 + 14 * in_ n) (b := 60 + 14 * in_ n') (by omega) (show in_ d + 1 ≤ in_ d' + 1 by omega))
    (times_mono (Int.le_refl (times (in_ s + 1) (in_ q + 4))) (show 8 * (in_ d + 1) ≤ 8 * (in_ d' + 1) by omega))
  unfold bound
  omega
theorem bound_least (n s q d : Int) : 92 ≤ bound n s q d := by
  have b1 := in_bd n
  have b2 := in_bd s
  have b3 := in_bd q
  have b4 := in_bd d
  have h1 := times_mono (show (60 : Int) ≤ 60 + 14 * in_ n by omega) (show (1 : Int) ≤ in_ d + 1 by omega)
  have h2 := times_mono (times_mono (show (1 : Int) ≤ in_ s + 1 by omega) (show (4 : Int) ≤ in_ q + 4 by omega)) (show (8 : Int) ≤ 8 * (in_ d + 1) by omega)
  have h3 := add_mono h1 h2
  have h4 : add (times 60 1) (times (times 1 4) 8) = 92 := by decide
  rw [h4] at h3
  unfold bound
  omega
end Go.Proofs.YtanfdnpnkdiiiaaGreat
