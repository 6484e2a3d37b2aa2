/- Walks: the example of layer 10; a policy's numbers, and the policy of numbers; lists of numbers held against each other; a place by any number. -/
import Derived.Test.YtcgecalbgkkinaaPol2
-- PARTIAL
namespace Go.Proofs.Ytcgecalbgkkinaa
open Go.RowKit

/-- one policy's cells -/
theorem Pol.at_ {w : World} {b o : Nat} {p : Pol} (h : CellsAt w b o p.cells) : w.cell? ⟨b, o, none⟩ = some (.int .i64 p.r) ∧ w.cell? ⟨b, o + 1, none⟩ = some (.int .i64 p.w) ∧ w.cell? ⟨b, o + 2, none⟩ = some (.int .i64 p.l) ∧ w.cell? ⟨b, o + 3, none⟩ = some (.int .i64 p.b) :=
  ⟨h 0 _ rfl, h 1 _ rfl, h 2 _ rfl, h 3 _ rfl⟩
theorem aw10a : admits 1 [⟨1000, 1, 0, 0⟩] = true := by decide
theorem aw10b : admits 1 [⟨1000, 1, 0, 0⟩, ⟨1000, 1, 0, 0⟩] = false := by decide
theorem aw10c : (load [⟨1000, 1, 0, 0⟩] == 16777216) = true := by decide
def pick (k n : Int) : Int := if n < 1 then 0 else k % n
theorem pick_bd (k n : Int) (h : 1 ≤ n) : 0 ≤ pick k n ∧ pick k n < n := by
  unfold pick
  rw [if_neg (by omega)]
  exact ⟨Int.emod_nonneg _ (by omega), Int.emod_lt_of_pos _ (by omega)⟩
theorem tmod_emod {k n : Int} (h : 1 ≤ n) : (if k.tmod n < 0 then k.tmod n + n else k.tmod n) = k % n := by
  have h1 := Int.emod_nonneg k (show n ≠ 0 by omega)
  have h2 := Int.emod_lt_of_pos k (show 0 < n by omega)
  rw [Int.tmod_eq_emod]
  have e : ((n.natAbs : Nat) : Int) = n := by omega
  by_cases c : 0 ≤ k ∨ n ∣ k
  · simp only [if_pos c]; rw [if_neg (by omega)]; omega
  · simp only [if_neg c]; rw [e, if_pos (by omega)]; omega
theorem tmod_bd (k : Int) {n : Int} (h : 1 ≤ n) : -n < k.tmod n ∧ k.tmod n < n := ⟨Int.lt_tmod_of_pos k (by omega), Int.tmod_lt_of_pos k (by omega)⟩
def intCells (xs : List Int) : List Value := xs.map (Value.int .i64)
theorem intCells_get (xs : List Int) (k : Nat) (h : k < xs.length) : (intCells xs)[k]? = some (.int .i64 xs[k]) := by
  simp [intCells, h]
theorem same_no {xs ys : List Int} {k : Nat} (hx : k < xs.length) (hy : k < ys.length) (h : xs[k] ≠ ys[k]) : xs ≠ ys := by
  intro e; subst e; exact h rfl
set_option maxHeartbeats 1000000 in
theorem sameInts_calls (xs ys : List Int) (A B : Option Addr) (c d : Nat) (W : World) (hx : Reads W W.heap.size 1 A xs.length (intCells xs)) (hy : Reads W W.heap.size 1 B ys.length (intCells ys)) (hlx : xs.length ≤ 4611686018427387904) (hly : ys.length ≤ 4611686018427387904) :
    Calls Try.prog 14 #[.slice A xs.length c, .slice B ys.length d] W fun e w' => e = .returned (.bool (decide (xs = ys))) ∧ ∃ n, w' = W.drewN n := by
  by_cases hl : xs.length = ys.length
  · have h : ((xs.length : Int) == (ys.length : Int)) = true := by rw [beq_iff_eq]; omega
    have h' : ((xs.length : Int) != (ys.length : Int)) = false := by rw [bne_eq_false_iff_eq]; omega
    have HL := hide hl
    clear hl
    go_enter Try.func14, Try.ntmps14
    go_wp2
    go_loopw [5] (fun i wr => ∃ k n : Nat, k ≤ xs.length ∧ i = .int .i64 k ∧ Hid (xs.take k = ys.take k) ∧ wr = W.drewN n) (fun i _ => xs.length - (intOf i).toNat)
    case atStart => exact ⟨0, 0, by omega, rfl, hide rfl, rfl⟩
    case round =>
      obtain ⟨k, n, hk, rfl, heq, rfl⟩ := hrel
      by_cases hlt : k < xs.length
      · have hlt2 : k < ys.length := by rw [← HL.out]; exact hlt
        obtain ⟨b1, o1, rfl, hb1, hc1⟩ := hx.at_ (by omega)
        obtain ⟨b2, o2, rfl, hb2, hc2⟩ := hy.at_ (by omega)
        have c1 : W.cell? ⟨b1, o1 + k, none⟩ = some (.int .i64 xs[k]) := hc1 k _ (intCells_get xs k hlt)
        have c2 : W.cell? ⟨b2, o2 + k, none⟩ = some (.int .i64 ys[k]) := hc2 k _ (intCells_get ys k hlt2)
        have i1 : (k : Int) < (xs.length : Int) := by omega
        have i2 : (k : Int) < (ys.length : Int) := by omega
        clear hc1 hc2
        by_cases e : xs[k] = ys[k]
        · have hs : Hid (xs.take (k + 1) = ys.take (k + 1)) := hide (by rw [List.take_succ_eq_append_getElem hlt, List.take_succ_eq_append_getElem hlt2, heq.out, e])
          have t1 : (xs[k] == ys[k]) = true := beq_iff_eq.2 e
          have t2 : (xs[k] != ys[k]) = false := bne_eq_false_iff_eq.2 e
          clear e
          go_wp2
          go_quiet (fail)
          go_wp2
          go_roundw
          case rel => exact ⟨k + 1, _, by omega, by go_num, hs, rfl⟩
          case measure => simp [intOf]; omega
        · have hs := hide (same_no hlt hlt2 e)
          have t1 : (xs[k] == ys[k]) = false := beq_eq_false_iff_ne.2 e
          have t2 : (xs[k] != ys[k]) = true := bne_iff_ne.2 e
          clear e
          go_wp2
          go_quiet (fail)
          go_wp2
          go_ret
          exact ⟨ret_bool (by symm; rw [decide_eq_false_iff_not]; exact hs.out), _, by rw [World.drewN_drewN]⟩
      · have e : k = xs.length := by omega
        subst e
        have hs : Hid (xs = ys) := hide (by have := heq.out; rw [List.take_length, HL.out, List.take_length] at this; exact this)
        go_wp2
        go_ret
        exact ⟨ret_bool (by symm; rw [decide_eq_true_iff]; exact hs.out), _, rfl⟩
  · have h : ((xs.length : Int) == (ys.length : Int)) = false := by rw [beq_eq_false_iff_ne]; omega
    have h' : ((xs.length : Int) != (ys.length : Int)) = true := by rw [bne_iff_ne]; omega
    have HL := hide hl
    clear hl
    go_enter Try.func14, Try.ntmps14
    go_wp2
    go_ret
    exact ⟨ret_bool (by symm; rw [decide_eq_false_iff_not]; intro e; exact HL.out (by rw [e])), 0, rfl⟩
end Go.Proofs.Ytcgecalbgkkinaa
