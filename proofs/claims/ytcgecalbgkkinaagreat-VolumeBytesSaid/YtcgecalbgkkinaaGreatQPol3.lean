/- One text of: Pol3. -/
import Derived.Test.YtcgecalbgkkinaaGreatQPol2
namespace Go.Proofs.YtcgecalbgkkinaaGreat
open Go.RowKit

/-- one policy's cells -/
theorem Pol.at_ {w : World} {b o : Nat} {p : Pol} (h : CellsAt w b o p.cells) : w.cell? ⟨b, o, none⟩ = some (.int .i64 p.r) ∧ w.cell? ⟨b, o + 1, none⟩ = some (.int .i64 p.w) ∧ w.cell? ⟨b, o + 2, none⟩ = some (.int .i64 p.l) ∧ w.cell? ⟨b, o + 3, none⟩ = some (.int .i64 p.b) :=
  ⟨h 0 _ rfl, h 1 _ rfl, h 2 _ rfl, h 3 _ rfl⟩
def pick (k n : Int) : Int := if n < 1 then 0 else k % n
theorem nums_calls (p : Pol) (W : World) :
    Calls Tryz.prog 38 #[.agg #[.int .i64 p.r, .int .i64 p.w, .int .i64 p.l, .int .i64 p.b]] W fun e w' => e = .returned (.slice (some ⟨W.heap.size + 1, 0, none⟩) 4 4) ∧
      Reads w' w'.heap.size 1 (some ⟨W.heap.size + 1, 0, none⟩) 4 p.cells ∧ Below W.heap.size W w' := by
  go_enter Tryz.func38, Tryz.ntmps38
  go_wp2
  go_ret
  exact ⟨rfl, by exact Reads.new (by simp) (by simp) rfl, ((Below.refl _ _).alloc (Nat.le_refl _) _).alloc (by simp) _⟩
def intCells (xs : List Int) : List Value := xs.map (Value.int .i64)
theorem intCells_get (xs : List Int) (k : Nat) (h : k < xs.length) : (intCells xs)[k]? = some (.int .i64 xs[k]) := by
  simp [intCells, h]
set_option maxHeartbeats 1000000 in
theorem from_four (a b c d : Int) (A : Option Addr) (cp : Nat) (W : World) (hr : Reads W W.heap.size 1 A 4 (intCells [a, b, c, d])) (ok : Bool) (hok : right a b c d = ok) :
    Calls Tryz.prog 42 #[.slice A 4 cp] W fun e w' => e = .returned (.tuple #[.agg #[.int .i64 (if ok then a else 0), .int .i64 (if ok then b else 0), .int .i64 (if ok then c else 0), .int .i64 (if ok then d else 0)], .bool ok]) ∧ Below W.heap.size W w' := by
  obtain ⟨x, o, rfl, hB, hcell⟩ := hr.at_ (by omega)
  have c0 : W.cell? ⟨x, o, none⟩ = some (.int .i64 a) := hcell 0 _ rfl
  have c1 : W.cell? ⟨x, o + 1, none⟩ = some (.int .i64 b) := hcell 1 _ rfl
  have c2 : W.cell? ⟨x, o + 2, none⟩ = some (.int .i64 c) := hcell 2 _ rfl
  have c3 : W.cell? ⟨x, o + 3, none⟩ = some (.int .i64 d) := hcell 3 _ rfl
  have hx : x < W.heap.size := hB
  clear hcell hr
  go_enter Tryz.func42, Tryz.ntmps42
  go_wp2
  go_region_held3 (fun w' => w'.cell? ⟨x, o, none⟩ = some (.int .i64 a) ∧ w'.cell? ⟨x, o + 1, none⟩ = some (.int .i64 b) ∧ w'.cell? ⟨x, o + 2, none⟩ = some (.int .i64 c) ∧ w'.cell? ⟨x, o + 3, none⟩ = some (.int .i64 d)) (first | go_keep) (fail)
  go_wp2_with fail
  refine (right_calls _ _ _ _ _).mono ?_
  rintro e w1 ⟨rfl, hb1⟩
  have b1 : Below W.heap.size W w1 := (((Below.refl _ _).alloc (Nat.le_refl _) _).alloc (by simp) _).drew.trans (hb1.mono (by simp <;> omega))
  have hz1 := hb1.size
  have z1 : W.heap.size + 1 < w1.heap.size := by simp at hz1; omega
  have e0 : ∀ j, w1.cell? ⟨W.heap.size, j, none⟩ = _ := fun j => hb1.cell (p := ⟨W.heap.size, j, none⟩) (by simp <;> omega)
  have f0 : ∀ j, w1.frozen? ⟨W.heap.size, j, none⟩ = _ := fun j => hb1.frozen (p := ⟨W.heap.size, j, none⟩) (by simp <;> omega)
  have e1 : ∀ j, w1.cell? ⟨W.heap.size + 1, j, none⟩ = _ := fun j => hb1.cell (p := ⟨W.heap.size + 1, j, none⟩) (by simp)
  have g0 : w1.cell? ⟨W.heap.size, 0, none⟩ = some (.int .i64 0) := (e0 0).trans (by simp)
  have g1 : w1.cell? ⟨W.heap.size, 1, none⟩ = some (.int .i64 0) := (e0 1).trans (by simp)
  have g2 : w1.cell? ⟨W.heap.size, 2, none⟩ = some (.int .i64 0) := (e0 2).trans (by simp)
  have g3 : w1.cell? ⟨W.heap.size, 3, none⟩ = some (.int .i64 0) := (e0 3).trans (by simp)
  have k0 : w1.frozen? ⟨W.heap.size, 0, none⟩ = false := (f0 0).trans (by simp)
  have k1 : w1.frozen? ⟨W.heap.size, 1, none⟩ = false := (f0 1).trans (by simp)
  have k2 : w1.frozen? ⟨W.heap.size, 2, none⟩ = false := (f0 2).trans (by simp)
  have k3 : w1.frozen? ⟨W.heap.size, 3, none⟩ = false := (f0 3).trans (by simp)
  have i0 : w1.cell? ⟨W.heap.size + 1, 0, none⟩ = some (.int .i64 a) := (e1 0).trans (by simp)
  have i1 : w1.cell? ⟨W.heap.size + 1, 1, none⟩ = some (.int .i64 b) := (e1 1).trans (by simp)
  have i2 : w1.cell? ⟨W.heap.size + 1, 2, none⟩ = some (.int .i64 c) := (e1 2).trans (by simp)
  have i3 : w1.cell? ⟨W.heap.size + 1, 3, none⟩ = some (.int .i64 d) := (e1 3).trans (by simp)
  clear e0 f0 e1 hz1 hb1 c0 c1 c2 c3
  cases ok with
  | true =>
    go_wp2
    exact bodyPost_ret (v := .tuple #[.agg #[.int .i64 a, .int .i64 b, .int .i64 c, .int .i64 d], .bool true]) (by simp [results, Tryz.results42, go_sem, *]) rfl
      ⟨rfl, by repeat (first | exact b1 | refine Below.setCell ?_ (by simp) _)⟩
  | false =>
    go_wp2
    exact bodyPost_ret (v := .tuple #[.agg #[.int .i64 0, .int .i64 0, .int .i64 0, .int .i64 0], .bool false]) (by simp [results, Tryz.results42, go_sem, *]) rfl
      ⟨rfl, by repeat (first | exact b1 | refine Below.setCell ?_ (by simp) _)⟩
theorem same_no {xs ys : List Int} {k : Nat} (hx : k < xs.length) (hy : k < ys.length) (h : xs[k] ≠ ys[k]) : xs ≠ ys := by
  intro e; subst e; exact h rfl
set_option maxHeartbeats 1000000 in
theorem sameInts_calls (xs ys : List Int) (A B : Option Addr) (c d : Nat) (W : World) (hx : Reads W W.heap.size 1 A xs.length (intCells xs)) (hy : Reads W W.heap.size 1 B ys.length (intCells ys)) (hlx : xs.length ≤ 4611686018427387904) (hly : ys.length ≤ 4611686018427387904) :
    Calls Tryz.prog 70 #[.slice A xs.length c, .slice B ys.length d] W fun e w' => e = .returned (.bool (decide (xs = ys))) ∧ ∃ n, w' = W.drewN n := by
  by_cases hl : xs.length = ys.length
  · have h : ((xs.length : Int) == (ys.length : Int)) = true := by rw [beq_iff_eq]; omega
    have h' : ((xs.length : Int) != (ys.length : Int)) = false := by rw [bne_eq_false_iff_eq]; omega
    have HL := hide hl
    clear hl
    go_enter Tryz.func70, Tryz.ntmps70
    go_wp2
    go_loopw [5] (fun i wr => ∃ k n : Nat, k ≤ xs.length ∧ i = .int .i64 k ∧ Hid (xs.take k = ys.take k) ∧ wr = W.drewN n) (fun i _ => xs.length - (intOf i).toNat)
    case atStart => exact ⟨0, 0, by omega, rfl, hide rfl, rfl⟩
    case round =>
      obtain ⟨k, n, hk, rfl, heq, rfl⟩ := hrel
      by_cases hlt : k < xs.length
      · have hlt2 : k < ys.length := by rw [← HL.out]; exact hlt
        obtain ⟨b1, o1, rfl, hb1, hc1⟩ := hx.at_ (by omega)
        obtain ⟨b2, o2, rfl, hb2, hc2⟩ := hy.at_ (by omega)
        have c1 : W.cell? ⟨b1, o1 + k, none⟩ = some (.int .i64 xs[k]) := hc1 k _ (intCells_get xs k hlt)
        have c2 : W.cell? ⟨b2, o2 + k, none⟩ = some (.int .i64 ys[k]) := hc2 k _ (intCells_get ys k hlt2)
        have i1 : (k : Int) < (xs.length : Int) := by omega
        have i2 : (k : Int) < (ys.length : Int) := by omega
        clear hc1 hc2
        by_cases e : xs[k] = ys[k]
        · have hs : Hid (xs.take (k + 1) = ys.take (k + 1)) := hide (by rw [List.take_succ_eq_append_getElem hlt, List.take_succ_eq_append_getElem hlt2, heq.out, e])
          have t1 : (xs[k] == ys[k]) = true := beq_iff_eq.2 e
          have t2 : (xs[k] != ys[k]) = false := bne_eq_false_iff_eq.2 e
          clear e
          go_wp2
          go_quiet (fail)
          go_wp2
          go_roundw
          case rel => exact ⟨k + 1, _, by omega, by go_num, hs, rfl⟩
          case measure => simp [intOf]; omega
        · have hs := hide (same_no hlt hlt2 e)
          have t1 : (xs[k] == ys[k]) = false := beq_eq_false_iff_ne.2 e
          have t2 : (xs[k] != ys[k]) = true := bne_iff_ne.2 e
          clear e
          go_wp2
          go_quiet (fail)
          go_wp2
          go_ret
          exact ⟨ret_bool (by symm; rw [decide_eq_false_iff_not]; exact hs.out), _, by rw [World.drewN_drewN]⟩
      · have e : k = xs.length := by omega
        subst e
        have hs : Hid (xs = ys) := hide (by have := heq.out; rw [List.take_length, HL.out, List.take_length] at this; exact this)
        go_wp2
        go_ret
        exact ⟨ret_bool (by symm; rw [decide_eq_true_iff]; exact hs.out), _, rfl⟩
  · have h : ((xs.length : Int) == (ys.length : Int)) = false := by rw [beq_eq_false_iff_ne]; omega
    have h' : ((xs.length : Int) != (ys.length : Int)) = true := by rw [bne_iff_ne]; omega
    have HL := hide hl
    clear hl
    go_enter Tryz.func70, Tryz.ntmps70
    go_wp2
    go_ret
    exact ⟨ret_bool (by symm; rw [decide_eq_false_iff_not]; intro e; exact HL.out (by rw [e])), 0, rfl⟩
end Go.Proofs.YtcgecalbgkkinaaGreat
