/- One text of: Pol3. -/
import Derived.Test.YtanfdnpnkdiiiaaGreatQPol2
namespace Go.Proofs.YtanfdnpnkdiiiaaGreat
open Go.RowKit

/-- one policy's cells -/
theorem Pol.at_ {w : World} {b o : Nat} {p : Pol} (h : CellsAt w b o p.cells) : w.cell? ⟨b, o, none⟩ = some (.int .i64 p.r) ∧ w.cell? ⟨b, o + 1, none⟩ = some (.int .i64 p.w) ∧ w.cell? ⟨b, o + 2, none⟩ = some (.int .i64 p.l) ∧ w.cell? ⟨b, o + 3, none⟩ = some (.int .i64 p.b) :=
  ⟨h 0 _ rfl, h 1 _ rfl, h 2 _ rfl, h 3 _ rfl⟩
theorem aw10a : admits 1 [⟨1000, 1, 0, 0⟩] = true := by decide
theorem aw10b : admits 1 [⟨1000, 1, 0, 0⟩, ⟨1000, 1, 0, 0⟩] = false := by decide
theorem aw10c : (load [⟨1000, 1, 0, 0⟩] == 16777216) = true := by decide
def pick (k n : Int) : Int := if n < 1 then 0 else k % n
theorem pick_bd (k n : Int) (h : 1 ≤ n) : 0 ≤ pick k n ∧ pick k n < n := by
  unfold pick
  rw [if_neg (by omega)]
  exact ⟨Int.emod_nonneg _ (by omega), Int.emod_lt_of_pos _ (by omega)⟩
theorem tmod_emod {k n : Int} (h : 1 ≤ n) : (if k.tmod n < 0 then k.tmod n + n else k.tmod n) = k % n := by
  have h1 := Int.emod_nonneg k (show n ≠ 0 by omega)
  have h2 := Int.emod_lt_of_pos k (show 0 < n by omega)
  rw [Int.tmod_eq_emod]
  have e : ((n.natAbs : Nat) : Int) = n := by omega
  by_cases c : 0 ≤ k ∨ n ∣ k
  · simp only [if_pos c]; rw [if_neg (by omega)]; omega
  · simp only [if_neg c]; rw [e, if_pos (by omega)]; omega
theorem tmod_bd (k : Int) {n : Int} (h : 1 ≤ n) : -n < k.tmod n ∧ k.tmod n < n := ⟨Int.lt_tmod_of_pos k (by omega), Int.tmod_lt_of_pos k (by omega)⟩
theorem nums_calls (p : Pol) (W : World) :
    Calls Tryz.prog 51 #[.agg #[.int .i64 p.r, .int .i64 p.w, .int .i64 p.l, .int .i64 p.b]] W fun e w' => e = .returned (.slice (some ⟨W.heap.size + 1, 0, none⟩) 4 4) ∧
      Reads w' w'.heap.size 1 (some ⟨W.heap.size + 1, 0, none⟩) 4 p.cells ∧ Below W.heap.size W w' := by
  go_enter Tryz.func51, Tryz.ntmps51
  go_wp2
  go_ret
  exact ⟨rfl, by exact Reads.new (by simp) (by simp) rfl, ((Below.refl _ _).alloc (Nat.le_refl _) _).alloc (by simp) _⟩
def intCells (xs : List Int) : List Value := xs.map (Value.int .i64)
theorem intCells_get (xs : List Int) (k : Nat) (h : k < xs.length) : (intCells xs)[k]? = some (.int .i64 xs[k]) := by
  simp [intCells, h]
set_option maxHeartbeats 1000000 in
theorem from_four (a b c d : Int) (A : Option Addr) (cp : Nat) (W : World) (hr : Reads W W.heap.size 1 A 4 (intCells [a, b, c, d])) (ok : Bool) (hok : right a b c d = ok) :
    Calls Tryz.prog 42 #[.slice A 4 cp] W fun e w' => e = .returned (.tuple #[.agg #[.int .i64 (if ok then a else 0), .int .i64 (if ok then b else 0), .int .i64 (if ok then c else 0), .int .i64 (if ok then d else 0)], .bool ok]) ∧ Below W.heap.size W w' := by
  obtain ⟨x, o, rfl, hB, hcell⟩ := hr.at_ (by omega)
  have c0 : W.cell? ⟨x, o, none⟩ = some (.int .i64 a) := hcell 0 _ rfl
  have c1 : W.cell? ⟨x, o + 1, none⟩ = some (.int .i64 b) := hcell 1 _ rfl
  have c2 : W.cell? ⟨x, o + 2, none⟩ = some (.int .i64 c) := hcell 2 _ rfl
  have c3 : W.cell? ⟨x, o + 3, none⟩ = some (.int .i64 d) := hcell 3 _ rfl
  have hx : x < W.heap.size := hB
  clear hcell hr
  go_enter Tryz.func42, Tryz.ntmps42
  go_wp2
  go_region_held3 (fun w' => w'.cell? ⟨x, o, none⟩ = some (.int .i64 a) ∧ w'.cell? ⟨x, o + 1, none⟩ = some (.int .i64 b) ∧ w'.cell? ⟨x, o + 2, none⟩ = some (.int .i64 c) ∧ w'.cell? ⟨x, o + 3, none⟩ = some (.int .i64 d)) (first | go_keep) (fail)
  go_wp2_with fail
  refine (right_calls _ _ _ _ _).mono ?_
  rintro e w1 ⟨rfl, hb1⟩
  have b1 : Below W.heap.size W w1 := (((Below.refl _ _).alloc (Nat.le_refl _) _).alloc (by simp) _).drew.trans (hb1.mono (by simp <;> omega))
  have hz1 := hb1.size
  have z1 : W.heap.size + 1 < w1.heap.size := by simp at hz1; omega
  have e0 : ∀ j, w1.cell? ⟨W.heap.size, j, none⟩ = _ := fun j => hb1.cell (p := ⟨W.heap.size, j, none⟩) (by simp <;> omega)
  have f0 : ∀ j, w1.frozen? ⟨W.heap.size, j, none⟩ = _ := fun j => hb1.frozen (p := ⟨W.heap.size, j, none⟩) (by simp <;> omega)
  have e1 : ∀ j, w1.cell? ⟨W.heap.size + 1, j, none⟩ = _ := fun j => hb1.cell (p := ⟨W.heap.size + 1, j, none⟩) (by simp)
  have g0 : w1.cell? ⟨W.heap.size, 0, none⟩ = some (.int .i64 0) := (e0 0).trans (by simp)
  have g1 : w1.cell? ⟨W.heap.size, 1, none⟩ = some (.int .i64 0) := (e0 1).trans (by simp)
  have g2 : w1.cell? ⟨W.heap.size, 2, none⟩ = some (.int .i64 0) := (e0 2).trans (by simp)
  have g3 : w1.cell? ⟨W.heap.size, 3, none⟩ = some (.int .i64 0) := (e0 3).trans (by simp)
  have k0 : w1.frozen? ⟨W.heap.size, 0, none⟩ = false := (f0 0).trans (by simp)
  have k1 : w1.frozen? ⟨W.heap.size, 1, none⟩ = false := (f0 1).trans (by simp)
  have k2 : w1.frozen? ⟨W.heap.size, 2, none⟩ = false := (f0 2).trans (by simp)
  have k3 : w1.frozen? ⟨W.heap.size, 3, none⟩ = false := (f0 3).trans (by simp)
  have i0 : w1.cell? ⟨W.heap.size + 1, 0, none⟩ = some (.int .i64 a) := (e1 0).trans (by simp)
  have i1 : w1.cell? ⟨W.heap.size + 1, 1, none⟩ = some (.int .i64 b) := (e1 1).trans (by simp)
  have i2 : w1.cell? ⟨W.heap.size + 1, 2, none⟩ = some (.int .i64 c) := (e1 2).trans (by simp)
  have i3 : w1.cell? ⟨W.heap.size + 1, 3, none⟩ = some (.int .i64 d) := (e1 3).trans (by simp)
  clear e0 f0 e1 hz1 hb1 c0 c1 c2 c3
  cases ok with
  | true =>
    go_wp2
    exact bodyPost_ret (v := .tuple #[.agg #[.int .i64 a, .int .i64 b, .int .i64 c, .int .i64 d], .bool true]) (by simp [results, Tryz.results42, go_sem, *]) rfl
      ⟨rfl, by repeat (first | exact b1 | refine Below.setCell ?_ (by simp) _)⟩
  | false =>
    go_wp2
    exact bodyPost_ret (v := .tuple #[.agg #[.int .i64 0, .int .i64 0, .int .i64 0, .int .i64 0], .bool false]) (by simp [results, Tryz.results42, go_sem, *]) rfl
      ⟨rfl, by repeat (first | exact b1 | refine Below.setCell ?_ (by simp) _)⟩
set_option maxHeartbeats 1000000 in
theorem from_len (n : Nat) (hn : n ≠ 4) (A : Option Addr) (cp : Nat) (W : World) :
    Calls Tryz.prog 42 #[.slice A n cp] W fun e w' => e = .returned (.tuple #[.agg #[.int .i64 0, .int .i64 0, .int .i64 0, .int .i64 0], .bool false]) ∧ Below W.heap.size W w' := by
  have h : ((n : Int) == 4) = false := by rw [beq_eq_false_iff_ne]; omega
  have h' : ((n : Int) != 4) = true := by rw [bne_iff_ne]; omega
  go_enter Tryz.func42, Tryz.ntmps42
  go_wp2
  exact bodyPost_ret (v := .tuple #[.agg #[.int .i64 0, .int .i64 0, .int .i64 0, .int .i64 0], .bool false]) (by simp [results, Tryz.results42, go_sem, *]) rfl
      ⟨rfl, by repeat (first | exact (Below.refl _ _).alloc (Nat.le_refl _) _ | refine Below.setCell ?_ (by simp) _)⟩

theorem same_no {xs ys : List Int} {k : Nat} (hx : k < xs.length) (hy : k < ys.length) (h : xs[k] ≠ ys[k]) : xs ≠ ys := by
  intro e; subst e; exact h rfl
end Go.Proofs.YtanfdnpnkdiiiaaGreat
