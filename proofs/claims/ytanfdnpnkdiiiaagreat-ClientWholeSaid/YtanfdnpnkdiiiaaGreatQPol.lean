/- One text of: Pol. -/
import Derived.Deep.RegionHeld3
import Derived.Test.YtanfdnpnkdiiiaaGreatQFix
import Derived.Test.YtanfdnpnkdiiiaaGreatQBase
namespace Go.Proofs.YtanfdnpnkdiiiaaGreat
open Go.RowKit

structure Pol where
  r : Int
  w : Int
  l : Int
  b : Int
def Pol.cells (p : Pol) : List Value := [.int .i64 p.r, .int .i64 p.w, .int .i64 p.l, .int .i64 p.b]
def within (n low high : Int) : Bool := decide (low ≤ n ∧ n ≤ high)
def right (r w l b : Int) : Bool := decide (0 ≤ r ∧ r ≤ 1048576 ∧ 0 ≤ l ∧ l ≤ 1048576 ∧ (l = 0 ∨ r ≤ l) ∧ 1 ≤ w ∧ w ≤ 1024 ∧ 0 ≤ b ∧ b ≤ 1024)
theorem right_iff {r w l b : Int} : right r w l b = true ↔ (0 ≤ r ∧ r ≤ 1048576 ∧ 0 ≤ l ∧ l ≤ 1048576 ∧ (l = 0 ∨ r ≤ l) ∧ 1 ≤ w ∧ w ≤ 1024 ∧ 0 ≤ b ∧ b ≤ 1024) := by simp [right]

set_option maxHeartbeats 400000 in
theorem within_calls (a b c : Int) (w : World) :
    Calls Tryz.prog 87 #[.int .i64 a, .int .i64 b, .int .i64 c] w fun e w' => e = .returned (.bool (within a b c)) ∧ w = w' := by
  go_enter Tryz.func87, Tryz.ntmps87
  go_wp2
  all_goals (go_ret; exact ⟨ret_bool (by unfold within; grind), rfl⟩)
set_option maxHeartbeats 1000000 in
theorem right_calls (r w l b : Int) (W : World) :
    Calls Tryz.prog 72 #[.agg #[.int .i64 r, .int .i64 w, .int .i64 l, .int .i64 b]] W fun e w' => e = .returned (.bool (right r w l b)) ∧ Below W.heap.size W w' := by
  go_enter Tryz.func72, Tryz.ntmps72
  go_wp2_with (go_at_call 87; with_reducible refine (within_calls _ _ _ _).mono ?_; rintro e w' ⟨rfl, rfl⟩)
  all_goals (go_ret; exact ⟨ret_bool (by simp only [within, right, decide_eq_true_eq] at *; grind), (Below.refl _ _).alloc (Nat.le_refl _) _⟩)
def polCells (ps : List Pol) : List Value := ps.flatMap Pol.cells
theorem polCells_length (ps : List Pol) : (polCells ps).length = ps.length * 4 := by
  induction ps with
  | nil => rfl
  | cons p ps ih => simp only [polCells, List.flatMap_cons, List.length_append] at ih ⊢; rw [ih]; simp [Pol.cells]; omega
theorem polCells_get (ps : List Pol) (k j : Nat) (hk : k < ps.length) (hj : j < 4) : (polCells ps)[k * 4 + j]? = ps[k].cells[j]? := by
  induction ps generalizing k with
  | nil => simp at hk
  | cons p ps ih =>
    have hl : p.cells.length = 4 := rfl
    cases k with
    | zero =>
      simp only [polCells, List.flatMap_cons, Nat.zero_mul, Nat.zero_add, List.getElem_cons_zero]
      rw [List.getElem?_append_left (by omega)]
    | succ k =>
      have := ih k (by simpa using hk)
      simp only [polCells, List.flatMap_cons, List.getElem_cons_succ] at this ⊢
      rw [List.getElem?_append_right (by omega), hl, show (k + 1) * 4 + j - 4 = k * 4 + j by omega, this]
def load (ps : List Pol) : Int := (ps.map fun p => share (space p.r)).sum
theorem share_bd (s : Int) : 0 ≤ share s ∧ share s ≤ 1099511627777 := by
  unfold share
  by_cases h : s < 1
  · rw [if_pos h]; decide
  · have := part_bd (s := s) (by omega)
    rw [if_neg h]; omega
theorem load_step (ps : List Pol) (k : Nat) (h : k < ps.length) : load (ps.take (k + 1)) = load (ps.take k) + share (space ps[k].r) := by
  unfold load
  rw [List.take_succ_eq_append_getElem h, List.map_append, List.sum_append]; simp
theorem load_bd (ps : List Pol) : 0 ≤ load ps ∧ load ps ≤ ps.length * 1099511627777 := by
  induction ps with
  | nil => simp [load]
  | cons p ps ih =>
    have := share_bd (space p.r)
    simp only [load, List.map_cons, List.sum_cons, List.length_cons] at ih ⊢
    rw [Int.natCast_add, Int.add_mul]
    omega
theorem load_take_bd (ps : List Pol) (k : Nat) (hn : ps.length ≤ 4096) : 0 ≤ load (ps.take k) ∧ load (ps.take k) ≤ 4503599631470592 := by
  have h := load_bd (ps.take k)
  have : (ps.take k).length ≤ 4096 := by rw [List.length_take]; omega
  omega

set_option maxHeartbeats 1000000 in
theorem load_calls (ps : List Pol) (A : Option Addr) (c : Nat) (W : World) (hr : Reads W W.heap.size 4 A ps.length (polCells ps)) (hn : ps.length ≤ 4096) :
    Calls Tryz.prog 88 #[.slice A ps.length c] W fun e w' => e = .returned (.int .i64 (load ps)) ∧ Below W.heap.size W w' := by
  go_enter Tryz.func88, Tryz.ntmps88
  go_wp2
  go_loopw [3, 8] (fun s i wr => ∃ k : Nat, k ≤ ps.length ∧ i = .int .i64 k ∧ s = .int .i64 (load (ps.take k)) ∧ Below W.heap.size W wr) (fun _ i _ => ps.length - (intOf i).toNat)
  case atStart => exact ⟨0, by omega, rfl, rfl, Below.refl _ _⟩
  case round =>
    obtain ⟨k, hk, rfl, rfl, hb⟩ := hrel
    by_cases hlt : k < ps.length
    · obtain ⟨b, o, rfl, hbB, hcell⟩ := (hr.below hb).at_ (by omega)
      have c0 : wr.cell? ⟨b, o + k * 4, none⟩ = some (.int .i64 ps[k].r) := hcell _ _ (polCells_get ps k 0 hlt (by omega))
      have c1 : wr.cell? ⟨b, o + k * 4 + 1, none⟩ = some (.int .i64 ps[k].w) := hcell _ _ (polCells_get ps k 1 hlt (by omega))
      have c2 : wr.cell? ⟨b, o + k * 4 + 2, none⟩ = some (.int .i64 ps[k].l) := hcell _ _ (polCells_get ps k 2 hlt (by omega))
      have c3 : wr.cell? ⟨b, o + k * 4 + 3, none⟩ = some (.int .i64 ps[k].b) := hcell _ _ (polCells_get ps k 3 hlt (by omega))
      have lb := load_take_bd ps k hn
      have sb := share_bd (space ps[k].r)
      have HS := hide (load_step ps k hlt)
      go_wp2_with (first | (go_at_call 102; with_reducible refine (space_calls _ _).mono ?_; rintro e w' ⟨rfl, rfl⟩) | (go_at_call 101; with_reducible refine (share_calls _ _).mono ?_; rintro e w' ⟨rfl, nq, rfl⟩))
      go_roundw
      case rel => exact ⟨k + 1, by omega, by go_num, by rw [HS.out], below_drewN (hb.alloc hb.size _) _⟩
      case measure => simp [intOf]; omega
    · have e : k = ps.length := by omega
      subst e
      go_wp2
      go_ret
      exact ⟨ret_int (by rw [List.take_length]), hb⟩
end Go.Proofs.YtanfdnpnkdiiiaaGreat
