/- One text of: Plain Fix Pol Pol2 Fair Load Pol3. -/
import Derived.Test.YtcahcjfgmdpdoaaGreatRows
import Derived.Deep.QuietTactic
import Derived.BigQuiet
import Derived.Deep.RegionHeld3
import Derived.WalkMore
import Derived.Deep.LoopGhost
import Derived.Outline
import Derived.Test.YtcahcjfgmdpdoaaGreatQBase
set_option maxHeartbeats 1000000
namespace Go.Proofs.YtcahcjfgmdpdoaaGreat

def hold (n : Int) : Int := if n < 0 then 0 else if n > 2305843009213693952 then 2305843009213693952 else n
def add (a b : Int) : Int := hold (hold a + hold b)
def times (a n : Int) : Int := if hold n > 0 ∧ hold a > 2305843009213693952 / hold n then 2305843009213693952 else hold a * hold n
def at_ (t : Int) : Int := times 65536 t
def isRate (n : Int) : Bool := decide (1 ≤ n ∧ n ≤ 1048576)
def space (r : Int) : Int := if isRate r = true then 65536000 / r else 0
def wide (r : Int) : Int := if isRate r = true then (65536000 + r - 1) / r else 0
def share (s : Int) : Int := if s < 1 then 0 else 1099511627776 / s + min (1099511627776 % s) 1
theorem isRate_yes {r : Int} (h : isRate r = true) : 1 ≤ r ∧ r ≤ 1048576 := by simpa [isRate] using h
end Go.Proofs.YtcahcjfgmdpdoaaGreat

namespace Go.Proofs.YtcahcjfgmdpdoaaGreat
open Go.RowKit

theorem isRate_calls (a : Int) (w : World) :
  Calls Tryz.prog 159 #[.int .i64 a] w fun e w' => e = .returned (.bool (isRate a)) ∧ w = w' := by
 go_enter Tryz.func159, Tryz.ntmps159
 go_wp2
 all_goals (go_ret; exact ⟨ret_bool (by unfold isRate; grind), rfl⟩)
theorem space_calls (a : Int) (w : World) :
  Calls Tryz.prog 146 #[.int .i64 a] w fun e w' => e = .returned (.int .i64 (space a)) ∧ w = w' := by
 cases h : isRate a with
 |false =>
  go_enter Tryz.func146, Tryz.ntmps146
  go_wp2_with (go_at_call 159; with_reducible refine (isRate_calls _ _).mono ?_; rintro e w' ⟨rfl, rfl⟩)
  go_ret
  exact ⟨ret_int (by simp [space, h]), rfl⟩
 |true =>
  have := isRate_yes h
  go_enter Tryz.func146, Tryz.ntmps146
  go_wp2_with (go_at_call 159; with_reducible refine (isRate_calls _ _).mono ?_; rintro e w' ⟨rfl, rfl⟩)
  go_ret
  exact ⟨ret_int (by simp [space, h]), rfl⟩
theorem part_bd {s : Int} (h : 1 ≤ s) : 0 ≤ 1099511627776 / s ∧ 1099511627776 / s ≤ 1099511627776 ∧ 0 ≤ 1099511627776 % s ∧ 1099511627776 % s < s := by
 exact ⟨Int.ediv_nonneg (by decide) (by omega), Int.ediv_le_self _ (by decide), Int.emod_nonneg _ (by omega), Int.emod_lt_of_pos _ (by omega)⟩
theorem share_calls (a : Int) (w : World) :
  Calls Tryz.prog 145 #[.int .i64 a] w fun e w' => e = .returned (.int .i64 (share a)) ∧ ∃ n, w' = w.drewN n := by
 by_cases h : a < 1
 ·go_enter Tryz.func145, Tryz.ntmps145
  go_wp2; go_ret
  exact ⟨ret_int (by simp [share, h]), 0, rfl⟩
 ·have h' : 1 ≤ a := by omega
  have hb := part_bd h'
  go_enter Tryz.func145, Tryz.ntmps145
  go_wp2
  go_quiet (fail)
  go_wp2
  all_goals (go_ret; exact ⟨ret_int (by unfold share; grind), _, rfl⟩)

structure Pol where
 r : Int
 w : Int
 l : Int
 b : Int
def Pol.cells (p : Pol) : List Value := [.int .i64 p.r, .int .i64 p.w, .int .i64 p.l, .int .i64 p.b]
def within (n low high : Int) : Bool := decide (low ≤ n ∧ n ≤ high)
def right (r w l b : Int) : Bool := decide (0 ≤ r ∧ r ≤ 1048576 ∧ 0 ≤ l ∧ l ≤ 1048576 ∧ (l = 0 ∨ r ≤ l) ∧ 1 ≤ w ∧ w ≤ 1024 ∧ 0 ≤ b ∧ b ≤ 1024)
theorem right_iff {r w l b : Int} : right r w l b = true ↔ (0 ≤ r ∧ r ≤ 1048576 ∧ 0 ≤ l ∧ l ≤ 1048576 ∧ (l = 0 ∨ r ≤ l) ∧ 1 ≤ w ∧ w ≤ 1024 ∧ 0 ≤ b ∧ b ≤ 1024) := by simp [right]

theorem within_calls (a b c : Int) (w : World) :
  Calls Tryz.prog 113 #[.int .i64 a, .int .i64 b, .int .i64 c] w fun e w' => e = .returned (.bool (within a b c)) ∧ w = w' := by
 go_enter Tryz.func113, Tryz.ntmps113
 go_wp2
 all_goals (go_ret; exact ⟨ret_bool (by unfold within; grind), rfl⟩)
theorem right_calls (r w l b : Int) (W : World) :
  Calls Tryz.prog 105 #[.agg #[.int .i64 r, .int .i64 w, .int .i64 l, .int .i64 b]] W fun e w' => e = .returned (.bool (right r w l b)) ∧ Below W.heap.size W w' := by
 go_enter Tryz.func105, Tryz.ntmps105
 go_wp2_with (go_at_call 113; with_reducible refine (within_calls _ _ _ _).mono ?_; rintro e w' ⟨rfl, rfl⟩)
 all_goals (go_ret; exact ⟨ret_bool (by simp only [within, right, decide_eq_true_eq] at *; grind), (Below.refl _ _).alloc (Nat.le_refl _) _⟩)
def polCells (ps : List Pol) : List Value := ps.flatMap Pol.cells
theorem polCells_get (ps : List Pol) (k j : Nat) (hk : k < ps.length) (hj : j < 4) : (polCells ps)[k * 4 + j]? = ps[k].cells[j]? := by
 induction ps generalizing k with
 |nil => simp at hk
 |cons p ps ih =>
  have hl : p.cells.length = 4 := rfl
  cases k with
  |zero =>
   simp only [polCells, List.flatMap_cons, Nat.zero_mul, Nat.zero_add, List.getElem_cons_zero]; rw [List.getElem?_append_left (by omega)]
  |succ k =>
   have := ih k (by simpa using hk); simp only [polCells, List.flatMap_cons, List.getElem_cons_succ] at this ⊢; rw [List.getElem?_append_right (by omega), hl, show (k + 1) * 4 + j - 4 = k * 4 + j by omega, this]
def load (ps : List Pol) : Int := (ps.map fun p => share (space p.r)).sum
theorem share_bd (s : Int) : 0 ≤ share s ∧ share s ≤ 1099511627777 := by
 unfold share
 by_cases h : s < 1
 ·rw [if_pos h]; decide
 ·have := part_bd (s := s) (by omega)
  rw [if_neg h]; omega
theorem load_step (ps : List Pol) (k : Nat) (h : k < ps.length) : load (ps.take (k + 1)) = load (ps.take k) + share (space ps[k].r) := by
 unfold load; rw [List.take_succ_eq_append_getElem h, List.map_append, List.sum_append]; simp
theorem load_bd (ps : List Pol) : 0 ≤ load ps ∧ load ps ≤ ps.length * 1099511627777 := by
 induction ps with
 |nil => simp [load]
 |cons p ps ih =>
  have := share_bd (space p.r); simp only [load, List.map_cons, List.sum_cons, List.length_cons] at ih ⊢; rw [Int.natCast_add, Int.add_mul]
  omega
theorem load_take_bd (ps : List Pol) (k : Nat) (hn : ps.length ≤ 4096) : 0 ≤ load (ps.take k) ∧ load (ps.take k) ≤ 4503599631470592 := by
 have h := load_bd (ps.take k)
 have : (ps.take k).length ≤ 4096 := by rw [List.length_take]; omega
 omega

theorem load_calls (ps : List Pol) (A : Option Addr) (c : Nat) (W : World) (hr : Reads W W.heap.size 4 A ps.length (polCells ps)) (hn : ps.length ≤ 4096) :
  Calls Tryz.prog 114 #[.slice A ps.length c] W fun e w' => e = .returned (.int .i64 (load ps)) ∧ Below W.heap.size W w' := by
 go_enter Tryz.func114, Tryz.ntmps114
 go_wp2
 go_loopw [3, 8] (fun s i wr => ∃ k : Nat, k ≤ ps.length ∧ i = .int .i64 k ∧ s = .int .i64 (load (ps.take k)) ∧ Below W.heap.size W wr) (fun _ i _ => ps.length - (intOf i).toNat)
 case atStart => exact ⟨0, by omega, rfl, rfl, Below.refl _ _⟩
 case round =>
  obtain ⟨k, hk, rfl, rfl, hb⟩ := hrel
  by_cases hlt : k < ps.length
  ·obtain ⟨b, o, rfl, hbB, hcell⟩ := (hr.below hb).at_ (by omega)
   have c0 : wr.cell? ⟨b, o + k * 4, none⟩ = some (.int .i64 ps[k].r) := hcell _ _ (polCells_get ps k 0 hlt (by omega)); have c1 : wr.cell? ⟨b, o + k * 4 + 1, none⟩ = some (.int .i64 ps[k].w) := hcell _ _ (polCells_get ps k 1 hlt (by omega)); have c2 : wr.cell? ⟨b, o + k * 4 + 2, none⟩ = some (.int .i64 ps[k].l) := hcell _ _ (polCells_get ps k 2 hlt (by omega)); have c3 : wr.cell? ⟨b, o + k * 4 + 3, none⟩ = some (.int .i64 ps[k].b) := hcell _ _ (polCells_get ps k 3 hlt (by omega)); have lb := load_take_bd ps k hn; have sb := share_bd (space ps[k].r); have HS := hide (load_step ps k hlt)
   go_wp2_with (first | (go_at_call 146; with_reducible refine (space_calls _ _).mono ?_; rintro e w' ⟨rfl, rfl⟩) | (go_at_call 145; with_reducible refine (share_calls _ _).mono ?_; rintro e w' ⟨rfl, nq, rfl⟩))
   go_roundw
   case rel => exact ⟨k + 1, by omega, by go_num, by rw [HS.out], below_drewN (hb.alloc hb.size _) _⟩
   case measure => simp [intOf]; omega
  ·have e : k = ps.length := by omega
   subst e; go_wp2; go_ret
   exact ⟨ret_int (by rw [List.take_length]), hb⟩

def Pol.ok (p : Pol) : Bool := right p.r p.w p.l p.b
def admits (picks : Int) (ps : List Pol) : Bool := decide (1 ≤ picks ∧ picks ≤ 64) && decide (ps.length ≤ 4096) && ps.all Pol.ok && decide (load ps ≤ picks * 16777216)
theorem all_take_step {ps : List Pol} {k : Nat} (h : k < ps.length) (ha : (ps.take k).all Pol.ok = true) (hk : ps[k].ok = true) : (ps.take (k + 1)).all Pol.ok = true := by
 rw [List.take_succ_eq_append_getElem h, List.all_append, ha]; simp [hk]
theorem all_false {ps : List Pol} {k : Nat} (h : k < ps.length) (hk : ps[k].ok = false) : ps.all Pol.ok = false := by
 rw [List.all_eq_false]
 exact ⟨ps[k], List.getElem_mem h, by simp [hk]⟩
theorem admits_no1 {picks : Int} {ps : List Pol} (h : picks < 1 ∨ 64 < picks) : admits picks ps = false := by
 have : decide (1 ≤ picks ∧ picks ≤ 64) = false := by rw [decide_eq_false_iff_not]; omega
 simp only [admits, this, Bool.false_and]
theorem admits_no2 {picks : Int} {ps : List Pol} (h : 4096 < ps.length) : admits picks ps = false := by
 have : decide (ps.length ≤ 4096) = false := by rw [decide_eq_false_iff_not]; omega
 simp only [admits, this, Bool.and_false, Bool.false_and]
theorem admits_no3 {picks : Int} {ps : List Pol} (h : ps.all Pol.ok = false) : admits picks ps = false := by simp [admits, h]
theorem admits_yes {picks : Int} {ps : List Pol} (h1 : 1 ≤ picks) (h2 : picks ≤ 64) (h3 : ps.length ≤ 4096) (h4 : ps.all Pol.ok = true) : admits picks ps = decide (load ps ≤ picks * 16777216) := by
 simp [admits, h1, h2, h3, h4]
theorem admits_calls (picks : Int) (ps : List Pol) (A : Option Addr) (c : Nat) (W : World) (hr : Reads W W.heap.size 4 A ps.length (polCells ps)) :
  Calls Tryz.prog 68 #[.int .i64 picks, .slice A ps.length c] W fun e w' => e = .returned (.bool (admits picks ps)) ∧ Below W.heap.size W w' := by
 by_cases h1 : 1 ≤ picks ∧ picks ≤ 64
 ·have hw : within picks 1 64 = true := by simp [within, h1]
  obtain ⟨p1, p2⟩ := h1
  by_cases h2 : ps.length ≤ 4096
  ·go_enter Tryz.func68, Tryz.ntmps68
   go_wp2_with (go_at_call 113; with_reducible refine (within_calls _ _ _ _).mono ?_; rintro e w' ⟨rfl, rfl⟩)
   go_loopw [17] (fun i wr => ∃ k : Nat, k ≤ ps.length ∧ i = .int .i64 k ∧ Hid ((ps.take k).all Pol.ok = true) ∧ Below W.heap.size W wr) (fun i _ => ps.length - (intOf i).toNat)
   case atStart => exact ⟨0, by omega, rfl, hide rfl, Below.refl _ _⟩
   case round =>
    obtain ⟨k, hk, rfl, hall, hb⟩ := hrel
    by_cases hlt : k < ps.length
    ·obtain ⟨b, o, rfl, hbB, hcell⟩ := (hr.below hb).at_ (by omega)
     have c0 : wr.cell? ⟨b, o + k * 4, none⟩ = some (.int .i64 ps[k].r) := hcell _ _ (polCells_get ps k 0 hlt (by omega)); have c1 : wr.cell? ⟨b, o + k * 4 + 1, none⟩ = some (.int .i64 ps[k].w) := hcell _ _ (polCells_get ps k 1 hlt (by omega)); have c2 : wr.cell? ⟨b, o + k * 4 + 2, none⟩ = some (.int .i64 ps[k].l) := hcell _ _ (polCells_get ps k 2 hlt (by omega)); have c3 : wr.cell? ⟨b, o + k * 4 + 3, none⟩ = some (.int .i64 ps[k].b) := hcell _ _ (polCells_get ps k 3 hlt (by omega))
     cases hok : right ps[k].r ps[k].w ps[k].l ps[k].b with
     |true =>
      have hs := hide (all_take_step hlt hall.out hok)
      go_wp2_with (go_at_call 105; with_reducible refine (right_calls _ _ _ _ _).mono ?_; rintro e w1 ⟨rfl, hb1⟩)
      go_roundw
      case rel => exact ⟨k + 1, by omega, by go_num, hs, (hb.alloc hb.size _).trans (hb1.mono (by simp; have := hb.size; omega))⟩
      case measure => simp [intOf]; omega
     |false =>
      have hs := hide (admits_no3 (picks := picks) (all_false hlt hok))
      go_wp2_with (go_at_call 105; with_reducible refine (right_calls _ _ _ _ _).mono ?_; rintro e w1 ⟨rfl, hb1⟩)
      go_ret
      exact ⟨ret_bool hs.out.symm, (hb.alloc hb.size _).trans (hb1.mono (by simp; have := hb.size; omega))⟩
    ·have e : k = ps.length := by omega
     subst e; rw [List.take_length] at hall; have hs := hide (admits_yes (picks := picks) p1 p2 h2 hall.out); have lb := load_bd ps; clear hlt
     go_wp2_with (go_at_call 114; with_reducible refine (load_calls ps _ _ _ ((hr.below hb).more hb.size) h2).mono ?_; rintro e w1 ⟨rfl, hb1⟩)
     go_ret
     exact ⟨ret_bool hs.out.symm, hb.trans (hb1.mono hb.size)⟩
  ·go_enter Tryz.func68, Tryz.ntmps68
   go_wp2_with (go_at_call 113; with_reducible refine (within_calls _ _ _ _).mono ?_; rintro e w' ⟨rfl, rfl⟩)
   go_ret
   exact ⟨ret_bool (admits_no2 (by omega)).symm, Below.refl _ _⟩
 ·have hw : within picks 1 64 = false := by simp [within]; omega
  go_enter Tryz.func68, Tryz.ntmps68
  go_wp2_with (go_at_call 113; with_reducible refine (within_calls _ _ _ _).mono ?_; rintro e w' ⟨rfl, rfl⟩)
  go_ret
  exact ⟨ret_bool (admits_no1 (by omega)).symm, Below.refl _ _⟩


theorem flat_length {α : Type} (f : α → List Value) (m : Nat) (hf : ∀ x, (f x).length = m) (xs : List α) : (xs.flatMap f).length = xs.length * m := by
 induction xs with
 |nil => simp
 |cons x xs ih => rw [List.flatMap_cons, List.length_append, ih, hf, List.length_cons, Nat.add_mul, Nat.one_mul, Nat.add_comm]
theorem flat_get {α : Type} (f : α → List Value) (m : Nat) (hf : ∀ x, (f x).length = m) (xs : List α) (k j : Nat) (hk : k < xs.length) (hj : j < m) : (xs.flatMap f)[k * m + j]? = (f xs[k])[j]? := by
 induction xs generalizing k with
 |nil => simp at hk
 |cons x xs ih =>
  have hl := hf x
  cases k with
  |zero =>
   simp only [List.flatMap_cons, Nat.zero_mul, Nat.zero_add, List.getElem_cons_zero]; rw [List.getElem?_append_left (by omega)]
  |succ k =>
   have := ih k (by simpa using hk); simp only [List.flatMap_cons, List.getElem_cons_succ] at this ⊢; rw [List.getElem?_append_right (by rw [hl, Nat.add_mul]; omega), hl, show (k + 1) * m + j - m = k * m + j by rw [Nat.add_mul]; omega, this]
structure Ld where
 id : Int
 n : Int
def Ld.cells (x : Ld) : List Value := [.int .i64 x.id, .int .i64 x.n]
def ldCells (xs : List Ld) : List Value := xs.flatMap Ld.cells
theorem ldCells_get (xs : List Ld) (k j : Nat) (hk : k < xs.length) (hj : j < 2) : (ldCells xs)[k * 2 + j]? = xs[k].cells[j]? :=
 flat_get Ld.cells 2 (fun _ => rfl) xs k j hk hj
def inSpan (flow from_ to : Int) (x : Ld) : Bool := decide (x.id = flow) && decide (from_ < x.n) && decide (x.n ≤ to)
def most (xs : List Ld) (flow from_ to : Int) : Nat := (xs.filter (inSpan flow from_ to)).length

theorem Pol.at_ {w : World} {b o : Nat} {p : Pol} (h : CellsAt w b o p.cells) : w.cell? ⟨b, o, none⟩ = some (.int .i64 p.r) ∧ w.cell? ⟨b, o + 1, none⟩ = some (.int .i64 p.w) ∧ w.cell? ⟨b, o + 2, none⟩ = some (.int .i64 p.l) ∧ w.cell? ⟨b, o + 3, none⟩ = some (.int .i64 p.b) :=
 ⟨h 0 _ rfl, h 1 _ rfl, h 2 _ rfl, h 3 _ rfl⟩
theorem nums_calls (p : Pol) (W : World) :
  Calls Tryz.prog 33 #[.agg #[.int .i64 p.r, .int .i64 p.w, .int .i64 p.l, .int .i64 p.b]] W fun e w' => e = .returned (.slice (some ⟨W.heap.size + 1, 0, none⟩) 4 4) ∧
   Reads w' w'.heap.size 1 (some ⟨W.heap.size + 1, 0, none⟩) 4 p.cells ∧ Below W.heap.size W w' := by
 go_enter Tryz.func33, Tryz.ntmps33
 go_wp2; go_ret
 exact ⟨rfl, by exact Reads.new (by simp) (by simp) rfl, ((Below.refl _ _).alloc (Nat.le_refl _) _).alloc (by simp) _⟩
def intCells (xs : List Int) : List Value := xs.map (Value.int .i64)
theorem from_four (a b c d : Int) (A : Option Addr) (cp : Nat) (W : World) (hr : Reads W W.heap.size 1 A 4 (intCells [a, b, c, d])) (ok : Bool) (hok : right a b c d = ok) :
  Calls Tryz.prog 53 #[.slice A 4 cp] W fun e w' => e = .returned (.tuple #[.agg #[.int .i64 (if ok then a else 0), .int .i64 (if ok then b else 0), .int .i64 (if ok then c else 0), .int .i64 (if ok then d else 0)], .bool ok]) ∧ Below W.heap.size W w' := by
 obtain ⟨x, o, rfl, hB, hcell⟩ := hr.at_ (by omega); have c0 : W.cell? ⟨x, o, none⟩ = some (.int .i64 a) := hcell 0 _ rfl; have c1 : W.cell? ⟨x, o + 1, none⟩ = some (.int .i64 b) := hcell 1 _ rfl; have c2 : W.cell? ⟨x, o + 2, none⟩ = some (.int .i64 c) := hcell 2 _ rfl; have c3 : W.cell? ⟨x, o + 3, none⟩ = some (.int .i64 d) := hcell 3 _ rfl; have hx : x < W.heap.size := hB; clear hcell hr
 go_enter Tryz.func53, Tryz.ntmps53
 go_wp2
 go_region_held3 (fun w' => w'.cell? ⟨x, o, none⟩ = some (.int .i64 a) ∧ w'.cell? ⟨x, o + 1, none⟩ = some (.int .i64 b) ∧ w'.cell? ⟨x, o + 2, none⟩ = some (.int .i64 c) ∧ w'.cell? ⟨x, o + 3, none⟩ = some (.int .i64 d)) (first | go_keep) (fail)
 go_wp2_with fail
 refine (right_calls _ _ _ _ _).mono ?_
 rintro e w1 ⟨rfl, hb1⟩; have b1 : Below W.heap.size W w1 := (((Below.refl _ _).alloc (Nat.le_refl _) _).alloc (by simp) _).drew.trans (hb1.mono (by simp <;> omega)); have hz1 := hb1.size
 have z1 : W.heap.size + 1 < w1.heap.size := by simp at hz1; omega
 have e0 : ∀ j, w1.cell? ⟨W.heap.size, j, none⟩ = _ := fun j => hb1.cell (p := ⟨W.heap.size, j, none⟩) (by simp <;> omega)
 have f0 : ∀ j, w1.frozen? ⟨W.heap.size, j, none⟩ = _ := fun j => hb1.frozen (p := ⟨W.heap.size, j, none⟩) (by simp <;> omega)
 have e1 : ∀ j, w1.cell? ⟨W.heap.size + 1, j, none⟩ = _ := fun j => hb1.cell (p := ⟨W.heap.size + 1, j, none⟩) (by simp)
 have g0 : w1.cell? ⟨W.heap.size, 0, none⟩ = some (.int .i64 0) := (e0 0).trans (by simp); have g1 : w1.cell? ⟨W.heap.size, 1, none⟩ = some (.int .i64 0) := (e0 1).trans (by simp); have g2 : w1.cell? ⟨W.heap.size, 2, none⟩ = some (.int .i64 0) := (e0 2).trans (by simp); have g3 : w1.cell? ⟨W.heap.size, 3, none⟩ = some (.int .i64 0) := (e0 3).trans (by simp); have k0 : w1.frozen? ⟨W.heap.size, 0, none⟩ = false := (f0 0).trans (by simp); have k1 : w1.frozen? ⟨W.heap.size, 1, none⟩ = false := (f0 1).trans (by simp); have k2 : w1.frozen? ⟨W.heap.size, 2, none⟩ = false := (f0 2).trans (by simp); have k3 : w1.frozen? ⟨W.heap.size, 3, none⟩ = false := (f0 3).trans (by simp); have i0 : w1.cell? ⟨W.heap.size + 1, 0, none⟩ = some (.int .i64 a) := (e1 0).trans (by simp); have i1 : w1.cell? ⟨W.heap.size + 1, 1, none⟩ = some (.int .i64 b) := (e1 1).trans (by simp); have i2 : w1.cell? ⟨W.heap.size + 1, 2, none⟩ = some (.int .i64 c) := (e1 2).trans (by simp); have i3 : w1.cell? ⟨W.heap.size + 1, 3, none⟩ = some (.int .i64 d) := (e1 3).trans (by simp); clear e0 f0 e1 hz1 hb1 c0 c1 c2 c3
 cases ok with
 |true =>
  go_wp2
  exact bodyPost_ret (v := .tuple #[.agg #[.int .i64 a, .int .i64 b, .int .i64 c, .int .i64 d], .bool true]) (by simp [results, Tryz.results53, go_sem, *]) rfl
   ⟨rfl, by repeat (first | exact b1 | refine Below.setCell ?_ (by simp) _)⟩
 |false =>
  go_wp2
  exact bodyPost_ret (v := .tuple #[.agg #[.int .i64 0, .int .i64 0, .int .i64 0, .int .i64 0], .bool false]) (by simp [results, Tryz.results53, go_sem, *]) rfl
   ⟨rfl, by repeat (first | exact b1 | refine Below.setCell ?_ (by simp) _)⟩
end Go.Proofs.YtcahcjfgmdpdoaaGreat
