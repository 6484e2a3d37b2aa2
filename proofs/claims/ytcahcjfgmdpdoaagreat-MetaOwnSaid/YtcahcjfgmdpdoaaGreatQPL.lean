/- One text of: Place Place2. -/
import Derived.Test.YtcahcjfgmdpdoaaGreatSort
import Derived.Lib.SliceRun
import Derived.Test.YtcahcjfgmdpdoaaGreatQP0
import Derived.Test.YtcahcjfgmdpdoaaGreatQRG
set_option maxHeartbeats 1000000
namespace Go.Proofs.YtcahcjfgmdpdoaaGreat
open Go.RowKit Go.Proofs Go.Lib
set_option linter.unusedVariables false

theorem cmp_calls (x y : Int) (w : World) : Calls Tryz.prog 158 #[.int .i64 x, .int .i64 y] w fun e w' => e = .returned (.int .i64 (Lib.compareInt x y)) ∧ w = w' :=
 (AnyG.cmp_Compare_int Go.Proofs.YtcahcjfgmdpdoaaGreat.cmpInt x y w).mono fun _ _ ⟨h, hw⟩ => ⟨h, hw.symm⟩
def orL (x y : Int) : Int := if x = 0 then y else x
theorem or_calls (b : Nat) (x y : Int) (w : World) (c0 : w.cell? ⟨b, 0, none⟩ = some (.int .i64 x)) (c1 : w.cell? ⟨b, 1, none⟩ = some (.int .i64 y)) : Calls Tryz.prog 157 #[.slice (some ⟨b, 0, none⟩) 2 2] w fun e w' => e = .returned (.int .i64 (orL x y)) ∧ w = w' := by
 go_enter Tryz.func157, Tryz.ntmps157
 go_wp2
 go_loop [8] (fun i => ∃ k : Nat, k ≤ 2 ∧ i = .int .i64 k ∧ (0 < k → x = 0) ∧ (1 < k → y = 0)) (fun i => 2 - (intOf i).toNat)
 case atStart => exact ⟨0, by omega, rfl, by omega, by omega⟩
 case round =>
  obtain ⟨k, hk, rfl, h1, h2⟩ := hrel
  rcases (show k = 0 ∨ k = 1 ∨ k = 2 by omega) with rfl | rfl | rfl
  ·by_cases hx : x = 0
   ·have hx' : (x != 0) = false := by simp [hx]
    have HX := hide hx; clear hx h1 h2; go_wp2
    go_round
    case rel => exact ⟨1, by omega, rfl, fun _ => HX.out, fun h => absurd h (by omega)⟩
    case measure => simp [intOf]
   ·have hx' : (x != 0) = true := by simp [hx]
    have HX := hide hx; clear hx h1 h2; go_wp2; go_ret
    exact ⟨ret_int (by unfold orL; rw [if_neg HX.out]), rfl⟩
  ·have hx := h1 (by omega)
   have HX := hide hx
   by_cases hy : y = 0
   ·have hy' : (y != 0) = false := by simp [hy]
    have HY := hide hy; clear hx hy h1 h2; go_wp2
    go_round
    case rel => exact ⟨2, by omega, rfl, fun _ => HX.out, fun _ => HY.out⟩
    case measure => simp [intOf]
   ·have hy' : (y != 0) = true := by simp [hy]
    clear hx hy h1 h2; go_wp2; go_ret
    exact ⟨ret_int (by unfold orL; rw [if_pos HX.out]), rfl⟩
  ·have hx := hide (h1 (by omega))
   have hy := hide (h2 (by omega)); clear h1 h2; go_wp2; go_ret
   exact ⟨ret_int (by unfold orL; rw [if_pos hx.out, hy.out]), rfl⟩
theorem grow3 (W : World) (a b c : Obj) : (((W.alloc a).alloc b).alloc c).drew = Sort.grow (W.drewN 1) #[a, b, c] := by
 rw [Sort.alloc_eq_grow, Sort.alloc_eq_grow, Sort.alloc_eq_grow, Sort.grow_grow, Sort.grow_grow]; rfl
def cmpLd (x y : Ld) : Int := orL (Lib.compareInt x.n y.n) (Lib.compareInt x.id y.id)
theorem cmp_facts (x y : Int) : (Lib.compareInt x y < 0 ↔ x < y) ∧ (Lib.compareInt x y = 0 ↔ x = y) ∧ (0 < Lib.compareInt x y ↔ y < x) := by
 unfold Lib.compareInt
 by_cases h1 : x < y
 ·simp [h1]; omega
 ·by_cases h2 : y < x
  ·simp [h1, h2]; omega
  ·simp [h1, h2]; omega
def ldLt (x y : Ld) : Bool := decide (x.n < y.n ∨ (x.n = y.n ∧ x.id < y.id))
theorem ldLt_eq : ltOf cmpLd = ldLt := by
 funext x y
 unfold ltOf cmpLd ldLt orL; obtain ⟨a1, a2, a3⟩ := cmp_facts x.n y.n; obtain ⟨b1, b2, b3⟩ := cmp_facts x.id y.id
 by_cases h : Lib.compareInt x.n y.n = 0
 ·rw [if_pos h]
  have := a2.1 h
  by_cases h2 : x.id < y.id
  ·rw [decide_eq_true (b1.2 h2), decide_eq_true (Or.inr ⟨this, h2⟩)]
  ·rw [decide_eq_false (fun h3 => h2 (b1.1 h3)), decide_eq_false (by omega)]
 ·rw [if_neg h]
  have : x.n ≠ y.n := fun h2 => h (a2.2 h2)
  by_cases h2 : x.n < y.n
  ·rw [decide_eq_true (a1.2 h2), decide_eq_true (Or.inl h2)]
  ·rw [decide_eq_false (fun h3 => h2 (a1.1 h3)), decide_eq_false (by omega)]
theorem ldLt_iff {x y : Ld} : ldLt x y = true ↔ (x.n < y.n ∨ (x.n = y.n ∧ x.id < y.id)) := by simp [ldLt]
theorem ldLt_no {x y : Ld} : ldLt x y = false ↔ ¬ (x.n < y.n ∨ (x.n = y.n ∧ x.id < y.id)) := by simp [ldLt]
theorem ld_ext {x y : Ld} (h1 : x.id = y.id) (h2 : x.n = y.n) : x = y := by cases x; cases y; simp_all
theorem swoLd : Sort.SWO (ltOf cmpLd) where
 irrefl x := by rw [ldLt_eq, ldLt_no]; omega
 trans x y z h1 h2 := by rw [ldLt_eq, ldLt_iff] at *; omega
 ntrans x y z h1 h2 := by rw [ldLt_eq, ldLt_no] at *; omega
theorem totLd (x y : Ld) (h1 : (ltOf cmpLd) x y = false) (h2 : (ltOf cmpLd) y x = false) : x = y := by
 rw [ldLt_eq, ldLt_no] at h1 h2
 exact ld_ext (by omega) (by omega)
def sortLd (xs : List Ld) : List Ld := xs.mergeSort fun x y => !ldLt y x
instance : Inhabited Ld := ⟨⟨0, 0⟩⟩
end Go.Proofs.YtcahcjfgmdpdoaaGreat

namespace Go.Proofs.YtcahcjfgmdpdoaaGreat
open Go.RowKit Go.Proofs
set_option linter.unusedVariables false

theorem Tryz.infoLd : (Tryz.prog.info? 83).map (fun i => (i.zero, i.size, i.bytes)) = some (some (.agg #[.int .i64 0, .int .i64 0]), 2, 16) := by kernel_rfl
theorem ldCells_length (xs : List Ld) : (ldCells xs).length = xs.length * 2 := flat_length Ld.cells 2 (fun _ => rfl) xs
theorem flat_at (xs : List Ld) (j : Nat) (hj : j < xs.length * 2) : (ldCells xs)[j]? = some (Sort.flatK Ld.cells 2 xs.toArray)[j]! := by
 have e : j = j / 2 * 2 + j % 2 := by omega
 have hk : j / 2 < xs.length := by omega
 rw [Sort.get_flatK _ _ _ _ (by simpa using hj)]; have h := ldCells_get xs (j / 2) (j % 2) hk (by omega); rw [← e] at h; rw [h]
 have hx : xs.toArray[j / 2]! = xs[j / 2] := by simp [hk]
 rw [hx]
 rcases (show j % 2 = 0 ∨ j % 2 = 1 by omega) with h2 | h2 <;> rw [h2] <;> rfl
theorem holdsLd {w : World} {g n cap : Nat} {xs : List Ld} (h : w.ownsRow 0 83 2 (.slice (some ⟨g, 0, none⟩) n cap) n (ldCells xs)) (hn : xs.length = n) : Sort.HoldsK Ld.cells 2 w g 0 xs.toArray := by
 intro j hj
 have hj' : j < n * 2 := by simpa [hn] using hj
 rw [Nat.zero_add]
 refine ⟨?_, h.frozenAt j⟩
 rw [h.cellAt j hj', flat_at xs j (by omega)]
 rfl
theorem readsLd {w : World} {g n : Nat} {xs : List Ld} (h : Sort.HoldsK Ld.cells 2 w g 0 xs.toArray) (hg : g < w.heap.size) (hn : xs.length = n) : Reads w w.heap.size 2 (some ⟨g, 0, none⟩) n (ldCells xs) := by
 refine ⟨by rw [ldCells_length, hn], fun _ => ⟨g, 0, rfl, hg, fun j u hu => ?_⟩⟩
 have hj : j < xs.length * 2 := by have := (List.getElem?_eq_some_iff.1 hu).1; rw [ldCells_length] at this; exact this
 have := (h j (by simpa using hj)).1; rw [this]; rw [flat_at xs j hj] at hu
 exact hu
theorem sortW_chg (w : World) (g m : Nat) (d : Array Ld) (os : Array Obj) : Chg [g] w (sortWorldK Ld.cells 2 w g 0 m d os) := by
 refine ⟨rfl, rfl, rfl, size_sortWorldK_c _ _ _ _ _ _ _ _, fun k hk hn => ?_⟩
 have hne : g ≠ k := fun e => hn (by simp [e])
 simp [sortWorldK, Sort.grow, Sort.putRowK, Sort.putRow, Sort.mapBlock, Sort.ahead, Array.getElem?_append, hk, Array.getElem_modify, hne]
def OutInts (w w' : World) (e : Ending) (L : List Int) : Prop :=
 ∃ A' cap', e = .returned (.slice A' L.length cap') ∧ L.length ≤ cap' ∧ w'.ownsRow 0 3 1 (.slice A' L.length cap') L.length (L.map (Value.int .i64)) ∧ (∀ g, A'.map Addr.block = some g → w.heap.size ≤ g) ∧ Below w.heap.size w w'
def IntsInv (w : World) (L : List Int) (v i : Value) (wr : World) (k : Nat) : Prop :=
 ∃ A' cap', v = .slice A' k cap' ∧ i = .int .i64 k ∧ k ≤ L.length ∧ wr.ownsRow 0 3 1 (.slice A' k cap') k ((L.take k).map (Value.int .i64)) ∧ (∀ g, A'.map Addr.block = some g → w.heap.size ≤ g) ∧ Below w.heap.size w wr
theorem IntsInv.start (w wr : World) (L : List Int) (h : Below w.heap.size w wr) : IntsInv w L (.slice none 0 0) (.int .i64 0) wr 0 :=
 ⟨none, 0, rfl, rfl, Nat.zero_le _, ⟨rfl, Or.inl ⟨rfl, rfl⟩⟩, (fun g hg => by cases hg), h⟩
theorem IntsInv.below {w wr wr' : World} {L : List Int} {v i : Value} {k : Nat} (h : IntsInv w L v i wr k) (hb : Below wr.heap.size wr wr') : IntsInv w L v i wr' k := by
 obtain ⟨A', cap', hv, hi, hk, ho, hg, hbw⟩ := h
 exact ⟨A', cap', hv, hi, hk, own_chg ho (Chg.of_below (L := []) hb) (fun _ _ hx => by cases hx), hg, hbw.trans (hb.mono hbw.size)⟩
theorem IntsInv.push {w w1 w2 : World} {L : List Int} {A' : Option Addr} {k n cap' : Nat} {i : Value} {x : Int} {g cap2 : Nat} (h : IntsInv w L (.slice A' k cap') i w1 k) (hk : k < L.length) (hx : L[k] = x) (hn : k + 1 = n)
  (hown2 : w2.ownsRow 0 3 1 (.slice (some ⟨g, 0, none⟩) n cap2) n ((L.take k).map (Value.int .i64) ++ [.int .i64 x])) (hch : Chg (A'.map Addr.block).toList w1 w2) (hor : A'.map Addr.block = some g ∨ w1.heap.size ≤ g) {z : Int} (hz : z = n) :
  IntsInv w L (.slice (some ⟨g, 0, none⟩) n cap2) (.int .i64 z) w2 n := by
 subst hz hn; obtain ⟨B', c', hv, hi, _, ho, hg, hbw⟩ := h
 cases hv
 refine ⟨some ⟨g, 0, none⟩, cap2, rfl, rfl, by omega, ?_, ?_, Chg.onto hbw hbw.size hch fun z hz => hg z (by simpa using hz)⟩
 ·rw [List.take_succ_eq_append_getElem hk, List.map_append, hx]; exact hown2
 ·intro z hz
  obtain rfl : g = z := by simpa using hz
  rcases hor with hor | hor
  ·exact hg g hor
  ·exact Nat.le_trans hbw.size hor
theorem IntsInv.out {w wr : World} {L : List Int} {v i : Value} {k : Nat} {most : Int} (h : IntsInv w L v i wr k) (h2 : (k : Int) ≤ max most 0) (h3 : most ≤ k ∨ L.length ≤ k) : OutInts w wr (.returned v) (L.take most.toNat) := by
 obtain ⟨A', cap', rfl, _, hk, ho, hg, hb⟩ := h
 have e : L.take most.toNat = L.take k := by
  rcases h3 with h3 | h3
  ·rw [show most.toNat = k by omega]
  ·rw [List.take_of_length_le h3, List.take_of_length_le (by omega)]
 have hl : (L.take k).length = k := by rw [List.length_take]; omega
 have hc := own_view ho; obtain ⟨A2, c2, e2, h5, _⟩ := hc
 cases e2
 rw [e]
 exact ⟨A', cap', by rw [hl], by rw [hl]; exact h5, by rw [hl]; exact ho, hg, hb⟩
theorem OutInts.back {w w2 w' : World} {e : Ending} {L : List Int} (h : OutInts w2 w' e L) (hb : Below w.heap.size w w2) : OutInts w w' e L := by
 obtain ⟨A', c', he, hl, ho, hg, hb2⟩ := h
 exact ⟨A', c', he, hl, ho, fun g h => Nat.le_trans hb.size (hg g h), hb.trans (hb2.mono hb.size)⟩
def chosen (xs : List Ld) (copies : Int) : List Int := ((sortLd xs).map Ld.id).take copies.toNat
end Go.Proofs.YtcahcjfgmdpdoaaGreat
