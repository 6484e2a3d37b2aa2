/- One text of: Place2. -/
import Derived.Lib.SliceRun
import Derived.Test.YtanfdnpnkdiiiaaGreatQPlace
namespace Go.Proofs.YtanfdnpnkdiiiaaGreat
open Go.RowKit Go.Proofs
set_option linter.unusedVariables false

theorem Tryz.infoLd : (Tryz.prog.info? 113).map (fun i => (i.zero, i.size, i.bytes)) = some (some (.agg #[.int .i64 0, .int .i64 0]), 2, 16) := by kernel_rfl
theorem ldCells_length (xs : List Ld) : (ldCells xs).length = xs.length * 2 := flat_length Ld.cells 2 (fun _ => rfl) xs
theorem ldCells_one (es : List Ld) : ∀ u ∈ ldCells es, u.oneCell' = true := by
  intro u hu
  obtain ⟨e, _, h⟩ := List.mem_flatMap.1 hu
  simp [Ld.cells] at h
  rcases h with rfl | rfl <;> rfl
theorem flat_at (xs : List Ld) (j : Nat) (hj : j < xs.length * 2) : (ldCells xs)[j]? = some (Sort.flatK Ld.cells 2 xs.toArray)[j]! := by
  have e : j = j / 2 * 2 + j % 2 := by omega
  have hk : j / 2 < xs.length := by omega
  rw [Sort.get_flatK _ _ _ _ (by simpa using hj)]
  have h := ldCells_get xs (j / 2) (j % 2) hk (by omega)
  rw [← e] at h
  rw [h]
  have hx : xs.toArray[j / 2]! = xs[j / 2] := by simp [hk]
  rw [hx]
  rcases (show j % 2 = 0 ∨ j % 2 = 1 by omega) with h2 | h2 <;> rw [h2] <;> rfl
theorem holdsLd {w : World} {g n cap : Nat} {xs : List Ld} (h : w.ownsRow 0 113 2 (.slice (some ⟨g, 0, none⟩) n cap) n (ldCells xs)) (hn : xs.length = n) : Sort.HoldsK Ld.cells 2 w g 0 xs.toArray := by
  intro j hj
  have hj' : j < n * 2 := by simpa [hn] using hj
  rw [Nat.zero_add]
  refine ⟨?_, h.frozenAt j⟩
  rw [h.cellAt j hj', flat_at xs j (by omega)]
  rfl
theorem readsLd {w : World} {g n : Nat} {xs : List Ld} (h : Sort.HoldsK Ld.cells 2 w g 0 xs.toArray) (hg : g < w.heap.size) (hn : xs.length = n) : Reads w w.heap.size 2 (some ⟨g, 0, none⟩) n (ldCells xs) := by
  refine ⟨by rw [ldCells_length, hn], fun _ => ⟨g, 0, rfl, hg, fun j u hu => ?_⟩⟩
  have hj : j < xs.length * 2 := by have := (List.getElem?_eq_some_iff.1 hu).1; rw [ldCells_length] at this; exact this
  have := (h j (by simpa using hj)).1
  rw [this]
  rw [flat_at xs j hj] at hu
  exact hu
theorem sortW_chg (w : World) (g m : Nat) (d : Array Ld) (os : Array Obj) : Chg [g] w (sortWorldK Ld.cells 2 w g 0 m d os) := by
  refine ⟨rfl, rfl, rfl, size_sortWorldK_c _ _ _ _ _ _ _ _, fun k hk hn => ?_⟩
  have hne : g ≠ k := fun e => hn (by simp [e])
  simp [sortWorldK, Sort.grow, Sort.putRowK, Sort.putRow, Sort.mapBlock, Sort.ahead, Array.getElem?_append, hk, Array.getElem_modify, hne]
/-- a new slice of ints -/
def OutInts (w w' : World) (e : Ending) (L : List Int) : Prop :=
  ∃ A' cap', e = .returned (.slice A' L.length cap') ∧ L.length ≤ cap' ∧ w'.ownsRow 0 3 1 (.slice A' L.length cap') L.length (L.map (Value.int .i64)) ∧ (∀ g, A'.map Addr.block = some g → w.heap.size ≤ g) ∧ Below w.heap.size w w'
def IntsInv (w : World) (L : List Int) (v i : Value) (wr : World) (k : Nat) : Prop :=
  ∃ A' cap', v = .slice A' k cap' ∧ i = .int .i64 k ∧ k ≤ L.length ∧ wr.ownsRow 0 3 1 (.slice A' k cap') k ((L.take k).map (Value.int .i64)) ∧ (∀ g, A'.map Addr.block = some g → w.heap.size ≤ g) ∧ Below w.heap.size w wr
theorem IntsInv.start (w wr : World) (L : List Int) (h : Below w.heap.size w wr) : IntsInv w L (.slice none 0 0) (.int .i64 0) wr 0 :=
  ⟨none, 0, rfl, rfl, Nat.zero_le _, ⟨rfl, Or.inl ⟨rfl, rfl⟩⟩, (fun g hg => by cases hg), h⟩
theorem IntsInv.below {w wr wr' : World} {L : List Int} {v i : Value} {k : Nat} (h : IntsInv w L v i wr k) (hb : Below wr.heap.size wr wr') : IntsInv w L v i wr' k := by
  obtain ⟨A', cap', hv, hi, hk, ho, hg, hbw⟩ := h
  exact ⟨A', cap', hv, hi, hk, own_chg ho (Chg.of_below (L := []) hb) (fun _ _ hx => by cases hx), hg, hbw.trans (hb.mono hbw.size)⟩
theorem IntsInv.push {w w1 w2 : World} {L : List Int} {A' : Option Addr} {k n cap' : Nat} {i : Value} {x : Int} {g cap2 : Nat} (h : IntsInv w L (.slice A' k cap') i w1 k) (hk : k < L.length) (hx : L[k] = x) (hn : k + 1 = n)
    (hown2 : w2.ownsRow 0 3 1 (.slice (some ⟨g, 0, none⟩) n cap2) n ((L.take k).map (Value.int .i64) ++ [.int .i64 x])) (hch : Chg (A'.map Addr.block).toList w1 w2) (hor : A'.map Addr.block = some g ∨ w1.heap.size ≤ g) {z : Int} (hz : z = n) :
    IntsInv w L (.slice (some ⟨g, 0, none⟩) n cap2) (.int .i64 z) w2 n := by
  subst hz hn
  obtain ⟨B', c', hv, hi, _, ho, hg, hbw⟩ := h
  cases hv
  refine ⟨some ⟨g, 0, none⟩, cap2, rfl, rfl, by omega, ?_, ?_, Chg.onto hbw hbw.size hch fun z hz => hg z (by simpa using hz)⟩
  · rw [List.take_succ_eq_append_getElem hk, List.map_append, hx]; exact hown2
  · intro z hz
    obtain rfl : g = z := by simpa using hz
    rcases hor with hor | hor
    · exact hg g hor
    · exact Nat.le_trans hbw.size hor
theorem IntsInv.out {w wr : World} {L : List Int} {v i : Value} {k : Nat} {most : Int} (h : IntsInv w L v i wr k) (h2 : (k : Int) ≤ max most 0) (h3 : most ≤ k ∨ L.length ≤ k) : OutInts w wr (.returned v) (L.take most.toNat) := by
  obtain ⟨A', cap', rfl, _, hk, ho, hg, hb⟩ := h
  have e : L.take most.toNat = L.take k := by
    rcases h3 with h3 | h3
    · rw [show most.toNat = k by omega]
    · rw [List.take_of_length_le h3, List.take_of_length_le (by omega)]
  have hl : (L.take k).length = k := by rw [List.length_take]; omega
  have hc := own_view ho
  obtain ⟨A2, c2, e2, h5, _⟩ := hc
  cases e2
  rw [e]
  exact ⟨A', cap', by rw [hl], by rw [hl]; exact h5, by rw [hl]; exact ho, hg, hb⟩
theorem OutInts.back {w w2 w' : World} {e : Ending} {L : List Int} (h : OutInts w2 w' e L) (hb : Below w.heap.size w w2) : OutInts w w' e L := by
  obtain ⟨A', c', he, hl, ho, hg, hb2⟩ := h
  exact ⟨A', c', he, hl, ho, fun g h => Nat.le_trans hb.size (hg g h), hb.trans (hb2.mono hb.size)⟩
/-- who is chosen -/
def chosen (xs : List Ld) (copies : Int) : List Int := ((sortLd xs).map Ld.id).take copies.toNat
theorem Tryz.infoInt2 : (Tryz.prog.info? 3).map (fun i => (i.zero, i.size, i.bytes)) = some (some (.int .i64 0), 1, 8) := by kernel_rfl
end Go.Proofs.YtanfdnpnkdiiiaaGreat
