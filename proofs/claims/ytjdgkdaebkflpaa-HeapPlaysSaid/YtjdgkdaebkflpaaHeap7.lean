/- The walks through Least, Len, Key; the document's example for layer 9. -/
import Derived.Test.YtjdgkdaebkflpaaHeap6
namespace Go.Proofs.Ytjdgkdaebkflpaa
open Go.RowKit Go.Proofs Go.Maps
set_option linter.unusedVariables false

theorem HeapAt.cell0 {w : World} {p : Nat} {L : List Ld} {F : List Nat} (h : HeapAt w p L F) : ∃ A cap, Blk w p 55 [.slice A L.length cap, (w.cell? ⟨p, 1, none⟩).getD undef] ∧ w.ownsRow 0 92 2 (.slice A L.length cap) L.length (ldCells L) ∧ HeapOk L := by
  rcases h with ⟨hb, rfl, rfl⟩ | ⟨A, cap, bm, f, h, hf, ho, rfl⟩
  · exact ⟨none, 0, by rw [hb.cell 1]; exact hb, ⟨rfl, Or.inl ⟨rfl, rfl⟩⟩, HeapOk.nil⟩
  · exact ⟨A, cap, by rw [h.blk.cell 1]; exact h.blk, h.own, ho⟩
theorem HeapAt.c0 {w : World} {p : Nat} {L : List Ld} {F : List Nat} (h : HeapAt w p L F) : ∃ A cap, w.cell? ⟨p, 0, none⟩ = some (.slice A L.length cap) ∧ w.ownsRow 0 92 2 (.slice A L.length cap) L.length (ldCells L) ∧ HeapOk L := by
  obtain ⟨A, cap, hb, ho, hk⟩ := h.cell0
  exact ⟨A, cap, hb.cell 0, ho, hk⟩
set_option maxHeartbeats 1000000 in
theorem hleast_none (p : Nat) (F : List Nat) (w : World) (h : HeapAt w p [] F) :
    Calls Try.prog 29 #[.pointer (some ⟨p, 0, none⟩)] w fun e w' => e = .returned (.tuple #[.int .i64 0, .int .i64 0, .bool false]) ∧ w = w' := by
  obtain ⟨A, cap, c0, ho, _⟩ := h.c0
  rw [List.length_nil] at c0
  clear h ho
  go_enter Try.func29, Try.ntmps29
  go_wp2
  go_ret3
  exact ⟨rfl, rfl⟩
set_option maxHeartbeats 1000000 in
theorem hleast_some (p : Nat) (L : List Ld) (F : List Nat) (w : World) (h : HeapAt w p L F) (hl : 0 < L.length) :
    Calls Try.prog 29 #[.pointer (some ⟨p, 0, none⟩)] w fun e w' => e = .returned (.tuple #[.int .i64 (gt L 0).id, .int .i64 (gt L 0).n, .bool true]) ∧ ∃ n, w' = w.drewN n := by
  obtain ⟨A, cap, c0, ho, _⟩ := h.c0
  obtain ⟨g, rfl⟩ : ∃ g, A = some ⟨g, 0, none⟩ := by
    rcases ho.2 with ⟨e, _⟩ | ⟨g, cp, cur, e, _⟩
    · injection e with e1 e2 e3; omega
    · injection e with e1 e2 e3; exact ⟨g, e1⟩
  have y0 : w.cell? ⟨g, 0, none⟩ = some (.int .i64 (gt L 0).id) := by
    have := (ho.cellAt 0 (by omega)).trans (ldCells_get L 0 0 hl (by omega))
    rw [gt_get hl]; exact this
  have y1 : w.cell? ⟨g, 1, none⟩ = some (.int .i64 (gt L 0).n) := by
    have := (ho.cellAt 1 (by omega)).trans (ldCells_get L 0 1 hl (by omega))
    rw [gt_get hl]; exact this
  have i1 : ¬ ((L.length : Int) = 0) := by omega
  have i2 : (0 : Int) < L.length := by omega
  obtain ⟨y, hy⟩ : ∃ y, gt L 0 = y := ⟨_, rfl⟩
  rw [hy] at y0 y1 ⊢
  clear h ho hy
  go_enter Try.func29, Try.ntmps29
  go_wp2
  go_quiet (fail)
  go_wp2
  go_ret3
  exact ⟨rfl, _, rfl⟩
set_option maxHeartbeats 1000000 in
theorem hlen_calls (p : Nat) (L : List Ld) (F : List Nat) (w : World) (h : HeapAt w p L F) :
    Calls Try.prog 38 #[.pointer (some ⟨p, 0, none⟩)] w fun e w' => e = .returned (.int .i64 L.length) ∧ w = w' := by
  obtain ⟨A, cap, c0, ho, _⟩ := h.c0
  clear h ho
  go_enter Try.func38, Try.ntmps38
  go_wp2
  go_ret
  exact ⟨rfl, rfl⟩
theorem setL_perm {L M : List Ld} (x : Ld) (h : L.Perm M) : (setL L x).Perm (setL M x) := (h.filter _).append_right _
theorem gt0_of {L : List Ld} {x : Ld} (ho : HeapOk L) (hx : x ∈ L) (hle : ∀ y ∈ L, ldLt y x = false) : gt L 0 = x := by
  have hl : 0 < L.length := List.length_pos_of_mem hx
  obtain ⟨j, hj, rfl⟩ := List.mem_iff_getElem.1 hx
  have h1 := ho.least j hj
  have h2 := hle _ (gt_mem hl)
  rw [gt_get hj] at h1
  rw [ldLt_no] at h1 h2
  exact ld_ext (by omega) (by omega)
set_option maxHeartbeats 1000000 in
theorem awake09_calls (w : World) : Calls Try.prog 27 #[] w fun e w' => e = .returned (.bool true) ∧ Below w.heap.size w w' := by
  have R0 := (Below.refl w.heap.size w).alloc (Nat.le_refl _) (.cells [Value.slice none 0 0, .map none].toArray 55)
  have A0 : HeapAt (w.alloc (.cells [Value.slice none 0 0, .map none].toArray 55)) w.heap.size [] [w.heap.size] := Or.inl ⟨Blk.new rfl, rfl, rfl⟩
  have k5 : i64ok 5 := by unfold i64ok; omega
  have k3 : i64ok 3 := by unfold i64ok; omega
  go_enter Try.func27, Try.ntmps27
  go_wp2_with fail
  refine (set_calls w.heap.size [] [w.heap.size] ⟨5, 9⟩ _ A0 (fun y hy => by cases hy) k5 (by simp)).mono ?_
  rintro e w1 ⟨rfl, L1, F1, A1, p1, ch1, g1⟩
  have R1 : Below w.heap.size w w1 := Chg.onto R0 R0.size ch1 (fun z hz => by rw [List.mem_singleton.1 hz]; exact Nat.le_refl _)
  have p1' : L1.Perm [⟨5, 9⟩] := p1
  have g1' : ∀ z ∈ F1, w.heap.size ≤ z := fun z hz => by
    rcases g1 z hz with h | h
    · rw [List.mem_singleton.1 h]; exact Nat.le_refl _
    · have := R0.size; omega
  have ids1 : ∀ y ∈ L1, i64ok y.id := fun y hy => by rw [List.mem_singleton.1 (p1'.subset hy)]; exact k5
  have l1 : L1.length = 1 := p1'.length_eq
  clear A0 R0 ch1 g1 p1
  go_wp2_with fail
  refine (set_calls w.heap.size L1 F1 ⟨3, 9⟩ _ A1 ids1 k3 (by omega)).mono ?_
  rintro e w2 ⟨rfl, L2, F2, A2, p2, ch2, g2⟩
  have R2 : Below w.heap.size w w2 := Chg.onto R1 R1.size ch2 g1'
  have p2' : L2.Perm [⟨5, 9⟩, ⟨3, 9⟩] := p2.trans (setL_perm _ p1')
  have l2 : L2.length = 2 := p2'.length_eq
  obtain ⟨_, _, _, _, ho⟩ := A2.c0
  have hg : gt L2 0 = ⟨3, 9⟩ := gt0_of ho (p2'.symm.subset (by simp)) (fun y hy => by
    have := p2'.subset hy
    simp at this
    rcases this with rfl | rfl <;> decide)
  clear A1 R1 ch2 g2 p2 p1' ids1 l1 ho p2'
  go_wp2_with fail
  refine (hleast_some w.heap.size L2 F2 _ A2 (by omega)).mono ?_
  rintro e w3 ⟨rfl, q, hw3⟩
  rw [hg]
  have A3 : HeapAt w3 w.heap.size L2 F2 := by
    rw [hw3]
    rcases A2 with ⟨hb, hl, hf⟩ | ⟨A, cap, bm, f, h, hf, ho, hF⟩
    · exact Or.inl ⟨hb, hl, hf⟩
    · exact Or.inr ⟨A, cap, bm, f, h.below (below_drewN (Below.refl _ _) _), hf, ho, hF⟩
  have R3 : Below w.heap.size w w3 := by rw [hw3]; exact below_drewN R2 _
  clear A2 R2 hw3 hg
  go_wp2_with fail
  refine (hlen_calls w.heap.size L2 F2 _ A3).mono ?_
  rintro e w4 ⟨rfl, rfl⟩
  rw [l2]
  go_wp2
  go_ret
  exact ⟨rfl, R3⟩
set_option maxHeartbeats 1000000 in
theorem hkey_yes (p : Nat) (L : List Ld) (F : List Nat) (i : Nat) (w : World) (h : HeapAt w p L F) (hi : i < L.length) (hx : i64ok (gt L i).id) (hn : L.length ≤ 1000000) :
    Calls Try.prog 42 #[.pointer (some ⟨p, 0, none⟩), .int .i64 (gt L i).id] w fun e w' => e = .returned (.tuple #[.int .i64 (gt L i).n, .bool true]) ∧ ∃ n, w' = w.drewN n := by
  rcases h with ⟨_, hl, _⟩ | ⟨A, cap, bm, f, h, hf, _, _⟩
  · rw [hl] at hi; simp at hi
  · obtain ⟨g, rfl⟩ := h.some (by omega)
    have c0 : w.cell? ⟨p, 0, none⟩ = some (.slice (some ⟨g, 0, none⟩) L.length cap) := h.blk.cell 0
    have c1 : w.cell? ⟨p, 1, none⟩ = some (.map (some bm)) := h.blk.cell 1
    have lk := h.map.look_ok hx
    rw [hf.2.1 i hi] at lk
    simp only [Option.getD_some, Option.isSome_some] at lk
    have y1 : w.cell? ⟨g, i * 2 + 1, none⟩ = some (.int .i64 (gt L i).n) := by
      have := (h.own.cellAt (i * 2 + 1) (by omega)).trans (ldCells_get L i 1 hi (by omega))
      rw [gt_get hi]; exact this
    have i1 : (i : Int) < L.length := by omega
    obtain ⟨y, hy⟩ : ∃ y, gt L i = y := ⟨_, rfl⟩
    rw [hy] at y1 lk ⊢
    clear h hf hy hx
    go_enter Try.func42, Try.ntmps42
    go_wp2
    go_ret2
    exact ⟨rfl, 0, rfl⟩
set_option maxHeartbeats 1000000 in
theorem hkey_no (p : Nat) (L : List Ld) (F : List Nat) (k : Int) (w : World) (h : HeapAt w p L F) (hk : i64ok k) (hno : ∀ y ∈ L, y.id ≠ k) :
    Calls Try.prog 42 #[.pointer (some ⟨p, 0, none⟩), .int .i64 k] w fun e w' => e = .returned (.tuple #[.int .i64 0, .bool false]) ∧ w = w' := by
  obtain ⟨m, c1, lk⟩ : ∃ m, w.cell? ⟨p, 1, none⟩ = some (.map m) ∧ (Instr.lookup 53 (.map m) (.int .i64 k) true).run Try.prog w = .ok (.tuple #[.int .i64 0, .bool false]) w := by
    rcases h with ⟨hb, _, _⟩ | ⟨A, cap, bm, f, h, hf, _, _⟩
    · refine ⟨none, hb.cell 1, ?_⟩
      exact Maps.look_nil true law Try.underlying53 (zeroE w) (keyOf_int_mk Try.underlying3 hk.wf)
    · refine ⟨some bm, h.blk.cell 1, ?_⟩
      have lk := h.map.look_ok hk
      have : f k = none := by
        cases e : f k with
        | none => rfl
        | some z =>
          obtain ⟨i, hi, _, he⟩ := hf.at e
          exact absurd he (hno _ (gt_mem hi))
      rw [this] at lk
      exact lk
  clear h hno
  go_enter Try.func42, Try.ntmps42
  go_wp2
  go_ret2
  exact ⟨rfl, rfl⟩
end Go.Proofs.Ytjdgkdaebkflpaa
