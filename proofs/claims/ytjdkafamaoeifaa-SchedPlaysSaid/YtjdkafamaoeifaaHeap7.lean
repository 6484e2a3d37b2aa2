/- The walks through Least, Len, Key; the document's example for layer 9. -/
import Derived.Test.YtjdkafamaoeifaaHeap6
-- PARTIAL
namespace Go.Proofs.Ytjdkafamaoeifaa
open Go.RowKit Go.Proofs Go.Maps
set_option linter.unusedVariables false

theorem HeapAt.c0 {w : World} {p : Pl} {L : List Ld} {F : List Nat} (h : HeapAt w p L F) : ∃ A cap, w.cell? ⟨p.b, p.o, none⟩ = some (.slice A L.length cap) ∧ w.ownsRow 0 111 2 (.slice A L.length cap) L.length (ldCells L) ∧ HeapOk L := by
  rcases h with ⟨hb, rfl, rfl⟩ | ⟨A, cap, bm, f, h, hf, ho, rfl⟩
  · exact ⟨none, 0, hb.cell0, ⟨rfl, Or.inl ⟨rfl, rfl⟩⟩, HeapOk.nil⟩
  · exact ⟨A, cap, h.blk.cell0, h.own, ho⟩
set_option maxHeartbeats 1000000 in
theorem hleast_none (p : Pl) (F : List Nat) (w : World) (h : HeapAt w p [] F) :
    Calls Try.prog 39 #[.pointer (some ⟨p.b, p.o, none⟩)] w fun e w' => e = .returned (.tuple #[.int .i64 0, .int .i64 0, .bool false]) ∧ w = w' := by
  obtain ⟨A, cap, c0, ho, _⟩ := h.c0
  rw [List.length_nil] at c0
  clear h ho
  go_enter Try.func39, Try.ntmps39
  go_wp2
  go_ret3
  exact ⟨rfl, rfl⟩
set_option maxHeartbeats 1000000 in
theorem hleast_some (p : Pl) (L : List Ld) (F : List Nat) (w : World) (h : HeapAt w p L F) (hl : 0 < L.length) :
    Calls Try.prog 39 #[.pointer (some ⟨p.b, p.o, none⟩)] w fun e w' => e = .returned (.tuple #[.int .i64 (gt L 0).id, .int .i64 (gt L 0).n, .bool true]) ∧ ∃ n, w' = w.drewN n := by
  obtain ⟨A, cap, c0, ho, _⟩ := h.c0
  obtain ⟨g, rfl⟩ : ∃ g, A = some ⟨g, 0, none⟩ := by
    rcases ho.2 with ⟨e, _⟩ | ⟨g, cp, cur, e, _⟩
    · injection e with e1 e2 e3; omega
    · injection e with e1 e2 e3; exact ⟨g, e1⟩
  have y0 : w.cell? ⟨g, 0, none⟩ = some (.int .i64 (gt L 0).id) := by
    have := (ho.cellAt 0 (by omega)).trans (ldCells_get L 0 0 hl (by omega))
    rw [gt_get hl]; exact this
  have y1 : w.cell? ⟨g, 1, none⟩ = some (.int .i64 (gt L 0).n) := by
    have := (ho.cellAt 1 (by omega)).trans (ldCells_get L 0 1 hl (by omega))
    rw [gt_get hl]; exact this
  have i1 : ¬ ((L.length : Int) = 0) := by omega
  have i2 : (0 : Int) < L.length := by omega
  obtain ⟨y, hy⟩ : ∃ y, gt L 0 = y := ⟨_, rfl⟩
  rw [hy] at y0 y1 ⊢
  clear h ho hy
  go_enter Try.func39, Try.ntmps39
  go_wp2
  go_quiet (fail)
  go_wp2
  go_ret3
  exact ⟨rfl, _, rfl⟩
theorem setL_perm {L M : List Ld} (x : Ld) (h : L.Perm M) : (setL L x).Perm (setL M x) := (h.filter _).append_right _
theorem gt0_of {L : List Ld} {x : Ld} (ho : HeapOk L) (hx : x ∈ L) (hle : ∀ y ∈ L, ldLt y x = false) : gt L 0 = x := by
  have hl : 0 < L.length := List.length_pos_of_mem hx
  obtain ⟨j, hj, rfl⟩ := List.mem_iff_getElem.1 hx
  have h1 := ho.least j hj
  have h2 := hle _ (gt_mem hl)
  rw [gt_get hj] at h1
  rw [ldLt_no] at h1 h2
  exact ld_ext (by omega) (by omega)
end Go.Proofs.Ytjdkafamaoeifaa
