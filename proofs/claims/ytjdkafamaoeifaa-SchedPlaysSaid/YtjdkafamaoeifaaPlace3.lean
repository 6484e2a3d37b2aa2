/- Who is chosen: one sorted list; the document's SameInts of what is alike; the document's example for layer 19. -/
import Derived.Test.YtjdkafamaoeifaaPlace2
import Derived.Test.YtjdkafamaoeifaaOpen
import Derived.Deep.QuietTactic
import Derived.BigQuiet
-- PARTIAL
namespace Go.Proofs.Ytjdkafamaoeifaa
open Go.ChangeShapes Go.WideShapes Go.ChangeAt Go.RowKit Go.Proofs Go.Joins
set_option linter.unusedVariables false

theorem ldLe_trans (a b c : Ld) (h1 : (!ldLt b a) = true) (h2 : (!ldLt c b) = true) : (!ldLt c a) = true := by
  simp only [Bool.not_eq_true', ldLt_no] at *
  omega
theorem ldLe_total (a b : Ld) : ((!ldLt b a) || (!ldLt a b)) = true := by
  simp only [Bool.or_eq_true, Bool.not_eq_true', ldLt_no]
  omega
theorem sortLd_sorted (xs : List Ld) : (sortLd xs).Pairwise fun a b => (!ldLt b a) = true := List.pairwise_mergeSort ldLe_trans ldLe_total xs
theorem sortLd_perm (xs : List Ld) : (sortLd xs).Perm xs := List.mergeSort_perm xs _
theorem sorted_one : ∀ {xs ys : List Ld}, xs.Perm ys → (xs.Pairwise fun a b => (!ldLt b a) = true) → (ys.Pairwise fun a b => (!ldLt b a) = true) → xs = ys
  | [], ys, hp, _, _ => hp.nil_eq
  | x :: xs, [], hp, _, _ => by have := hp.length_eq; simp at this
  | x :: xs, y :: ys, hp, h1, h2 => by
    have hxy : x = y := by
      rw [List.pairwise_cons] at h1 h2
      have hx : x ∈ y :: ys := hp.subset (List.mem_cons_self ..)
      have hy : y ∈ x :: xs := hp.symm.subset (List.mem_cons_self ..)
      rcases List.mem_cons.1 hx with e | hx
      · exact e
      · rcases List.mem_cons.1 hy with e | hy
        · exact e.symm
        · have a := h1.1 y hy
          have b := h2.1 x hx
          simp only [Bool.not_eq_true', ldLt_no] at a b
          exact ld_ext (by omega) (by omega)
    subst hxy
    rw [sorted_one (hp.cons_inv) (List.pairwise_cons.1 h1).2 (List.pairwise_cons.1 h2).2]
theorem sortLd_perm_eq {xs ys : List Ld} (h : xs.Perm ys) : sortLd xs = sortLd ys :=
  sorted_one ((sortLd_perm xs).trans (h.trans (sortLd_perm ys).symm)) (sortLd_sorted xs) (sortLd_sorted ys)
theorem sortLd_of {xs ys : List Ld} (hp : xs.Perm ys) (hs : ys.Pairwise fun a b => (!ldLt b a) = true) : sortLd xs = ys :=
  sorted_one ((sortLd_perm xs).trans hp) (sortLd_sorted xs) hs
theorem sortLd_length (xs : List Ld) : (sortLd xs).length = xs.length := (sortLd_perm xs).length_eq
theorem chosen_length (xs : List Ld) (c : Int) : (chosen xs c).length = min c.toNat xs.length := by unfold chosen; rw [List.length_take, List.length_map, sortLd_length]
theorem OutInts.view {w w' : World} {e : Ending} {L : List Int} (h : OutInts w w' e L) : ∃ A' n c', e = .returned (.slice A' n c') ∧ L.length = n ∧ n ≤ c' ∧ Reads w' w'.heap.size 1 A' n (L.map (Value.int .i64)) ∧ (∀ g, A'.map Addr.block = some g → w.heap.size ≤ g) ∧ Below w.heap.size w w' := by
  obtain ⟨A', c', he, hl, ho, hg, hb⟩ := h
  obtain ⟨A2, c2, e2, _, _, _, _, hr⟩ := own_view ho
  cases e2
  exact ⟨A', L.length, c', he, rfl, hl, hr _ (fun g hg => own_lt ho hg), hg, hb⟩
theorem Blk.reads2 {w : World} {B : Nat} {t : TypeId} {cs : List Value} (hB : Blk w B t cs) {size n : Nat} (h : cs.length = n * size) : Reads w w.heap.size size (some ⟨B, 0, none⟩) n cs :=
  ⟨h, fun _ => ⟨B, 0, rfl, hB.lt, fun j u hu => by rw [Nat.zero_add]; exact (hB.cell j).trans hu⟩⟩
theorem ex19 : chosen [⟨0, 3⟩, ⟨1, 1⟩, ⟨2, 1⟩] 2 = [1, 2] := by
  have : sortLd [⟨0, 3⟩, ⟨1, 1⟩, ⟨2, 1⟩] = [⟨1, 1⟩, ⟨2, 1⟩, ⟨0, 3⟩] := by
    refine sortLd_of ?_ (by simp [ldLt])
    exact (List.Perm.swap _ _ _).trans ((List.Perm.swap _ _ _).cons _)
  unfold chosen
  rw [this]
  rfl
end Go.Proofs.Ytjdkafamaoeifaa
