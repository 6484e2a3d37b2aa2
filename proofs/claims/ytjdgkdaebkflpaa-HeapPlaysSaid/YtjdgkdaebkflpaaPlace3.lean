/- Who is chosen: one sorted list; the document's SameInts of what is alike; the document's example for layer 19. -/
import Derived.Test.YtjdgkdaebkflpaaPlace2
import Derived.Test.YtjdgkdaebkflpaaOpen
import Derived.Deep.QuietTactic
import Derived.BigQuiet
namespace Go.Proofs.Ytjdgkdaebkflpaa
open Go.ChangeShapes Go.WideShapes Go.ChangeAt Go.RowKit Go.Proofs Go.Joins
set_option linter.unusedVariables false

theorem ldLe_trans (a b c : Ld) (h1 : (!ldLt b a) = true) (h2 : (!ldLt c b) = true) : (!ldLt c a) = true := by
  simp only [Bool.not_eq_true', ldLt_no] at *
  omega
theorem ldLe_total (a b : Ld) : ((!ldLt b a) || (!ldLt a b)) = true := by
  simp only [Bool.or_eq_true, Bool.not_eq_true', ldLt_no]
  omega
theorem sortLd_sorted (xs : List Ld) : (sortLd xs).Pairwise fun a b => (!ldLt b a) = true := List.pairwise_mergeSort ldLe_trans ldLe_total xs
theorem sortLd_perm (xs : List Ld) : (sortLd xs).Perm xs := List.mergeSort_perm xs _
theorem sorted_one : ∀ {xs ys : List Ld}, xs.Perm ys → (xs.Pairwise fun a b => (!ldLt b a) = true) → (ys.Pairwise fun a b => (!ldLt b a) = true) → xs = ys
  | [], ys, hp, _, _ => hp.nil_eq
  | x :: xs, [], hp, _, _ => by have := hp.length_eq; simp at this
  | x :: xs, y :: ys, hp, h1, h2 => by
    have hxy : x = y := by
      rw [List.pairwise_cons] at h1 h2
      have hx : x ∈ y :: ys := hp.subset (List.mem_cons_self ..)
      have hy : y ∈ x :: xs := hp.symm.subset (List.mem_cons_self ..)
      rcases List.mem_cons.1 hx with e | hx
      · exact e
      · rcases List.mem_cons.1 hy with e | hy
        · exact e.symm
        · have a := h1.1 y hy
          have b := h2.1 x hx
          simp only [Bool.not_eq_true', ldLt_no] at a b
          exact ld_ext (by omega) (by omega)
    subst hxy
    rw [sorted_one (hp.cons_inv) (List.pairwise_cons.1 h1).2 (List.pairwise_cons.1 h2).2]
theorem sortLd_perm_eq {xs ys : List Ld} (h : xs.Perm ys) : sortLd xs = sortLd ys :=
  sorted_one ((sortLd_perm xs).trans (h.trans (sortLd_perm ys).symm)) (sortLd_sorted xs) (sortLd_sorted ys)
theorem sortLd_of {xs ys : List Ld} (hp : xs.Perm ys) (hs : ys.Pairwise fun a b => (!ldLt b a) = true) : sortLd xs = ys :=
  sorted_one ((sortLd_perm xs).trans hp) (sortLd_sorted xs) hs
theorem sortLd_length (xs : List Ld) : (sortLd xs).length = xs.length := (sortLd_perm xs).length_eq
theorem chosen_length (xs : List Ld) (c : Int) : (chosen xs c).length = min c.toNat xs.length := by unfold chosen; rw [List.length_take, List.length_map, sortLd_length]
set_option maxHeartbeats 1000000 in
theorem sameInts_yes (xs : List Int) (n : Nat) (A A' : Option Addr) (c c' : Nat) (w : World) (hn : xs.length = n) (h : Reads w w.heap.size 1 A n (xs.map (Value.int .i64))) (h' : Reads w w.heap.size 1 A' n (xs.map (Value.int .i64))) (hnn : n ≤ 1099511627776) :
    Calls Try.prog 33 #[.slice A n c, .slice A' n c'] w fun e w' => e = .returned (.bool true) ∧ ∃ n, w' = w.drewN n := by
  go_enter Try.func33, Try.ntmps33
  go_wp2
  go_loopw [5] (fun i wr => ∃ k q : Nat, k ≤ n ∧ i = .int .i64 k ∧ wr = w.drewN q) (fun i _ => n - (intOf i).toNat)
  case atStart => exact ⟨0, 0, Nat.zero_le _, rfl, rfl⟩
  case round =>
    obtain ⟨k, q, hk, rfl, rfl⟩ := hrel
    by_cases hlt : k < n
    · obtain ⟨b, o, rfl, _, hc⟩ := h.at_ (by omega)
      obtain ⟨b', o', rfl, _, hc'⟩ := h'.at_ (by omega)
      have hkx : k < xs.length := by omega
      have g := hc k (.int .i64 xs[k]) (by simp [hkx])
      have g' := hc' k (.int .i64 xs[k]) (by simp [hkx])
      have i1 : (k : Int) < n := by omega
      obtain ⟨x, hx⟩ : ∃ x, xs[k] = x := ⟨_, rfl⟩
      rw [hx] at g g'
      have HN := hide hn
      clear hc hc' hx h h' hn
      go_wp2
      go_quiet (fail)
      go_wp2
      go_roundw
      case rel => exact ⟨k + 1, _, by omega, by go_num, rfl⟩
      case measure => simp [intOf]; omega
    · have e : k = n := by omega
      subst e
      go_wp2
      go_ret
      exact ⟨rfl, q, rfl⟩
theorem OutInts.view {w w' : World} {e : Ending} {L : List Int} (h : OutInts w w' e L) : ∃ A' n c', e = .returned (.slice A' n c') ∧ L.length = n ∧ n ≤ c' ∧ Reads w' w'.heap.size 1 A' n (L.map (Value.int .i64)) ∧ (∀ g, A'.map Addr.block = some g → w.heap.size ≤ g) ∧ Below w.heap.size w w' := by
  obtain ⟨A', c', he, hl, ho, hg, hb⟩ := h
  obtain ⟨A2, c2, e2, _, _, _, _, hr⟩ := own_view ho
  cases e2
  exact ⟨A', L.length, c', he, rfl, hl, hr _ (fun g hg => own_lt ho hg), hg, hb⟩
theorem Blk.reads2 {w : World} {B : Nat} {t : TypeId} {cs : List Value} (hB : Blk w B t cs) {size n : Nat} (h : cs.length = n * size) : Reads w w.heap.size size (some ⟨B, 0, none⟩) n cs :=
  ⟨h, fun _ => ⟨B, 0, rfl, hB.lt, fun j u hu => by rw [Nat.zero_add]; exact (hB.cell j).trans hu⟩⟩
theorem ex19 : chosen [⟨0, 3⟩, ⟨1, 1⟩, ⟨2, 1⟩] 2 = [1, 2] := by
  have : sortLd [⟨0, 3⟩, ⟨1, 1⟩, ⟨2, 1⟩] = [⟨1, 1⟩, ⟨2, 1⟩, ⟨0, 3⟩] := by
    refine sortLd_of ?_ (by simp [ldLt])
    exact (List.Perm.swap _ _ _).trans ((List.Perm.swap _ _ _).cons _)
  unfold chosen
  rw [this]
  rfl
set_option maxHeartbeats 1000000 in
theorem awake19_calls (w : World) : Calls Try.prog 32 #[] w fun e w' => e = .returned (.bool true) ∧ Below w.heap.size w w' := by
  have B0 := Blk.new (w := w) (cs := ldCells [⟨0, 3⟩, ⟨1, 1⟩, ⟨2, 1⟩]) (t := 31) rfl
  have R0 := (Below.refl w.heap.size w).alloc (Nat.le_refl _) (.cells (ldCells [⟨0, 3⟩, ⟨1, 1⟩, ⟨2, 1⟩]).toArray 31)
  go_enter Try.func32, Try.ntmps32
  go_wp2_with fail
  refine (choose_calls (some ⟨w.heap.size, 0, none⟩) 3 3 [⟨0, 3⟩, ⟨1, 1⟩, ⟨2, 1⟩] 2 _ (by intro a ha; cases ha; rfl) (B0.reads2 rfl) rfl (by decide)).mono ?_
  rintro e w1 hout
  rw [ex19] at hout
  obtain ⟨A1, n1, c1, rfl, hn1, _, hr1, _, hb1⟩ := hout.view
  obtain rfl : 2 = n1 := hn1
  have R1 := R0.trans (hb1.mono R0.size)
  have hr2 : Reads (w1.alloc (.cells #[.int .i64 1, .int .i64 2] 3)) (w1.alloc (.cells #[.int .i64 1, .int .i64 2] 3)).heap.size 1 A1 2 ([1, 2].map (Value.int .i64)) := (hr1.below ((Below.refl _ _).alloc (Nat.le_refl _) _)).more (by simp)
  have B1 := (Blk.new (w := w1) (cs := [.int .i64 1, .int .i64 2]) (t := 3) rfl).reads2 (size := 1) (n := 2) rfl
  have R2 := R1.alloc R1.size (.cells #[.int .i64 1, .int .i64 2] 3)
  clear hout hr1 hb1 R1 R0 B0
  go_wp2_with fail
  refine (sameInts_yes [1, 2] 2 A1 (some ⟨w1.heap.size, 0, none⟩) c1 2 _ rfl hr2 B1 (by decide)).mono ?_
  rintro e w2 ⟨rfl, n2, hw2⟩
  have R3 : Below w.heap.size w w2 := by rw [hw2]; exact below_drewN R2 _
  clear hw2
  go_wp2
  go_ret
  exact ⟨rfl, R3⟩
end Go.Proofs.Ytjdgkdaebkflpaa
