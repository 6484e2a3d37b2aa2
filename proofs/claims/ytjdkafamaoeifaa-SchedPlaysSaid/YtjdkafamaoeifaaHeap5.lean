/- What Set and Drop do to a heap's list: the plain part; the state of a heap. -/
import Derived.Test.YtjdkafamaoeifaaHeap4
namespace Go.Proofs.Ytjdkafamaoeifaa
open Go.RowKit Go.Proofs Go.Maps
set_option linter.unusedVariables false

theorem HF.at {f : Int → Option Int} {M : List Ld} (h : HF f M) {k z : Int} (hk : f k = some z) : ∃ i, i < M.length ∧ z = (i : Int) ∧ (gt M i).id = k := by
  obtain ⟨i, hi, e⟩ := (h.2.2 k).1 (by rw [hk]; rfl)
  refine ⟨i, hi, ?_, e⟩
  have := h.2.1 i hi
  rw [e, hk] at this
  exact Option.some.inj this
theorem HF.no {f : Int → Option Int} {M : List Ld} (h : HF f M) {k : Int} (hk : f k = none) : ∀ x ∈ M, x.id ≠ k := by
  intro x hx e
  obtain ⟨i, hi, rfl⟩ := List.mem_iff_getElem.1 hx
  have := (h.2.2 k).2 ⟨i, hi, by rw [gt_get hi]; exact e⟩
  rw [hk] at this
  cases this
theorem HF.fresh {f : Int → Option Int} {M : List Ld} (h : HF f M) {x : Ld} (hk : f x.id = none) : HF (upd f x.id (some (M.length : Int))) (M ++ [x]) := by
  have hno := h.no hk
  refine ⟨?_, fun j hj => ?_, fun k => ?_⟩
  · rw [List.map_append, List.nodup_append]
    refine ⟨h.1, by simp, fun a ha b hb e => ?_⟩
    obtain ⟨y, hy, rfl⟩ := List.mem_map.1 ha
    simp at hb
    exact hno y hy (e.trans hb)
  · rw [gt_snoc]
    by_cases e : j = M.length
    · rw [if_pos e, upd_same, e]
    · have hj' : j < M.length := by simp at hj; omega
      rw [if_neg e, upd_other (hno _ (gt_mem hj'))]
      exact h.2.1 j hj'
  · by_cases e : k = x.id
    · subst e
      rw [upd_same]
      simp only [Option.isSome_some, true_iff]
      exact ⟨M.length, by simp, by rw [gt_snoc, if_pos rfl]⟩
    · rw [upd_other e, h.2.2]
      constructor
      · rintro ⟨j, hj, e2⟩
        exact ⟨j, by simp; omega, by rw [gt_snoc, if_neg (by omega)]; exact e2⟩
      · rintro ⟨j, hj, e2⟩
        rw [gt_snoc] at e2
        by_cases e3 : j = M.length
        · rw [if_pos e3] at e2; exact absurd e2.symm e
        · rw [if_neg e3] at e2; exact ⟨j, by simp at hj; omega, e2⟩
theorem HF.again {f : Int → Option Int} {M : List Ld} {i : Nat} (h : HF f M) {x : Ld} (hi : i < M.length) (hx : (gt M i).id = x.id) : HF (upd f x.id (some (i : Int))) (M.set i x) := by
  have hids : (M.set i x).map Ld.id = M.map Ld.id := by
    rw [List.map_set, ← hx, gt_get hi]
    have : M[i].id = (M.map Ld.id)[i]'(by simpa using hi) := by simp
    rw [this, List.set_getElem_self]
  have hat : ∀ j, (gt (M.set i x) j).id = (gt M j).id := fun j => by
    rw [gt_set hi]
    by_cases e : i = j
    · subst e; rw [if_pos rfl]; exact hx.symm
    · rw [if_neg e]
  refine ⟨by rw [hids]; exact h.1, fun j hj => ?_, fun k => ?_⟩
  · rw [List.length_set] at hj
    rw [hat]
    by_cases e : i = j
    · subst e; rw [hx, upd_same]
    · rw [upd_other (fun e2 => e (nodup_ids h.1 hi hj (hx.trans e2.symm)))]; exact h.2.1 j hj
  · rw [List.length_set]
    simp only [hat]
    by_cases e : k = x.id
    · subst e
      rw [upd_same]
      simp only [Option.isSome_some, true_iff]
      exact ⟨i, hi, hx⟩
    · rw [upd_other e, h.2.2]
theorem HF.nil : HF (fun _ => none) [] := ⟨by simp, fun j hj => by simp at hj, fun k => by simp⟩
theorem HeapOk.nil : HeapOk [] := fun j _ hj => by simp at hj
/-- the entries when a name's key is set -/
def setL (L : List Ld) (x : Ld) : List Ld := L.filter (fun y => y.id != x.id) ++ [x]
def outL (L : List Ld) (k : Int) : List Ld := L.filter fun y => y.id != k
theorem setL_fresh {L : List Ld} {x : Ld} (h : ∀ y ∈ L, y.id ≠ x.id) : L ++ [x] = setL L x := by
  unfold setL
  rw [List.filter_eq_self.2 (fun y hy => by simpa using h y hy)]
theorem perm_take {M : List Ld} {i : Nat} (hi : i < M.length) : M.Perm (gt M i :: (M.take i ++ M.drop (i + 1))) := by
  rw [gt_get hi]
  have e : M = M.take i ++ M[i] :: M.drop (i + 1) := by rw [← List.drop_eq_getElem_cons hi, List.take_append_drop]
  have := List.perm_middle (a := M[i]) (l₁ := M.take i) (l₂ := M.drop (i + 1))
  rw [← e] at this
  exact this
theorem perm_out {M : List Ld} {i : Nat} (hi : i < M.length) (hn : (M.map Ld.id).Nodup) : M.Perm (gt M i :: outL M (gt M i).id) := by
  have h1 := perm_take hi
  have h2 := (h1.map Ld.id).nodup_iff.1 hn
  rw [List.map_cons, List.nodup_cons] at h2
  have h3 := h1.filter (fun y => y.id != (gt M i).id)
  have h5 : (M.take i ++ M.drop (i + 1)).filter (fun y => y.id != (gt M i).id) = M.take i ++ M.drop (i + 1) := List.filter_eq_self.2 (fun y hy => by
    simp only [bne_iff_ne, ne_eq]
    intro e
    exact h2.1 (List.mem_map.2 ⟨y, hy, e⟩))
  rw [List.filter_cons_of_neg (by simp), h5] at h3
  exact h1.trans (h3.symm.cons _)
theorem set_perm {M : List Ld} {i : Nat} {x : Ld} (hi : i < M.length) (hn : (M.map Ld.id).Nodup) (hx : (gt M i).id = x.id) : (M.set i x).Perm (setL M x) := by
  have h1 := perm_take (M := M.set i x) (i := i) (by rw [List.length_set]; exact hi)
  rw [gt_hole hi, List.take_set_of_le (Nat.le_refl _), List.drop_set_of_lt (by omega)] at h1
  have h2 := perm_take hi
  have h3 := perm_out hi hn
  have h4 : (M.take i ++ M.drop (i + 1)).Perm (outL M (gt M i).id) := (h2.symm.trans h3).cons_inv
  rw [hx] at h4
  refine h1.trans ((h4.cons x).trans ?_)
  exact (List.perm_append_singleton x _).symm
/-- the last one comes in i's place -/
theorem drop_perm {M : List Ld} {i : Nat} {n : Nat} (hn : M.length = n + 1) (hi : i < n) (hd : (M.map Ld.id).Nodup) : ((M.take n).set i (gt M n)).Perm (outL M (gt M i).id) := by
  have hin : i < (M.take n).length := by rw [List.length_take]; omega
  have h1 := perm_take (M := (M.take n).set i (gt M n)) (i := i) (by rw [List.length_set]; exact hin)
  rw [gt_hole hin, List.take_set_of_le (Nat.le_refl _), List.drop_set_of_lt (by omega)] at h1
  have h2 := perm_take hin
  rw [gt_take hi] at h2
  have h3 : M.Perm (gt M n :: M.take n) := by
    have := perm_take (M := M) (i := n) (by omega)
    rw [List.drop_eq_nil_of_le (by omega), List.append_nil] at this
    exact this
  have h4 := perm_out (M := M) (i := i) (by omega) hd
  have h5 : (gt M i :: (gt M n :: ((M.take n).take i ++ (M.take n).drop (i + 1)))).Perm (gt M i :: outL M (gt M i).id) :=
    ((List.Perm.swap _ _ _).trans ((h2.symm.cons _).trans h3.symm)).trans h4
  exact h1.trans h5.cons_inv
theorem last_perm {M : List Ld} {n : Nat} (hn : M.length = n + 1) (hd : (M.map Ld.id).Nodup) : (M.take n).Perm (outL M (gt M n).id) := by
  have h3 : M.Perm (gt M n :: M.take n) := by
    have := perm_take (M := M) (i := n) (by omega)
    rw [List.drop_eq_nil_of_le (by omega), List.append_nil] at this
    exact this
  exact (h3.symm.trans (perm_out (by omega) hd)).cons_inv
/-- the names, when one is let go -/
theorem HF.drop {f : Int → Option Int} {M : List Ld} {i n : Nat} (h : HF f M) (hn : M.length = n + 1) (hi : i < n) :
    HF (upd (upd f (gt M i).id none) (gt M n).id (some (i : Int))) ((M.take n).set i (gt M n)) := by
  have hin : i < (M.take n).length := by rw [List.length_take]; omega
  have hne : (gt M n).id ≠ (gt M i).id := fun e => by have := nodup_ids h.1 (by omega) (by omega) e; omega
  have hp := drop_perm hn hi h.1
  have hnd : (((M.take n).set i (gt M n)).map Ld.id).Nodup := by
    refine (hp.map Ld.id).nodup_iff.2 ?_
    exact List.Nodup.sublist (List.filter_sublist.map Ld.id) h.1
  refine ⟨hnd, fun j hj => ?_, fun k => ?_⟩
  · rw [List.length_set, List.length_take] at hj
    have hjn : j < n := by omega
    rw [gt_set hin, gt_take hjn]
    by_cases e : i = j
    · rw [if_pos e, upd_same, e]
    · rw [if_neg e, upd_other (fun e2 => by have := nodup_ids h.1 (by omega) (by omega) e2; omega), upd_other (fun e2 => e (nodup_ids h.1 (by omega) (by omega) e2.symm))]
      exact h.2.1 j (by omega)
  · rw [List.length_set, List.length_take, show min n M.length = n by omega]
    by_cases e : k = (gt M n).id
    · subst e
      rw [upd_same]
      simp only [Option.isSome_some, true_iff]
      exact ⟨i, hi, by rw [gt_set hin, if_pos rfl]⟩
    · rw [upd_other e]
      by_cases e2 : k = (gt M i).id
      · subst e2
        rw [upd_same]
        simp only [Option.isSome_none, Bool.false_eq_true, false_iff]
        rintro ⟨j, hj, e3⟩
        rw [gt_set hin, gt_take hj] at e3
        by_cases e4 : i = j
        · rw [if_pos e4] at e3; exact hne e3
        · rw [if_neg e4] at e3; exact e4 (nodup_ids h.1 (by omega) (by omega) e3.symm)
      · rw [upd_other e2, h.2.2]
        constructor
        · rintro ⟨j, hj, e3⟩
          have hjn : j < n := by
            rcases Nat.lt_or_ge j n with h5 | h5
            · exact h5
            · have : j = n := by omega
              subst this; exact absurd e3.symm e
          refine ⟨j, hjn, ?_⟩
          rw [gt_set hin, gt_take hjn, if_neg (fun e4 => by subst e4; exact e2 e3.symm)]
          exact e3
        · rintro ⟨j, hj, e3⟩
          rw [gt_set hin, gt_take hj] at e3
          by_cases e4 : i = j
          · rw [if_pos e4] at e3; exact absurd e3.symm e
          · rw [if_neg e4] at e3; exact ⟨j, by omega, e3⟩
theorem HF.last {f : Int → Option Int} {M : List Ld} {n : Nat} (h : HF f M) (hn : M.length = n + 1) : HF (upd f (gt M n).id none) (M.take n) := by
  refine ⟨by rw [List.map_take]; exact List.Nodup.sublist (List.take_sublist _ _) h.1, fun j hj => ?_, fun k => ?_⟩
  · rw [List.length_take] at hj
    rw [gt_take (by omega), upd_other (fun e2 => by have := nodup_ids h.1 (by omega) (by omega) e2; omega)]
    exact h.2.1 j (by omega)
  · rw [List.length_take, show min n M.length = n by omega]
    by_cases e : k = (gt M n).id
    · subst e
      rw [upd_same]
      simp only [Option.isSome_none, Bool.false_eq_true, false_iff]
      rintro ⟨j, hj, e3⟩
      rw [gt_take hj] at e3
      have := nodup_ids h.1 (by omega) (by omega) e3
      omega
    · rw [upd_other e, h.2.2]
      constructor
      · rintro ⟨j, hj, e3⟩
        have hjn : j < n := by
          rcases Nat.lt_or_ge j n with h5 | h5
          · exact h5
          · have : j = n := by omega
            subst this; exact absurd e3.symm e
        exact ⟨j, hjn, by rw [gt_take hjn]; exact e3⟩
      · rintro ⟨j, hj, e3⟩
        rw [gt_take hj] at e3
        exact ⟨j, by omega, e3⟩
/-- the heap at p: what it holds, and which blocks are its own -/
def HeapAt (w : World) (p : Pl) (L : List Ld) (F : List Nat) : Prop :=
  (PBlk w p (.slice none 0 0) (.map none) ∧ L = [] ∧ F = [p.b]) ∨
  ∃ A cap bm f, HP w p A cap bm L.length L f ∧ HF f L ∧ HeapOk L ∧ F = hfoot p A bm
end Go.Proofs.Ytjdkafamaoeifaa
