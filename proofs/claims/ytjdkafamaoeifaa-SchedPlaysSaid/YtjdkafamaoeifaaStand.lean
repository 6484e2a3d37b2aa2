/- What stands in a scheduler's heaps: the flows that are up; plain. -/
import Derived.Test.YtjdkafamaoeifaaSch2
namespace Go.Proofs.Ytjdkafamaoeifaa
open Go.RowKit Go.Proofs Go.Maps
set_option linter.unusedVariables false
set_option linter.unusedSimpArgs false

def up (f : Fl) : Bool := !f.q.isEmpty
def ent (key : Fl → Int) (f : Fl) : Ld := ⟨f.id, key f⟩
def Stands (L : List Ld) (X : List Fl) (key : Fl → Int) : Prop := L.Perm ((X.filter up).map (ent key))
theorem split_at {α : Type} {X : List α} {i : Nat} {f : α} (hi : i < X.length) (hf : X[i] = f) : ∃ A B, X = A ++ f :: B ∧ A.length = i ∧ ∀ g, X.set i g = A ++ g :: B := by
  refine ⟨X.take i, X.drop (i + 1), ?_, by simp; omega, fun g => ?_⟩
  · rw [← hf, ← List.drop_eq_getElem_cons hi, List.take_append_drop]
  · rw [List.set_eq_take_append_cons_drop, if_pos hi]
theorem split_ids {A B : List Fl} {f : Fl} (h : ((A ++ f :: B).map Fl.id).Nodup) : (∀ g ∈ A, g.id ≠ f.id) ∧ ∀ g ∈ B, g.id ≠ f.id := by
  rw [List.map_append, List.map_cons, List.nodup_append] at h
  obtain ⟨_, h2, h3⟩ := h
  rw [List.nodup_cons] at h2
  exact ⟨fun g hg e => h3 _ (List.mem_map_of_mem hg) _ (List.mem_cons_self ..) e, fun g hg e => h2.1 (by rw [← e]; exact List.mem_map_of_mem hg)⟩
theorem ents_out {A : List Fl} {key : Fl → Int} {k : Int} (h : ∀ g ∈ A, g.id ≠ k) : outL ((A.filter up).map (ent key)) k = (A.filter up).map (ent key) :=
  outL_none fun y hy => by
    obtain ⟨g, hg, rfl⟩ := List.mem_map.1 hy
    exact h g (List.mem_filter.1 hg).1
theorem outL_append (L M : List Ld) (k : Int) : outL (L ++ M) k = outL L k ++ outL M k := List.filter_append ..
theorem Stands.flow {L L' : List Ld} {X : List Fl} {key : Fl → Int} {i : Nat} {f f' : Fl} (hS : Stands L X key) (hn : (X.map Fl.id).Nodup) (hi : i < X.length) (hf : X[i] = f) (hid : f'.id = f.id) (hL : L'.Perm (standL L f'.q f'.id (key f'))) : Stands L' (X.set i f') key := by
  obtain ⟨A, B, rfl, _, hset⟩ := split_at hi hf
  obtain ⟨hA, hB⟩ := split_ids hn
  rw [hset]
  unfold Stands at hS ⊢
  have hout : outL (((A ++ f :: B).filter up).map (ent key)) f.id = (A.filter up).map (ent key) ++ (B.filter up).map (ent key) := by
    rw [List.filter_append, List.map_append, outL_append, ents_out hA]
    congr 1
    rw [List.filter_cons]
    split
    · rw [List.map_cons]
      show outL (ent key f :: _) f.id = _
      unfold outL
      rw [List.filter_cons, if_neg (by simp [ent])]
      exact ents_out hB
    · exact ents_out hB
  have h1 : (outL L f.id).Perm ((A.filter up).map (ent key) ++ (B.filter up).map (ent key)) := by rw [← hout]; exact hS.filter _
  refine hL.trans ?_
  unfold standL
  rw [List.filter_append, List.map_append, List.filter_cons, hid]
  by_cases hq : f'.q = []
  · rw [if_pos hq, if_neg (by simp [up, hq])]
    exact h1
  · rw [if_neg hq, if_pos (by simp [up, hq]), List.map_cons]
    show (outL L f.id ++ [(⟨f.id, key f'⟩ : Ld)]).Perm _
    refine (h1.append_right _).trans ?_
    refine (List.perm_append_singleton _ _).trans ?_
    have : ent key f' = ⟨f.id, key f'⟩ := by unfold ent; rw [hid]
    rw [this]
    exact List.perm_middle.symm
theorem Stands.same {L : List Ld} {X : List Fl} {key : Fl → Int} {i : Nat} {f f' : Fl} (hS : Stands L X key) (hi : i < X.length) (hf : X[i] = f) (hid : f'.id = f.id) (hq : f'.q = f.q) (hk : key f' = key f) : Stands L (X.set i f') key := by
  obtain ⟨A, B, rfl, _, hset⟩ := split_at hi hf
  rw [hset]
  unfold Stands at hS ⊢
  have hu : up f' = up f := by unfold up; rw [hq]
  have he : ent key f' = ent key f := by unfold ent; rw [hid, hk]
  rw [List.filter_append, List.filter_cons] at hS ⊢
  rw [hu]
  split at hS <;> rename_i h1
  · rw [if_pos h1, List.map_append, List.map_cons, he]; rwa [List.map_append, List.map_cons] at hS
  · rw [if_neg h1]; exact hS
theorem Stands.snoc {L : List Ld} {X : List Fl} {key : Fl → Int} {f : Fl} (hS : Stands L X key) (hq : f.q = []) : Stands L (X ++ [f]) key := by
  unfold Stands at hS ⊢
  rw [List.filter_append, List.filter_cons, if_neg (by simp [up, hq])]
  simpa using hS
theorem Stands.nil (key : Fl → Int) : Stands [] [] key := List.Perm.refl _
theorem Stands.len {L : List Ld} {X : List Fl} {key : Fl → Int} (hS : Stands L X key) : L.length ≤ X.length := by
  rw [hS.length_eq, List.length_map]
  exact List.length_filter_le _ _
theorem Stands.mem {L : List Ld} {X : List Fl} {key : Fl → Int} (hS : Stands L X key) {y : Ld} (hy : y ∈ L) : ∃ f ∈ X, up f = true ∧ f.id = y.id ∧ key f = y.n := by
  obtain ⟨f, hf, rfl⟩ := List.mem_map.1 (hS.subset hy)
  exact ⟨f, (List.mem_filter.1 hf).1, (List.mem_filter.1 hf).2, rfl, rfl⟩
theorem Stands.of {L : List Ld} {X : List Fl} {key : Fl → Int} (hS : Stands L X key) {f : Fl} (hf : f ∈ X) (hu : up f = true) : ent key f ∈ L :=
  hS.symm.subset (List.mem_map_of_mem (List.mem_filter.2 ⟨hf, hu⟩))
/-- the least of a heap's keys, 0 of an empty one -/
def leastN (L : List Ld) : Int := if L.length = 0 then 0 else (gt L 0).n
/-- the least clock of those that are up -/
def leastP (X : List Fl) : Int := (((X.filter up).map fun f => f.c.p).min?).getD 0
theorem least_eq {L : List Ld} {X : List Fl} (hS : Stands L X fun f => f.c.p) (hok : HeapOk L) : leastN L = leastP X := by
  unfold leastN leastP
  have hm : (X.filter up).map (fun f => f.c.p) = ((X.filter up).map (ent fun f => f.c.p)).map Ld.n := by rw [List.map_map]; rfl
  split
  · rename_i h0
    have : (X.filter up).map (ent fun f => f.c.p) = [] := by
      refine List.eq_nil_of_length_eq_zero ?_
      rw [← hS.length_eq, h0]
    rw [hm, this]
    rfl
  · rename_i h0
    have : ((X.filter up).map (fun f => f.c.p)).min? = some (gt L 0).n := by
      rw [List.min?_eq_some_iff, hm]
      refine ⟨List.mem_map_of_mem (hS.subset (gt_mem (by omega))), fun b hb => ?_⟩
      obtain ⟨y, hy, rfl⟩ := List.mem_map.1 hb
      obtain ⟨j, hj, rfl⟩ := List.mem_iff_getElem.1 (hS.symm.subset hy)
      have := hok.least j hj
      rw [gt_get hj, ldLt_no] at this
      omega
    rw [this]
    rfl
/-- what 'find' finds -/
def FindOut (X : List Fl) (key : Fl → Int) (may : Fl → Bool) (id : Int) (ok : Bool) : Prop :=
  (ok = false ∧ id = 0 ∧ ∀ f ∈ X, up f = true → may f = false) ∨
  (ok = true ∧ ∃ (i : Nat) (hi : i < X.length), X[i].id = id ∧ up X[i] = true ∧ may X[i] = true ∧ ∀ f ∈ X, up f = true → may f = true → key X[i] < key f ∨ (key X[i] = key f ∧ X[i].id ≤ f.id))
end Go.Proofs.Ytjdkafamaoeifaa
