/- A map from int that holds a list of things, rising by their numbers. -/
import Derived.Test.YtcgecalbgkkinaaGreatGm
import Derived.Lib.SlKeysI
namespace Go.Proofs.YtcgecalbgkkinaaGreat
open Go.RowKit Go.Proofs Go.Maps
set_option linter.unusedVariables false

section
variable {α : Type} (key : α → Int)
def Rise (L : List α) : Prop := L.Pairwise fun a b => key a < key b
def fd (L : List α) (k : Int) : Option α := L.find? fun x => key x == k
/-- put in its place; what had its number gives way -/
def ins (x : α) : List α → List α
  | [] => [x]
  | y :: t => if key y < key x then y :: ins x t else if key y = key x then x :: t else x :: y :: t
def out (L : List α) (k : Int) : List α := L.filter fun x => key x != k
end
section
variable {α : Type} {key : α → Int} {L : List α} {x y : α} {k j : Int}
theorem fd_nil : fd key ([] : List α) k = none := rfl
theorem fd_cons : fd key (y :: L) k = if key y = k then some y else fd key L k := by
  unfold fd
  rw [List.find?_cons]
  by_cases h : key y = k
  · simp [h]
  · rw [if_neg h, show (key y == k) = false by simp [h]]
theorem fd_some (h : fd key L k = some y) : y ∈ L ∧ key y = k := by
  induction L with
  | nil => cases h
  | cons z t ih =>
    rw [fd_cons] at h
    split at h
    · injection h with h
      subst h
      exact ⟨List.mem_cons_self .., by assumption⟩
    · exact ⟨List.mem_cons_of_mem _ (ih h).1, (ih h).2⟩
theorem fd_none : fd key L k = none ↔ ∀ y ∈ L, key y ≠ k := by
  induction L with
  | nil => simp [fd_nil]
  | cons z t ih =>
    rw [fd_cons]
    by_cases h : key z = k
    · simp [h]
    · simp [h, ih]
theorem fd_mem (h : Rise key L) (hy : y ∈ L) : fd key L (key y) = some y := by
  induction L with
  | nil => cases hy
  | cons z t ih =>
    rw [fd_cons]
    obtain ⟨h1, h2⟩ := List.pairwise_cons.1 h
    rcases List.mem_cons.1 hy with rfl | hy
    · rw [if_pos rfl]
    · have := h1 y hy
      rw [if_neg (by omega)]
      exact ih h2 hy
theorem fd_get (h : Rise key L) {i : Nat} (hi : i < L.length) : fd key L (key L[i]) = some L[i] := fd_mem h (List.getElem_mem hi)
theorem mem_ins (h : Rise key L) : y ∈ ins key x L ↔ y = x ∨ (y ∈ L ∧ key y ≠ key x) := by
  induction L with
  | nil => simp [ins]
  | cons z t ih =>
    obtain ⟨h1, h2⟩ := List.pairwise_cons.1 h
    unfold ins
    split
    · rw [List.mem_cons, ih h2, List.mem_cons]
      constructor
      · rintro (rfl | rfl | ⟨h3, h4⟩)
        · exact Or.inr ⟨Or.inl rfl, by omega⟩
        · exact Or.inl rfl
        · exact Or.inr ⟨Or.inr h3, h4⟩
      · rintro (rfl | ⟨rfl | h3, h4⟩)
        · exact Or.inr (Or.inl rfl)
        · exact Or.inl rfl
        · exact Or.inr (Or.inr ⟨h3, h4⟩)
    · split
      · rw [List.mem_cons, List.mem_cons]
        constructor
        · rintro (rfl | h3)
          · exact Or.inl rfl
          · exact Or.inr ⟨Or.inr h3, by have := h1 y h3; omega⟩
        · rintro (rfl | ⟨rfl | h3, h4⟩)
          · exact Or.inl rfl
          · contradiction
          · exact Or.inr h3
      · rw [List.mem_cons]
        constructor
        · rintro (rfl | h3)
          · exact Or.inl rfl
          · refine Or.inr ⟨h3, ?_⟩
            rcases List.mem_cons.1 h3 with rfl | h3
            · omega
            · have := h1 y h3; omega
        · rintro (rfl | ⟨h3, h4⟩)
          · exact Or.inl rfl
          · exact Or.inr h3
theorem Rise.ins (h : Rise key L) (x : α) : Rise key (ins key x L) := by
  induction L with
  | nil => exact List.pairwise_singleton _ _
  | cons z t ih =>
    obtain ⟨h1, h2⟩ := List.pairwise_cons.1 h
    unfold Go.Proofs.YtcgecalbgkkinaaGreat.ins
    split
    · refine List.pairwise_cons.2 ⟨fun y hy => ?_, ih h2⟩
      rcases (mem_ins h2).1 hy with rfl | ⟨h3, _⟩
      · assumption
      · exact h1 y h3
    · split
      · exact List.pairwise_cons.2 ⟨fun y hy => by have := h1 y hy; omega, h2⟩
      · refine List.pairwise_cons.2 ⟨fun y hy => ?_, h⟩
        rcases List.mem_cons.1 hy with rfl | h3
        · omega
        · have := h1 y h3; omega
theorem ins_length (h : Rise key L) (x : α) : (ins key x L).length = if (fd key L (key x)).isSome then L.length else L.length + 1 := by
  induction L with
  | nil => rfl
  | cons z t ih =>
    obtain ⟨h1, h2⟩ := List.pairwise_cons.1 h
    unfold ins
    rw [fd_cons]
    by_cases e1 : key z < key x
    · rw [if_pos e1, if_neg (show ¬ key z = key x by omega), List.length_cons, ih h2, List.length_cons]
      split <;> rfl
    · rw [if_neg e1]
      by_cases e2 : key z = key x
      · rw [if_pos e2, if_pos e2]
        simp
      · rw [if_neg e2, if_neg e2, fd_none.2 (fun y hy => by have := h1 y hy; omega)]
        simp
theorem fd_ins (h : Rise key L) : fd key (ins key x L) j = if j = key x then some x else fd key L j := by
  have hr := h.ins x
  split
  · rename_i e
    rw [e]
    exact fd_mem hr ((mem_ins h).2 (Or.inl rfl))
  · rename_i e
    cases hf : fd key L j with
    | none =>
      rw [fd_none] at hf ⊢
      intro y hy
      rcases (mem_ins h).1 hy with rfl | ⟨h3, _⟩
      · exact fun h => e h.symm
      · exact hf y h3
    | some y =>
      obtain ⟨h1, rfl⟩ := fd_some hf
      exact fd_mem hr ((mem_ins h).2 (Or.inr ⟨h1, e⟩))
theorem Rise.out (h : Rise key L) (k : Int) : Rise key (out key L k) := List.Pairwise.sublist List.filter_sublist h
theorem mem_out : y ∈ out key L k ↔ y ∈ L ∧ key y ≠ k := by
  unfold out
  rw [List.mem_filter]
  simp
theorem out_length (h : Rise key L) (k : Int) : (out key L k).length = if (fd key L k).isSome then L.length - 1 else L.length := by
  induction L with
  | nil => rfl
  | cons z t ih =>
    obtain ⟨h1, h2⟩ := List.pairwise_cons.1 h
    rw [fd_cons]
    unfold out at ih ⊢
    rw [List.filter_cons]
    by_cases e : key z = k
    · have : t.filter (fun x => key x != k) = t := List.filter_eq_self.2 fun y hy => by have := h1 y hy; simp; omega
      simp [e, this]
    · have hz : (key z != k) = true := by simp [e]
      rw [hz, if_pos rfl, if_neg e, List.length_cons, ih h2]
      split
      · rename_i hs
        obtain ⟨y, hy⟩ := Option.isSome_iff_exists.1 hs
        have := List.length_pos_of_mem (fd_some hy).1
        rw [List.length_cons]; omega
      · rfl
theorem fd_out (h : Rise key L) : fd key (out key L k) j = if j = k then none else fd key L j := by
  split
  · rename_i e
    rw [fd_none]
    intro y hy
    rw [e]
    exact (mem_out.1 hy).2
  · rename_i e
    cases hf : fd key L j with
    | none =>
      rw [fd_none] at hf ⊢
      exact fun y hy => hf y (mem_out.1 hy).1
    | some y =>
      obtain ⟨h1, rfl⟩ := fd_some hf
      exact fd_mem (h.out k) (mem_out.2 ⟨h1, e⟩)
theorem Rise.nodup (h : Rise key L) : (L.map key).Nodup := by
  refine List.Pairwise.map key (fun a b hab => ?_) h
  omega
theorem keys_sorted (h : Rise key L) {ss : List Int} (hp : ss.Perm (L.map key)) : ss.mergeSort (fun x y => decide (x ≤ y)) = L.map key := by
  have h1 : (ss.mergeSort fun x y => decide (x ≤ y)).Perm (L.map key) := (List.mergeSort_perm ss _).trans hp
  have h2 : (ss.mergeSort fun x y => decide (x ≤ y)).Pairwise fun a b => a ≤ b := by
    have := List.pairwise_mergeSort (le := fun x y : Int => decide (x ≤ y)) (fun a b c h1 h2 => by simp at *; omega) (fun a b => by simp; omega) ss
    exact this.imp fun h => by simpa using h
  have h3 : (L.map key).Pairwise fun a b => a ≤ b := List.Pairwise.map key (fun a b hab => Int.le_of_lt hab) h
  exact h1.eq_of_pairwise (le := fun a b => a ≤ b) (fun a b _ _ h4 h5 => by omega) h2 h3
end
/-- block b is a map that holds just L -/
structure Tab {α : Type} (key : α → Int) (val : α → Value) (w : World) (b : Nat) (L : List α) : Prop where
  gm : GM w b L.length fun k => (fd key L k).map val
  rise : Rise key L
  ok : ∀ x ∈ L, i64ok (key x)
section
variable {α : Type} {key : α → Int} {val : α → Value} {w w' : World} {b : Nat} {L : List α} {k : Int} {mt et : TypeId}
theorem Tab.lt (h : Tab key val w b L) : b < w.heap.size := h.gm.lt
theorem Tab.chg {G : List Nat} (h : Tab key val w b L) (hc : Chg G w w') (hn : b ∉ G) : Tab key val w' b L := ⟨h.gm.chg hc hn, h.rise, h.ok⟩
theorem Tab.below (h : Tab key val w b L) (hb : Below w.heap.size w w') : Tab key val w' b L := ⟨h.gm.below hb, h.rise, h.ok⟩
theorem Tab.made (w : World) : Tab key val (w.alloc (.map #[] 0)) w.heap.size [] := ⟨GM.made w, List.Pairwise.nil, by simp⟩
theorem GM.congr {c c' : Nat} {f f' : Int → Option Value} (h : GM w b c f) (e : c = c') (hf : ∀ k, i64ok k → f k = f' k) : GM w b c' f' := by
  subst e
  obtain ⟨D, h1, h2, h3, h4⟩ := h
  exact ⟨D, h1, h2, h3, fun k hk => by rw [← hf k hk]; exact h4 k hk⟩
theorem Tab.put (h : Tab key val w b L) (x : α) (hx : i64ok (key x)) (hm : Tryz.prog.underlying mt = some (.map 3 et)) (hn : L.length < 1000000) :
    ∃ w', (Instr.mapUpdate mt (.map (some b)) (.int .i64 (key x)) (val x)).run Tryz.prog w = .ok () w' ∧ Tab key val w' b (ins key x L) ∧ Chg [b] w w' := by
  obtain ⟨w', hrun, hg, hc⟩ := h.gm.put hx hm (val x) hn
  refine ⟨w', hrun, ⟨hg.congr ?_ fun j _ => ?_, h.rise.ins x, fun y hy => ?_⟩, hc⟩
  · rw [ins_length h.rise, Option.isSome_map]
  · rw [fd_ins h.rise]
    unfold updV
    split <;> simp
  · rcases (mem_ins h.rise).1 hy with rfl | ⟨h3, _⟩
    · exact hx
    · exact h.ok y h3
theorem Tab.del (h : Tab key val w b L) (hk : i64ok k) (hm : Tryz.prog.underlying mt = some (.map 3 et)) (ty : TypeId) :
    ∃ w', (Builtin.delete_ #[mt, 3] ty #[.map (some b), .int .i64 k]).run Tryz.prog w = .ok (.tuple #[]) w' ∧ Tab key val w' b (out key L k) ∧ Chg [b] w w' := by
  obtain ⟨w', hrun, hg, hc⟩ := h.gm.del hk hm ty
  refine ⟨w', hrun, ⟨hg.congr ?_ fun j _ => ?_, h.rise.out k, fun y hy => h.ok y (mem_out.1 hy).1⟩, hc⟩
  · rw [out_length h.rise, Option.isSome_map]
  · rw [fd_out h.rise]
    unfold updV
    split <;> simp
theorem Tab.look (h : Tab key val w b L) (hk : i64ok k) (hm : Tryz.prog.underlying mt = some (.map 3 et)) {z : Value} (hz : (zeroValue et).run Tryz.prog w = .ok z w) :
    (Instr.lookup mt (.map (some b)) (.int .i64 k) false).run Tryz.prog w = .ok (((fd key L k).map val).getD z) w := h.gm.look hk hm hz
theorem Tab.look_ok (h : Tab key val w b L) (hk : i64ok k) (hm : Tryz.prog.underlying mt = some (.map 3 et)) {z : Value} (hz : (zeroValue et).run Tryz.prog w = .ok z w) :
    (Instr.lookup mt (.map (some b)) (.int .i64 k) true).run Tryz.prog w = .ok (.tuple #[((fd key L k).map val).getD z, .bool (fd key L k).isSome]) w := by
  have := h.gm.look_ok hk hm hz
  rw [Option.isSome_map] at this
  exact this
theorem Tab.len (h : Tab key val w b L) (hm : Tryz.prog.underlying mt = some (.map 3 et)) (ty : TypeId) : (Builtin.len_ #[mt] ty #[.map (some b)]).run Tryz.prog w = .ok (.int .i64 L.length) w := h.gm.len hm ty
/-- the map's keys, in whatever order -/
theorem GM.keys {c : Nat} {f : Int → Option Value} (h : GM w b c f) : ∃ D : DataW Value, w.ownsMap Tryz.prog 3 wholeE b c D ∧ Maps.size D = c ∧ Maps.Tidy D ∧ ∀ k, i64ok k → Maps.has D (.int .i64 k) = (f k).isSome := by
  obtain ⟨D, h1, h2, h3, h4⟩ := h
  exact ⟨D, h1, h2, h3, fun k hk => (h4 k hk).1⟩
end
end Go.Proofs.YtcgecalbgkkinaaGreat
