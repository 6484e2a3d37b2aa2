/- One text of: Map Gm Tab. -/
import Derived.Maps.OwnSet
import Derived.Maps.RangeWalk
import Derived.Shelf.SlMaps.Clone
import Derived.Lib.SlKeysI
import Derived.Test.YtcahcjfgmdpdoaaGreatQBase
set_option maxRecDepth 100000
namespace Go.Proofs.YtcahcjfgmdpdoaaGreat
open Go.RowKit Go.Proofs Go.Maps
set_option linter.unusedVariables false

def i64ok (k : Int) : Prop := -9223372036854775808 ≤ k ∧ k ≤ 9223372036854775807
theorem i64ok.wf {k : Int} (h : i64ok k) : (Lit.int .i64 k).wf = true := WalkArith.wf_i64 h
def IM (w : World) (b c : Nat) (f : Int → Option Int) : Prop :=
 ∃ D : DataW Unit, w.ownsMap Tryz.prog 3 (plainElem Tryz.prog 3) b c D ∧ Maps.size D = c ∧ Maps.Tidy D ∧
  ∀ k, i64ok k → Maps.has D (.int .i64 k) = (f k).isSome ∧ D.atKey (.int .i64 k) (.lit (.int .i64 0)) = .lit (.int .i64 ((f k).getD 0))
theorem law : Keyed Tryz.prog 3 := int_keyed Tryz.underlying3
theorem zeroE (w : World) : (zeroValue 3).run Tryz.prog w = .ok (.int .i64 0) w := by kernel_rfl
theorem own_tight {w : World} {P : Program} {k : TypeId} {R : Value → Option (DataW Unit × List MemPlace)} {b n : Nat} {D : DataW Unit} (h : w.ownsMap P k R b n D) : w.ownsMap P k R b (Maps.size D) D := by
 obtain ⟨es, clock, hb, F, hs, rfl⟩ := h
 exact ⟨es, clock, hb, F, by simp [Maps.size, length_sorted], rfl⟩
section
variable {w w' : World} {b c : Nat} {f : Int → Option Int} {k v : Int}
theorem IM.lt (h : IM w b c f) : b < w.heap.size := by obtain ⟨D, h, _⟩ := h; exact h.lt
theorem IM.keep (h : IM w b c f) (hk : w'.heap[b]? = w.heap[b]?) : IM w' b c f := by
 obtain ⟨D, ⟨es, clock, hb, F, hs, hD⟩, h2⟩ := h
 exact ⟨D, ⟨es, clock, hk.trans hb, F, hs, hD⟩, h2⟩
theorem IM.chg {L : List Nat} (h : IM w b c f) (hc : Chg L w w') (hn : b ∉ L) : IM w' b c f := h.keep (hc.block b h.lt hn)
theorem IM.made (w : World) : IM (w.alloc (.map #[] 0)) w.heap.size 0 (fun _ => none) :=
 ⟨.map [], World.ownsMap_made _ _ _ _, rfl, Maps.tidy_empty, fun k _ => ⟨rfl, rfl⟩⟩
theorem IM.look_ok (h : IM w b c f) (hk : i64ok k) : (Instr.lookup 72 (.map (some b)) (.int .i64 k) true).run Tryz.prog w = .ok (.tuple #[.int .i64 ((f k).getD 0), .bool (f k).isSome]) w := by
 obtain ⟨D, ho, _, _, hf⟩ := h; obtain ⟨v, ps, hrun, hv⟩ := ho.look_ok law Tryz.underlying72 (zeroE w) (plainElem_int Tryz.underlying3 (by decide)) (keyOf_int_mk Tryz.underlying3 hk.wf); obtain ⟨a, rfl, hc, _⟩ := plainElem_int_inv Tryz.underlying3 hv; obtain ⟨h1, h2⟩ := hf k hk; have h3 := congrArg Prod.fst hc; rw [h2] at h3
 injection h3 with h4
 injection h4 with h4 h5
 rw [hrun, h1, ← h5]
theorem IM.look (h : IM w b c f) (hk : i64ok k) : (Instr.lookup 72 (.map (some b)) (.int .i64 k) false).run Tryz.prog w = .ok (.int .i64 ((f k).getD 0)) w := by
 obtain ⟨D, ho, _, _, hf⟩ := h; obtain ⟨v, hrun, hv, _⟩ := ho.lookup_int law Tryz.underlying72 Tryz.underlying3 (zeroE w) (keyOf_int_mk Tryz.underlying3 hk.wf); obtain ⟨h1, h2⟩ := hf k hk; rw [h2] at hv
 injection hv with h4
 injection h4 with h4 h5
 rw [hrun, ← h5]
def upd (f : Int → Option Int) (k : Int) (o : Option Int) : Int → Option Int := fun j => if j = k then o else f j
theorem upd_same (f : Int → Option Int) (k : Int) (o : Option Int) : upd f k o k = o := by simp [upd]
theorem upd_other {j : Int} (h : j ≠ k) (o : Option Int) : upd f k o j = f j := by simp [upd, h]
theorem IM.put (h : IM w b c f) (hk : i64ok k) (hv : i64ok v) (hc : c < 1000000) :
  ∃ w', (Instr.mapUpdate 72 (.map (some b)) (.int .i64 k) (.int .i64 v)).run Tryz.prog w = .ok () w' ∧ IM w' b (if (f k).isSome then c else c + 1) (upd f k (some v)) ∧ Chg [b] w w' := by
 obtain ⟨D, ho, hs, ht, hf⟩ := h
 have hkl : WideAt.IsKeyLit (Lit.int .i64 k) := by trivial
 obtain ⟨w', hrun, ho', htn⟩ := ho.store law Tryz.underlying72 (by unfold maxLen; omega) (keyOf_int_mk Tryz.underlying3 hk.wf) (plainElem_int Tryz.underlying3 hv.wf); have hsz := Maps.size_put (k := .int .i64 k) ht (.lit (.int .i64 v)); rw [(hf k hk).1, hs] at hsz
 refine ⟨w', hrun, ⟨_, hsz ▸ own_tight ho', hsz, ht.put hkl _, fun j hj => ?_⟩, Chg.of_grown (row := some b) htn.grown⟩
 by_cases e : j = k
 ·subst e
  rw [upd_same]
  exact ⟨Maps.has_put_same ht.isMap hkl _, Maps.atKey_put_same ht.isMap hkl _ _⟩
 ·have hne : (Lit.int .i64 j) ≠ (Lit.int .i64 k) := fun h => e (by injection h)
  rw [upd_other e, Maps.has_put_other hne, Maps.atKey_put_other hne]
  exact hf j hj
theorem IM.del (h : IM w b c f) (hk : i64ok k) (ty : TypeId) :
  ∃ w', (Builtin.delete_ #[72, 3] ty #[.map (some b), .int .i64 k]).run Tryz.prog w = .ok (.tuple #[]) w' ∧ IM w' b (if (f k).isSome then c - 1 else c) (upd f k none) ∧ Chg [b] w w' := by
 obtain ⟨D, ho, hs, ht, hf⟩ := h; obtain ⟨w', hrun, ho', htn⟩ := ho.drop law Tryz.underlying72 (keyOf_int_mk Tryz.underlying3 hk.wf) ty; have hsz := Maps.size_del (k := .int .i64 k) ht; rw [(hf k hk).1, hs] at hsz
 have hsz2 : Maps.size (D.del (.int .i64 k)) = if (f k).isSome then c - 1 else c := by
  cases h1 : (f k).isSome <;> rw [h1] at hsz <;> simp at hsz ⊢ <;> omega
 refine ⟨w', hrun, ⟨_, hsz2 ▸ own_tight ho', hsz2, ht.del _, fun j hj => ?_⟩, Chg.of_grown (row := some b) htn.grown⟩
 by_cases e : j = k
 ·subst e
  rw [upd_same]
  exact ⟨Maps.has_del_same, Maps.atKey_del_same _⟩
 ·have hne : (Lit.int .i64 j) ≠ (Lit.int .i64 k) := fun h => e (by injection h)
  rw [upd_other e, Maps.has_del_other hne, Maps.atKey_del_other hne]
  exact hf j hj
end

def wholeE (v : Value) : Option (DataW Value × List MemPlace) := some (.held v, [])
def GM (w : World) (b c : Nat) (f : Int → Option Value) : Prop :=
 ∃ D : DataW Value, w.ownsMap Tryz.prog 3 wholeE b c D ∧ Maps.size D = c ∧ Maps.Tidy D ∧
  ∀ k, i64ok k → Maps.has D (.int .i64 k) = (f k).isSome ∧ ∀ z, D.atKey (.int .i64 k) (.held z) = .held ((f k).getD z)
def updV (f : Int → Option Value) (k : Int) (o : Option Value) : Int → Option Value := fun j => if j = k then o else f j
theorem updV_same (f : Int → Option Value) (k : Int) (o : Option Value) : updV f k o k = o := by simp [updV]
theorem updV_other {f : Int → Option Value} {k j : Int} (h : j ≠ k) (o : Option Value) : updV f k o j = f j := by simp [updV, h]
theorem own_tightV {w : World} {P : Program} {k : TypeId} {R : Value → Option (DataW Value × List MemPlace)} {b n : Nat} {D : DataW Value} (h : w.ownsMap P k R b n D) : w.ownsMap P k R b (Maps.size D) D := by
 obtain ⟨es, clock, hb, F, hs, rfl⟩ := h
 exact ⟨es, clock, hb, F, by simp [Maps.size, length_sorted], rfl⟩
section
variable {w w' : World} {b c : Nat} {f : Int → Option Value} {k : Int} {mt et : TypeId}
theorem GM.lt (h : GM w b c f) : b < w.heap.size := by obtain ⟨D, h, _⟩ := h; exact h.lt
theorem GM.keep (h : GM w b c f) (hk : w'.heap[b]? = w.heap[b]?) : GM w' b c f := by
 obtain ⟨D, ⟨es, clock, hb, F, hs, hD⟩, h2⟩ := h
 exact ⟨D, ⟨es, clock, hk.trans hb, F, hs, hD⟩, h2⟩
theorem GM.chg {L : List Nat} (h : GM w b c f) (hc : Chg L w w') (hn : b ∉ L) : GM w' b c f := h.keep (hc.block b h.lt hn)
theorem GM.below (h : GM w b c f) (hb : Below w.heap.size w w') : GM w' b c f := h.chg (Chg.of_below (L := []) hb) (by simp)
theorem GM.made (w : World) : GM (w.alloc (.map #[] 0)) w.heap.size 0 (fun _ => none) :=
 ⟨.map [], World.ownsMap_made _ _ _ _, rfl, Maps.tidy_empty, fun k _ => ⟨rfl, fun _ => rfl⟩⟩
theorem wholeE_inv {v u : Value} {ps : List MemPlace} (h : wholeE v = some (.held u, ps)) : v = u := by
 unfold wholeE at h
 injection h with h
 injection h with h _
 injection h with h
theorem GM.look (h : GM w b c f) (hk : i64ok k) (hm : Tryz.prog.underlying mt = some (.map 3 et)) {z : Value} (hz : (zeroValue et).run Tryz.prog w = .ok z w) :
  (Instr.lookup mt (.map (some b)) (.int .i64 k) false).run Tryz.prog w = .ok ((f k).getD z) w := by
 obtain ⟨D, ho, _, _, hf⟩ := h; obtain ⟨v, ps, hrun, hv⟩ := ho.lookup law hm hz (zd := .held z) (zp := []) rfl (keyOf_int_mk Tryz.underlying3 hk.wf); rw [(hf k hk).2 z] at hv; rw [hrun, wholeE_inv hv]
theorem GM.look_ok (h : GM w b c f) (hk : i64ok k) (hm : Tryz.prog.underlying mt = some (.map 3 et)) {z : Value} (hz : (zeroValue et).run Tryz.prog w = .ok z w) :
  (Instr.lookup mt (.map (some b)) (.int .i64 k) true).run Tryz.prog w = .ok (.tuple #[(f k).getD z, .bool (f k).isSome]) w := by
 obtain ⟨D, ho, _, _, hf⟩ := h; obtain ⟨v, ps, hrun, hv⟩ := ho.look_ok law hm hz (zd := .held z) (zp := []) rfl (keyOf_int_mk Tryz.underlying3 hk.wf); rw [(hf k hk).2 z] at hv; rw [hrun, (hf k hk).1, wholeE_inv hv]
theorem GM.len (h : GM w b c f) (hm : Tryz.prog.underlying mt = some (.map 3 et)) (ty : TypeId) : (Builtin.len_ #[mt] ty #[.map (some b)]).run Tryz.prog w = .ok (.int .i64 c) w := by
 obtain ⟨D, ho, hs, _, _⟩ := h; rw [ho.len hm ty, hs]
theorem GM.put (h : GM w b c f) (hk : i64ok k) (hm : Tryz.prog.underlying mt = some (.map 3 et)) (v : Value) (hc : c < 1000000) :
  ∃ w', (Instr.mapUpdate mt (.map (some b)) (.int .i64 k) v).run Tryz.prog w = .ok () w' ∧ GM w' b (if (f k).isSome then c else c + 1) (updV f k (some v)) ∧ Chg [b] w w' := by
 obtain ⟨D, ho, hs, ht, hf⟩ := h
 have hkl : WideAt.IsKeyLit (Lit.int .i64 k) := by trivial
 obtain ⟨w', hrun, ho', htn⟩ := ho.store law hm (by unfold maxLen; omega) (keyOf_int_mk Tryz.underlying3 hk.wf) (d := .held v) (ps := []) rfl; have hsz := Maps.size_put (k := .int .i64 k) ht (.held v); rw [(hf k hk).1, hs] at hsz
 refine ⟨w', hrun, ⟨_, hsz ▸ own_tightV ho', hsz, ht.put hkl _, fun j hj => ?_⟩, Chg.of_grown (row := some b) htn.grown⟩
 by_cases e : j = k
 ·subst e
  rw [updV_same]
  exact ⟨Maps.has_put_same ht.isMap hkl _, fun z => Maps.atKey_put_same ht.isMap hkl _ _⟩
 ·have hne : (Lit.int .i64 j) ≠ (Lit.int .i64 k) := fun h => e (by injection h)
  rw [updV_other e, Maps.has_put_other hne]
  exact ⟨(hf j hj).1, fun z => by rw [Maps.atKey_put_other hne]; exact (hf j hj).2 z⟩
theorem GM.del (h : GM w b c f) (hk : i64ok k) (hm : Tryz.prog.underlying mt = some (.map 3 et)) (ty : TypeId) :
  ∃ w', (Builtin.delete_ #[mt, 3] ty #[.map (some b), .int .i64 k]).run Tryz.prog w = .ok (.tuple #[]) w' ∧ GM w' b (if (f k).isSome then c - 1 else c) (updV f k none) ∧ Chg [b] w w' := by
 obtain ⟨D, ho, hs, ht, hf⟩ := h; obtain ⟨w', hrun, ho', htn⟩ := ho.drop law hm (keyOf_int_mk Tryz.underlying3 hk.wf) ty; have hsz := Maps.size_del (k := .int .i64 k) ht; rw [(hf k hk).1, hs] at hsz
 have hsz2 : Maps.size (D.del (.int .i64 k)) = if (f k).isSome then c - 1 else c := by
  cases h1 : (f k).isSome <;> rw [h1] at hsz <;> simp at hsz ⊢ <;> omega
 refine ⟨w', hrun, ⟨_, hsz2 ▸ own_tightV ho', hsz2, ht.del _, fun j hj => ?_⟩, Chg.of_grown (row := some b) htn.grown⟩
 by_cases e : j = k
 ·subst e
  rw [updV_same]
  exact ⟨Maps.has_del_same, fun z => Maps.atKey_del_same _⟩
 ·have hne : (Lit.int .i64 j) ≠ (Lit.int .i64 k) := fun h => e (by injection h)
  rw [updV_other e, Maps.has_del_other hne]
  exact ⟨(hf j hj).1, fun z => by rw [Maps.atKey_del_other hne]; exact (hf j hj).2 z⟩
end

section
variable {α : Type} (key : α → Int)
def Rise (L : List α) : Prop := L.Pairwise fun a b => key a < key b
def fd (L : List α) (k : Int) : Option α := L.find? fun x => key x == k
def ins (x : α) : List α → List α
 |[] => [x]
 |y :: t => if key y < key x then y :: ins x t else if key y = key x then x :: t else x :: y :: t
def out (L : List α) (k : Int) : List α := L.filter fun x => key x != k
end
section
variable {α : Type} {key : α → Int} {L : List α} {x y : α} {k j : Int}
theorem fd_nil : fd key ([] : List α) k = none := rfl
theorem fd_cons : fd key (y :: L) k = if key y = k then some y else fd key L k := by
 unfold fd; rw [List.find?_cons]
 by_cases h : key y = k
 ·simp [h]
 ·rw [if_neg h, show (key y == k) = false by simp [h]]
theorem fd_some (h : fd key L k = some y) : y ∈ L ∧ key y = k := by
 induction L with
 |nil => cases h
 |cons z t ih =>
  rw [fd_cons] at h
  split at h
  ·injection h with h
   subst h
   exact ⟨List.mem_cons_self .., by assumption⟩
  ·exact ⟨List.mem_cons_of_mem _ (ih h).1, (ih h).2⟩
theorem fd_none : fd key L k = none ↔ ∀ y ∈ L, key y ≠ k := by
 induction L with
 |nil => simp [fd_nil]
 |cons z t ih =>
  rw [fd_cons]
  by_cases h : key z = k
  ·simp [h]
  ·simp [h, ih]
theorem fd_mem (h : Rise key L) (hy : y ∈ L) : fd key L (key y) = some y := by
 induction L with
 |nil => cases hy
 |cons z t ih =>
  rw [fd_cons]; obtain ⟨h1, h2⟩ := List.pairwise_cons.1 h
  rcases List.mem_cons.1 hy with rfl | hy
  ·rw [if_pos rfl]
  ·have := h1 y hy
   rw [if_neg (by omega)]
   exact ih h2 hy
theorem fd_get (h : Rise key L) {i : Nat} (hi : i < L.length) : fd key L (key L[i]) = some L[i] := fd_mem h (List.getElem_mem hi)
theorem mem_ins (h : Rise key L) : y ∈ ins key x L ↔ y = x ∨ (y ∈ L ∧ key y ≠ key x) := by
 induction L with
 |nil => simp [ins]
 |cons z t ih =>
  obtain ⟨h1, h2⟩ := List.pairwise_cons.1 h; unfold ins
  split
  ·rw [List.mem_cons, ih h2, List.mem_cons]
   constructor
   ·rintro (rfl | rfl | ⟨h3, h4⟩)
    ·exact Or.inr ⟨Or.inl rfl, by omega⟩
    ·exact Or.inl rfl
    ·exact Or.inr ⟨Or.inr h3, h4⟩
   ·rintro (rfl | ⟨rfl | h3, h4⟩)
    ·exact Or.inr (Or.inl rfl)
    ·exact Or.inl rfl
    ·exact Or.inr (Or.inr ⟨h3, h4⟩)
  ·split
   ·rw [List.mem_cons, List.mem_cons]
    constructor
    ·rintro (rfl | h3)
     ·exact Or.inl rfl
     ·exact Or.inr ⟨Or.inr h3, by have := h1 y h3; omega⟩
    ·rintro (rfl | ⟨rfl | h3, h4⟩)
     ·exact Or.inl rfl
     ·contradiction
     ·exact Or.inr h3
   ·rw [List.mem_cons]
    constructor
    ·rintro (rfl | h3)
     ·exact Or.inl rfl
     ·refine Or.inr ⟨h3, ?_⟩
      rcases List.mem_cons.1 h3 with rfl | h3
      ·omega
      ·have := h1 y h3; omega
    ·rintro (rfl | ⟨h3, h4⟩)
     ·exact Or.inl rfl
     ·exact Or.inr h3
theorem Rise.ins (h : Rise key L) (x : α) : Rise key (ins key x L) := by
 induction L with
 |nil => exact List.pairwise_singleton _ _
 |cons z t ih =>
  obtain ⟨h1, h2⟩ := List.pairwise_cons.1 h; unfold Go.Proofs.YtcahcjfgmdpdoaaGreat.ins
  split
  ·refine List.pairwise_cons.2 ⟨fun y hy => ?_, ih h2⟩
   rcases (mem_ins h2).1 hy with rfl | ⟨h3, _⟩
   ·assumption
   ·exact h1 y h3
  ·split
   ·exact List.pairwise_cons.2 ⟨fun y hy => by have := h1 y hy; omega, h2⟩
   ·refine List.pairwise_cons.2 ⟨fun y hy => ?_, h⟩
    rcases List.mem_cons.1 hy with rfl | h3
    ·omega
    ·have := h1 y h3; omega
theorem ins_length (h : Rise key L) (x : α) : (ins key x L).length = if (fd key L (key x)).isSome then L.length else L.length + 1 := by
 induction L with
 |nil => rfl
 |cons z t ih =>
  obtain ⟨h1, h2⟩ := List.pairwise_cons.1 h; unfold ins; rw [fd_cons]
  by_cases e1 : key z < key x
  ·rw [if_pos e1, if_neg (show ¬ key z = key x by omega), List.length_cons, ih h2, List.length_cons]
   split <;> rfl
  ·rw [if_neg e1]
   by_cases e2 : key z = key x
   ·rw [if_pos e2, if_pos e2]
    simp
   ·rw [if_neg e2, if_neg e2, fd_none.2 (fun y hy => by have := h1 y hy; omega)]
    simp
theorem fd_ins (h : Rise key L) : fd key (ins key x L) j = if j = key x then some x else fd key L j := by
 have hr := h.ins x
 split
 ·rename_i e
  rw [e]
  exact fd_mem hr ((mem_ins h).2 (Or.inl rfl))
 ·rename_i e
  cases hf : fd key L j with
  |none =>
   rw [fd_none] at hf ⊢
   intro y hy
   rcases (mem_ins h).1 hy with rfl | ⟨h3, _⟩
   ·exact fun h => e h.symm
   ·exact hf y h3
  |some y =>
   obtain ⟨h1, rfl⟩ := fd_some hf
   exact fd_mem hr ((mem_ins h).2 (Or.inr ⟨h1, e⟩))
theorem Rise.out (h : Rise key L) (k : Int) : Rise key (out key L k) := List.Pairwise.sublist List.filter_sublist h
theorem mem_out : y ∈ out key L k ↔ y ∈ L ∧ key y ≠ k := by
 unfold out; rw [List.mem_filter]
 simp
theorem out_length (h : Rise key L) (k : Int) : (out key L k).length = if (fd key L k).isSome then L.length - 1 else L.length := by
 induction L with
 |nil => rfl
 |cons z t ih =>
  obtain ⟨h1, h2⟩ := List.pairwise_cons.1 h; rw [fd_cons]; unfold out at ih ⊢; rw [List.filter_cons]
  by_cases e : key z = k
  ·have : t.filter (fun x => key x != k) = t := List.filter_eq_self.2 fun y hy => by have := h1 y hy; simp; omega
   simp [e, this]
  ·have hz : (key z != k) = true := by simp [e]
   rw [hz, if_pos rfl, if_neg e, List.length_cons, ih h2]
   split
   ·rename_i hs
    obtain ⟨y, hy⟩ := Option.isSome_iff_exists.1 hs; have := List.length_pos_of_mem (fd_some hy).1; rw [List.length_cons]; omega
   ·rfl
theorem fd_out (h : Rise key L) : fd key (out key L k) j = if j = k then none else fd key L j := by
 split
 ·rename_i e
  rw [fd_none]
  intro y hy
  rw [e]
  exact (mem_out.1 hy).2
 ·rename_i e
  cases hf : fd key L j with
  |none =>
   rw [fd_none] at hf ⊢
   exact fun y hy => hf y (mem_out.1 hy).1
  |some y =>
   obtain ⟨h1, rfl⟩ := fd_some hf
   exact fd_mem (h.out k) (mem_out.2 ⟨h1, e⟩)
theorem Rise.nodup (h : Rise key L) : (L.map key).Nodup := by
 refine List.Pairwise.map key (fun a b hab => ?_) h
 omega
theorem keys_sorted (h : Rise key L) {ss : List Int} (hp : ss.Perm (L.map key)) : ss.mergeSort (fun x y => decide (x ≤ y)) = L.map key := by
 have h1 : (ss.mergeSort fun x y => decide (x ≤ y)).Perm (L.map key) := (List.mergeSort_perm ss _).trans hp
 have h2 : (ss.mergeSort fun x y => decide (x ≤ y)).Pairwise fun a b => a ≤ b := by
  have := List.pairwise_mergeSort (le := fun x y : Int => decide (x ≤ y)) (fun a b c h1 h2 => by simp at *; omega) (fun a b => by simp; omega) ss
  exact this.imp fun h => by simpa using h
 have h3 : (L.map key).Pairwise fun a b => a ≤ b := List.Pairwise.map key (fun a b hab => Int.le_of_lt hab) h
 exact h1.eq_of_pairwise (le := fun a b => a ≤ b) (fun a b _ _ h4 h5 => by omega) h2 h3
end
structure Tab {α : Type} (key : α → Int) (val : α → Value) (w : World) (b : Nat) (L : List α) : Prop where
 gm : GM w b L.length fun k => (fd key L k).map val
 rise : Rise key L
 ok : ∀ x ∈ L, i64ok (key x)
section
variable {α : Type} {key : α → Int} {val : α → Value} {w w' : World} {b : Nat} {L : List α} {k : Int} {mt et : TypeId}
theorem Tab.lt (h : Tab key val w b L) : b < w.heap.size := h.gm.lt
theorem Tab.chg {G : List Nat} (h : Tab key val w b L) (hc : Chg G w w') (hn : b ∉ G) : Tab key val w' b L := ⟨h.gm.chg hc hn, h.rise, h.ok⟩
theorem Tab.below (h : Tab key val w b L) (hb : Below w.heap.size w w') : Tab key val w' b L := ⟨h.gm.below hb, h.rise, h.ok⟩
theorem Tab.made (w : World) : Tab key val (w.alloc (.map #[] 0)) w.heap.size [] := ⟨GM.made w, List.Pairwise.nil, by simp⟩
theorem GM.congr {c c' : Nat} {f f' : Int → Option Value} (h : GM w b c f) (e : c = c') (hf : ∀ k, i64ok k → f k = f' k) : GM w b c' f' := by
 subst e; obtain ⟨D, h1, h2, h3, h4⟩ := h
 exact ⟨D, h1, h2, h3, fun k hk => by rw [← hf k hk]; exact h4 k hk⟩
theorem Tab.put (h : Tab key val w b L) (x : α) (hx : i64ok (key x)) (hm : Tryz.prog.underlying mt = some (.map 3 et)) (hn : L.length < 1000000) :
  ∃ w', (Instr.mapUpdate mt (.map (some b)) (.int .i64 (key x)) (val x)).run Tryz.prog w = .ok () w' ∧ Tab key val w' b (ins key x L) ∧ Chg [b] w w' := by
 obtain ⟨w', hrun, hg, hc⟩ := h.gm.put hx hm (val x) hn
 refine ⟨w', hrun, ⟨hg.congr ?_ fun j _ => ?_, h.rise.ins x, fun y hy => ?_⟩, hc⟩
 ·rw [ins_length h.rise, Option.isSome_map]
 ·rw [fd_ins h.rise]
  unfold updV
  split <;> simp
 ·rcases (mem_ins h.rise).1 hy with rfl | ⟨h3, _⟩
  ·exact hx
  ·exact h.ok y h3
theorem Tab.del (h : Tab key val w b L) (hk : i64ok k) (hm : Tryz.prog.underlying mt = some (.map 3 et)) (ty : TypeId) :
  ∃ w', (Builtin.delete_ #[mt, 3] ty #[.map (some b), .int .i64 k]).run Tryz.prog w = .ok (.tuple #[]) w' ∧ Tab key val w' b (out key L k) ∧ Chg [b] w w' := by
 obtain ⟨w', hrun, hg, hc⟩ := h.gm.del hk hm ty
 refine ⟨w', hrun, ⟨hg.congr ?_ fun j _ => ?_, h.rise.out k, fun y hy => h.ok y (mem_out.1 hy).1⟩, hc⟩
 ·rw [out_length h.rise, Option.isSome_map]
 ·rw [fd_out h.rise]
  unfold updV
  split <;> simp
theorem Tab.look (h : Tab key val w b L) (hk : i64ok k) (hm : Tryz.prog.underlying mt = some (.map 3 et)) {z : Value} (hz : (zeroValue et).run Tryz.prog w = .ok z w) :
  (Instr.lookup mt (.map (some b)) (.int .i64 k) false).run Tryz.prog w = .ok (((fd key L k).map val).getD z) w := h.gm.look hk hm hz
theorem Tab.look_ok (h : Tab key val w b L) (hk : i64ok k) (hm : Tryz.prog.underlying mt = some (.map 3 et)) {z : Value} (hz : (zeroValue et).run Tryz.prog w = .ok z w) :
  (Instr.lookup mt (.map (some b)) (.int .i64 k) true).run Tryz.prog w = .ok (.tuple #[((fd key L k).map val).getD z, .bool (fd key L k).isSome]) w := by
 have := h.gm.look_ok hk hm hz; rw [Option.isSome_map] at this
 exact this
theorem Tab.len (h : Tab key val w b L) (hm : Tryz.prog.underlying mt = some (.map 3 et)) (ty : TypeId) : (Builtin.len_ #[mt] ty #[.map (some b)]).run Tryz.prog w = .ok (.int .i64 L.length) w := h.gm.len hm ty
theorem GM.keys {c : Nat} {f : Int → Option Value} (h : GM w b c f) : ∃ D : DataW Value, w.ownsMap Tryz.prog 3 wholeE b c D ∧ Maps.size D = c ∧ Maps.Tidy D ∧ ∀ k, i64ok k → Maps.has D (.int .i64 k) = (f k).isSome := by
 obtain ⟨D, h1, h2, h3, h4⟩ := h
 exact ⟨D, h1, h2, h3, fun k hk => (h4 k hk).1⟩
end
end Go.Proofs.YtcahcjfgmdpdoaaGreat
