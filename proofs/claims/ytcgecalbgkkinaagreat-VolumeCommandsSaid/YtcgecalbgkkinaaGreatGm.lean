/- A map from int to whatever values (their cells kept word for word), as a function from int to a value or nothing. -/
import Derived.Test.YtcgecalbgkkinaaGreatMap
import Derived.Maps.RangeWalk
import Derived.Shelf.SlMaps.Clone
namespace Go.Proofs.YtcgecalbgkkinaaGreat
open Go.RowKit Go.Proofs Go.Maps
set_option linter.unusedVariables false

def wholeE (v : Value) : Option (DataW Value × List MemPlace) := some (.held v, [])
/-- block b is a map that holds just f, which has c keys -/
def GM (w : World) (b c : Nat) (f : Int → Option Value) : Prop :=
  ∃ D : DataW Value, w.ownsMap Tryz.prog 3 wholeE b c D ∧ Maps.size D = c ∧ Maps.Tidy D ∧
    ∀ k, i64ok k → Maps.has D (.int .i64 k) = (f k).isSome ∧ ∀ z, D.atKey (.int .i64 k) (.held z) = .held ((f k).getD z)
def updV (f : Int → Option Value) (k : Int) (o : Option Value) : Int → Option Value := fun j => if j = k then o else f j
theorem updV_same (f : Int → Option Value) (k : Int) (o : Option Value) : updV f k o k = o := by simp [updV]
theorem updV_other {f : Int → Option Value} {k j : Int} (h : j ≠ k) (o : Option Value) : updV f k o j = f j := by simp [updV, h]
theorem own_tightV {w : World} {P : Program} {k : TypeId} {R : Value → Option (DataW Value × List MemPlace)} {b n : Nat} {D : DataW Value} (h : w.ownsMap P k R b n D) : w.ownsMap P k R b (Maps.size D) D := by
  obtain ⟨es, clock, hb, F, hs, rfl⟩ := h
  exact ⟨es, clock, hb, F, by simp [Maps.size, length_sorted], rfl⟩
section
variable {w w' : World} {b c : Nat} {f : Int → Option Value} {k : Int} {mt et : TypeId}
theorem GM.lt (h : GM w b c f) : b < w.heap.size := by obtain ⟨D, h, _⟩ := h; exact h.lt
theorem GM.keep (h : GM w b c f) (hk : w'.heap[b]? = w.heap[b]?) : GM w' b c f := by
  obtain ⟨D, ⟨es, clock, hb, F, hs, hD⟩, h2⟩ := h
  exact ⟨D, ⟨es, clock, hk.trans hb, F, hs, hD⟩, h2⟩
theorem GM.chg {L : List Nat} (h : GM w b c f) (hc : Chg L w w') (hn : b ∉ L) : GM w' b c f := h.keep (hc.block b h.lt hn)
theorem GM.below (h : GM w b c f) (hb : Below w.heap.size w w') : GM w' b c f := h.chg (Chg.of_below (L := []) hb) (by simp)
theorem GM.made (w : World) : GM (w.alloc (.map #[] 0)) w.heap.size 0 (fun _ => none) :=
  ⟨.map [], World.ownsMap_made _ _ _ _, rfl, Maps.tidy_empty, fun k _ => ⟨rfl, fun _ => rfl⟩⟩
theorem wholeE_inv {v u : Value} {ps : List MemPlace} (h : wholeE v = some (.held u, ps)) : v = u := by
  unfold wholeE at h
  injection h with h
  injection h with h _
  injection h with h
theorem GM.look (h : GM w b c f) (hk : i64ok k) (hm : Tryz.prog.underlying mt = some (.map 3 et)) {z : Value} (hz : (zeroValue et).run Tryz.prog w = .ok z w) :
    (Instr.lookup mt (.map (some b)) (.int .i64 k) false).run Tryz.prog w = .ok ((f k).getD z) w := by
  obtain ⟨D, ho, _, _, hf⟩ := h
  obtain ⟨v, ps, hrun, hv⟩ := ho.lookup law hm hz (zd := .held z) (zp := []) rfl (keyOf_int_mk Tryz.underlying3 hk.wf)
  rw [(hf k hk).2 z] at hv
  rw [hrun, wholeE_inv hv]
theorem GM.look_ok (h : GM w b c f) (hk : i64ok k) (hm : Tryz.prog.underlying mt = some (.map 3 et)) {z : Value} (hz : (zeroValue et).run Tryz.prog w = .ok z w) :
    (Instr.lookup mt (.map (some b)) (.int .i64 k) true).run Tryz.prog w = .ok (.tuple #[(f k).getD z, .bool (f k).isSome]) w := by
  obtain ⟨D, ho, _, _, hf⟩ := h
  obtain ⟨v, ps, hrun, hv⟩ := ho.look_ok law hm hz (zd := .held z) (zp := []) rfl (keyOf_int_mk Tryz.underlying3 hk.wf)
  rw [(hf k hk).2 z] at hv
  rw [hrun, (hf k hk).1, wholeE_inv hv]
theorem GM.len (h : GM w b c f) (hm : Tryz.prog.underlying mt = some (.map 3 et)) (ty : TypeId) : (Builtin.len_ #[mt] ty #[.map (some b)]).run Tryz.prog w = .ok (.int .i64 c) w := by
  obtain ⟨D, ho, hs, _, _⟩ := h
  rw [ho.len hm ty, hs]
theorem GM.put (h : GM w b c f) (hk : i64ok k) (hm : Tryz.prog.underlying mt = some (.map 3 et)) (v : Value) (hc : c < 1000000) :
    ∃ w', (Instr.mapUpdate mt (.map (some b)) (.int .i64 k) v).run Tryz.prog w = .ok () w' ∧ GM w' b (if (f k).isSome then c else c + 1) (updV f k (some v)) ∧ Chg [b] w w' := by
  obtain ⟨D, ho, hs, ht, hf⟩ := h
  have hkl : WideAt.IsKeyLit (Lit.int .i64 k) := by trivial
  obtain ⟨w', hrun, ho', htn⟩ := ho.store law hm (by unfold maxLen; omega) (keyOf_int_mk Tryz.underlying3 hk.wf) (d := .held v) (ps := []) rfl
  have hsz := Maps.size_put (k := .int .i64 k) ht (.held v)
  rw [(hf k hk).1, hs] at hsz
  refine ⟨w', hrun, ⟨_, hsz ▸ own_tightV ho', hsz, ht.put hkl _, fun j hj => ?_⟩, Chg.of_grown (row := some b) htn.grown⟩
  by_cases e : j = k
  · subst e
    rw [updV_same]
    exact ⟨Maps.has_put_same ht.isMap hkl _, fun z => Maps.atKey_put_same ht.isMap hkl _ _⟩
  · have hne : (Lit.int .i64 j) ≠ (Lit.int .i64 k) := fun h => e (by injection h)
    rw [updV_other e, Maps.has_put_other hne]
    exact ⟨(hf j hj).1, fun z => by rw [Maps.atKey_put_other hne]; exact (hf j hj).2 z⟩
theorem GM.del (h : GM w b c f) (hk : i64ok k) (hm : Tryz.prog.underlying mt = some (.map 3 et)) (ty : TypeId) :
    ∃ w', (Builtin.delete_ #[mt, 3] ty #[.map (some b), .int .i64 k]).run Tryz.prog w = .ok (.tuple #[]) w' ∧ GM w' b (if (f k).isSome then c - 1 else c) (updV f k none) ∧ Chg [b] w w' := by
  obtain ⟨D, ho, hs, ht, hf⟩ := h
  obtain ⟨w', hrun, ho', htn⟩ := ho.drop law hm (keyOf_int_mk Tryz.underlying3 hk.wf) ty
  have hsz := Maps.size_del (k := .int .i64 k) ht
  rw [(hf k hk).1, hs] at hsz
  have hsz2 : Maps.size (D.del (.int .i64 k)) = if (f k).isSome then c - 1 else c := by
    cases h1 : (f k).isSome <;> rw [h1] at hsz <;> simp at hsz ⊢ <;> omega
  refine ⟨w', hrun, ⟨_, hsz2 ▸ own_tightV ho', hsz2, ht.del _, fun j hj => ?_⟩, Chg.of_grown (row := some b) htn.grown⟩
  by_cases e : j = k
  · subst e
    rw [updV_same]
    exact ⟨Maps.has_del_same, fun z => Maps.atKey_del_same _⟩
  · have hne : (Lit.int .i64 j) ≠ (Lit.int .i64 k) := fun h => e (by injection h)
    rw [updV_other e, Maps.has_del_other hne]
    exact ⟨(hf j hj).1, fun z => by rw [Maps.atKey_del_other hne]; exact (hf j hj).2 z⟩
end
end Go.Proofs.YtcgecalbgkkinaaGreat
