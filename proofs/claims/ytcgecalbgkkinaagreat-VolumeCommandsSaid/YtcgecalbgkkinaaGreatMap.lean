/- A map[int]int that the program holds, as a function from int to int or nothing. -/
import Derived.Test.YtcgecalbgkkinaaGreatSep
import Derived.Maps.OwnSet
namespace Go.Proofs.YtcgecalbgkkinaaGreat
open Go.RowKit Go.Proofs Go.Maps
set_option linter.unusedVariables false

def i64ok (k : Int) : Prop := -9223372036854775808 ≤ k ∧ k ≤ 9223372036854775807
theorem i64ok.wf {k : Int} (h : i64ok k) : (Lit.int .i64 k).wf = true := WalkArith.wf_i64 h
/-- block b is a map that holds just f, which has c keys -/
def IM (w : World) (b c : Nat) (f : Int → Option Int) : Prop :=
  ∃ D : DataW Unit, w.ownsMap Tryz.prog 3 (plainElem Tryz.prog 3) b c D ∧ Maps.size D = c ∧ Maps.Tidy D ∧
    ∀ k, i64ok k → Maps.has D (.int .i64 k) = (f k).isSome ∧ D.atKey (.int .i64 k) (.lit (.int .i64 0)) = .lit (.int .i64 ((f k).getD 0))
theorem law : Keyed Tryz.prog 3 := int_keyed Tryz.underlying3
theorem zeroE (w : World) : (zeroValue 3).run Tryz.prog w = .ok (.int .i64 0) w := by kernel_rfl
theorem own_tight {w : World} {P : Program} {k : TypeId} {R : Value → Option (DataW Unit × List MemPlace)} {b n : Nat} {D : DataW Unit} (h : w.ownsMap P k R b n D) : w.ownsMap P k R b (Maps.size D) D := by
  obtain ⟨es, clock, hb, F, hs, rfl⟩ := h
  exact ⟨es, clock, hb, F, by simp [Maps.size, length_sorted], rfl⟩
section
variable {w w' : World} {b c : Nat} {f : Int → Option Int} {k v : Int}
theorem IM.lt (h : IM w b c f) : b < w.heap.size := by obtain ⟨D, h, _⟩ := h; exact h.lt
theorem IM.keep (h : IM w b c f) (hk : w'.heap[b]? = w.heap[b]?) : IM w' b c f := by
  obtain ⟨D, ⟨es, clock, hb, F, hs, hD⟩, h2⟩ := h
  exact ⟨D, ⟨es, clock, hk.trans hb, F, hs, hD⟩, h2⟩
theorem IM.chg {L : List Nat} (h : IM w b c f) (hc : Chg L w w') (hn : b ∉ L) : IM w' b c f := h.keep (hc.block b h.lt hn)
theorem IM.made (w : World) : IM (w.alloc (.map #[] 0)) w.heap.size 0 (fun _ => none) :=
  ⟨.map [], World.ownsMap_made _ _ _ _, rfl, Maps.tidy_empty, fun k _ => ⟨rfl, rfl⟩⟩
set_option maxRecDepth 100000 in
theorem IM.look_ok (h : IM w b c f) (hk : i64ok k) : (Instr.lookup 60 (.map (some b)) (.int .i64 k) true).run Tryz.prog w = .ok (.tuple #[.int .i64 ((f k).getD 0), .bool (f k).isSome]) w := by
  obtain ⟨D, ho, _, _, hf⟩ := h
  obtain ⟨v, ps, hrun, hv⟩ := ho.look_ok law Tryz.underlying60 (zeroE w) (plainElem_int Tryz.underlying3 (by decide)) (keyOf_int_mk Tryz.underlying3 hk.wf)
  obtain ⟨a, rfl, hc, _⟩ := plainElem_int_inv Tryz.underlying3 hv
  obtain ⟨h1, h2⟩ := hf k hk
  have h3 := congrArg Prod.fst hc
  rw [h2] at h3
  injection h3 with h4
  injection h4 with h4 h5
  rw [hrun, h1, ← h5]
set_option maxRecDepth 100000 in
theorem IM.look (h : IM w b c f) (hk : i64ok k) : (Instr.lookup 60 (.map (some b)) (.int .i64 k) false).run Tryz.prog w = .ok (.int .i64 ((f k).getD 0)) w := by
  obtain ⟨D, ho, _, _, hf⟩ := h
  obtain ⟨v, hrun, hv, _⟩ := ho.lookup_int law Tryz.underlying60 Tryz.underlying3 (zeroE w) (keyOf_int_mk Tryz.underlying3 hk.wf)
  obtain ⟨h1, h2⟩ := hf k hk
  rw [h2] at hv
  injection hv with h4
  injection h4 with h4 h5
  rw [hrun, ← h5]
def upd (f : Int → Option Int) (k : Int) (o : Option Int) : Int → Option Int := fun j => if j = k then o else f j
theorem upd_same (f : Int → Option Int) (k : Int) (o : Option Int) : upd f k o k = o := by simp [upd]
theorem upd_other {j : Int} (h : j ≠ k) (o : Option Int) : upd f k o j = f j := by simp [upd, h]
theorem IM.put (h : IM w b c f) (hk : i64ok k) (hv : i64ok v) (hc : c < 1000000) :
    ∃ w', (Instr.mapUpdate 60 (.map (some b)) (.int .i64 k) (.int .i64 v)).run Tryz.prog w = .ok () w' ∧ IM w' b (if (f k).isSome then c else c + 1) (upd f k (some v)) ∧ Chg [b] w w' := by
  obtain ⟨D, ho, hs, ht, hf⟩ := h
  have hkl : WideAt.IsKeyLit (Lit.int .i64 k) := by trivial
  obtain ⟨w', hrun, ho', htn⟩ := ho.store law Tryz.underlying60 (by unfold maxLen; omega) (keyOf_int_mk Tryz.underlying3 hk.wf) (plainElem_int Tryz.underlying3 hv.wf)
  have hsz := Maps.size_put (k := .int .i64 k) ht (.lit (.int .i64 v))
  rw [(hf k hk).1, hs] at hsz
  refine ⟨w', hrun, ⟨_, hsz ▸ own_tight ho', hsz, ht.put hkl _, fun j hj => ?_⟩, Chg.of_grown (row := some b) htn.grown⟩
  by_cases e : j = k
  · subst e
    rw [upd_same]
    exact ⟨Maps.has_put_same ht.isMap hkl _, Maps.atKey_put_same ht.isMap hkl _ _⟩
  · have hne : (Lit.int .i64 j) ≠ (Lit.int .i64 k) := fun h => e (by injection h)
    rw [upd_other e, Maps.has_put_other hne, Maps.atKey_put_other hne]
    exact hf j hj
theorem IM.del (h : IM w b c f) (hk : i64ok k) (ty : TypeId) :
    ∃ w', (Builtin.delete_ #[60, 3] ty #[.map (some b), .int .i64 k]).run Tryz.prog w = .ok (.tuple #[]) w' ∧ IM w' b (if (f k).isSome then c - 1 else c) (upd f k none) ∧ Chg [b] w w' := by
  obtain ⟨D, ho, hs, ht, hf⟩ := h
  obtain ⟨w', hrun, ho', htn⟩ := ho.drop law Tryz.underlying60 (keyOf_int_mk Tryz.underlying3 hk.wf) ty
  have hsz := Maps.size_del (k := .int .i64 k) ht
  rw [(hf k hk).1, hs] at hsz
  have hsz2 : Maps.size (D.del (.int .i64 k)) = if (f k).isSome then c - 1 else c := by
    cases h1 : (f k).isSome <;> rw [h1] at hsz <;> simp at hsz ⊢ <;> omega
  refine ⟨w', hrun, ⟨_, hsz2 ▸ own_tight ho', hsz2, ht.del _, fun j hj => ?_⟩, Chg.of_grown (row := some b) htn.grown⟩
  by_cases e : j = k
  · subst e
    rw [upd_same]
    exact ⟨Maps.has_del_same, Maps.atKey_del_same _⟩
  · have hne : (Lit.int .i64 j) ≠ (Lit.int .i64 k) := fun h => e (by injection h)
    rw [upd_other e, Maps.has_del_other hne, Maps.atKey_del_other hne]
    exact hf j hj
end
end Go.Proofs.YtcgecalbgkkinaaGreat
