/- One text of: Que. -/
import Derived.Laws.AppendOwn
import Derived.Test.YtcgecalbgkkinaaGreatQBase
namespace Go.Proofs.YtcgecalbgkkinaaGreat
open Go.RowKit Go.Proofs
set_option linter.unusedVariables false

def Que (w : World) (e : TypeId) (size : Nat) (v : Value) (n : Nat) (xs : List Value) : Prop :=
  xs.length = n * size ∧
  ((v = .slice none 0 0 ∧ n = 0) ∨
   ∃ g o cap cur, v = .slice (some ⟨g, o, none⟩) n cap ∧ w.heap[g]? = some (.cells cur e (0, 0)) ∧ n ≤ cap ∧ cap ≤ maxLen ∧ o + cap * size ≤ cur.size ∧ (cur.toList.drop o).take (n * size) = xs)
section
variable {w w' : World} {e : TypeId} {size n : Nat} {v : Value} {xs : List Value} {L : List Nat}
theorem Que.nil (w : World) (e : TypeId) (size : Nat) : Que w e size (.slice none 0 0) 0 [] := ⟨by simp, .inl ⟨rfl, rfl⟩⟩
theorem Que.lt (h : Que w e size v n xs) {g : Nat} (hg : v.ownBlock = some g) : g < w.heap.size := by
  rcases h.2 with ⟨rfl, _⟩ | ⟨g', o, cap, cur, rfl, hgg, _⟩
  · simp [Value.ownBlock] at hg
  · simp [Value.ownBlock] at hg
    subst hg
    exact heap_lt hgg
theorem Que.blk (h : Que w e size v n xs) {g : Nat} (hg : v.ownBlock = some g) : ∃ cs, w.heap[g]? = some (.cells cs e (0, 0)) := by
  rcases h.2 with ⟨rfl, _⟩ | ⟨g', o, cap, cur, rfl, hgg, _⟩
  · simp [Value.ownBlock] at hg
  · simp [Value.ownBlock] at hg
    subst hg
    exact ⟨_, hgg⟩
theorem Que.chg (h : Que w e size v n xs) (hc : Chg L w w') (hn : ∀ g, v.ownBlock = some g → g ∉ L) : Que w' e size v n xs := by
  refine ⟨h.1, ?_⟩
  rcases h.2 with h0 | ⟨g, o, cap, cur, rfl, hgg, rest⟩
  · exact .inl h0
  · exact .inr ⟨g, o, cap, cur, rfl, by rw [hc.block g (heap_lt hgg) (hn g rfl)]; exact hgg, rest⟩
theorem Que.below (h : Que w e size v n xs) (hb : Below w.heap.size w w') : Que w' e size v n xs := h.chg (Chg.of_below (L := []) hb) (fun _ _ hx => by cases hx)
theorem Que.form (h : Que w e size v n xs) : ∃ A cap, v = .slice A n cap ∧ n ≤ cap ∧ cap ≤ maxLen := by
  rcases h.2 with ⟨rfl, rfl⟩ | ⟨g, o, cap, cur, rfl, _, hn, hm, _⟩
  · exact ⟨none, 0, rfl, Nat.le_refl _, by unfold maxLen; omega⟩
  · exact ⟨_, cap, rfl, hn, hm⟩
theorem Que.at_ (h : Que w e size v n xs) (hn : 0 < n) : ∃ g o cap, v = .slice (some ⟨g, o, none⟩) n cap ∧ n ≤ cap ∧ cap ≤ maxLen ∧ g < w.heap.size ∧ ∀ j u, xs[j]? = some u → w.cell? ⟨g, o + j, none⟩ = some u := by
  rcases h.2 with ⟨_, h0⟩ | ⟨g, o, cap, cur, rfl, hgg, hc, hm, hs, ht⟩
  · omega
  · refine ⟨g, o, cap, rfl, hc, hm, heap_lt hgg, fun j u hu => ?_⟩
    rw [cell_of_row w g (o + j) cur e (0, 0) hgg]
    rw [← ht, List.getElem?_take] at hu
    split at hu
    · simpa using hu
    · cases hu
end
section
variable {P : Program} (w : World)
end
end Go.Proofs.YtcgecalbgkkinaaGreat
