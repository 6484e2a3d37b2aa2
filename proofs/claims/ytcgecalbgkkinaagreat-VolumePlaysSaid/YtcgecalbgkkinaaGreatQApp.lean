/- One text of: App. -/
import Derived.Deep.AppendSrc
import Derived.Deep.Upon
import Derived.Test.YtcgecalbgkkinaaGreatQQue
namespace Go.Proofs.YtcgecalbgkkinaaGreat
open Go.RowKit Go.Proofs
set_option linter.unusedVariables false

section
variable {P : Program} (w : World)
theorem run_append_src (t ty e : TypeId) (i : TypeInfo) (z : Value) (size bytes : Nat) (ht : P.underlying t = some (.slice e)) (hi : P.info? e = some i) (hz : i.zero = some z)
    (hsize : i.size = size) (hby : i.bytes = bytes) (hzs : z.cells.size = size) (hsz : 0 < size)
    (v : Value) (n : Nat) (xs : List Value) (hown : Que w e size v n xs)
    (A : Option Addr) (m c B : Nat) (news : List Value) (hR : Reads w B size A m news) (h1 : ∀ u ∈ news, u.oneCell' = true)
    (h63 : n + m ≤ maxLen) (hbytes : (n + m) * bytes ≤ 140737488355328) :
    ∃ A' cap w', (Builtin.append_ #[t, t] ty #[v, .slice A m c]).run P w = .ok (.slice A' (n + m) cap) w' ∧ Que w' e size (.slice A' (n + m) cap) (n + m) (xs ++ news) ∧ Chg v.ownBlock.toList w w' ∧
      (∀ g, A'.map Addr.block = some g → v.ownBlock = some g ∨ g = w.heap.size) := by
  by_cases hm : 0 < m
  · obtain ⟨b, o, rfl, _, hc⟩ := hR.at_ hm
    obtain ⟨g, q, cap, w', hr, h2, h3, h4⟩ := run_append_que (P := P) w t ty e i z size bytes ht hi hz hsize hby hzs hsz v n xs hown ⟨b, o, none⟩ m c news hR.1 (fun j u hu => by rw [add_addr]; exact hc j u hu) h1 hm h63 hbytes
    exact ⟨_, cap, w', hr, h2, Chg.of_grown h3, fun g' hg' => by
      have : g = g' := by simpa using hg'
      rw [← this]; exact h4⟩
  · have hm0 : m = 0 := by omega
    subst hm0
    have hn : news = [] := List.eq_nil_of_length_eq_zero (by simpa using hR.1)
    subst hn
    obtain ⟨A', cap, rfl, hle, _⟩ := hown.form
    have hs : Src P i.size t (.slice A 0 c) 0 [] w := by
      cases A with
      | none => exact Src.ofNil w ht c
      | some a => exact Src.ofSlice w ht a 0 c [] (by simp) (by simp) (by simp)
    refine ⟨A', cap, w, run_append_nothing w t t ty e i ht hi A' n cap hle _ hs, by simpa using hown, Chg.refl _ _, fun g hg => Or.inl ?_⟩
    cases A' with
    | none => cases hg
    | some a => simpa [Value.ownBlock] using hg
theorem wp_append_src {o : Oper} {a : Act} {K : Act → World → Prop} {Q : Exit → Act → World → Prop} (s x : Operand) (t : TypeId)
    (ho : o.op = .call { callee := .builtin .append, args := #[s, x], argTypes := #[t, t] })
    (e : TypeId) (i : TypeInfo) (z : Value) (size bytes : Nat) (ht : P.underlying t = some (.slice e)) (hi : P.info? e = some i) (hz : i.zero = some z)
    (hsize : i.size = size) (hby : i.bytes = bytes) (hzs : z.cells.size = size) (hsz : 0 < size)
    (v : Value) (n : Nat) (xs : List Value) (hs : a.eval s = v) (hown : Que w e size v n xs)
    (A : Option Addr) (m c B : Nat) (news : List Value) (hx : a.eval x = .slice A m c) (hR : Reads w B size A m news) (h1 : ∀ u ∈ news, u.oneCell' = true)
    (h63 : n + m ≤ maxLen) (hbytes : (n + m) * bytes ≤ 140737488355328)
    (h : ∀ A' cap w', Que w' e size (.slice A' (n + m) cap) (n + m) (xs ++ news) → Chg v.ownBlock.toList w w' → (∀ g, A'.map Addr.block = some g → v.ownBlock = some g ∨ g = w.heap.size) →
      K (a.put o.dst (.slice A' (n + m) cap)) w') : o.wp P a w K Q := by
  obtain ⟨A', cap, w', hr, h2, h3, h4⟩ := run_append_src (P := P) w t o.type e i z size bytes ht hi hz hsize hby hzs hsz v n xs hown A m c B news hR h1 h63 hbytes
  unfold Oper.wp execOp
  simp only [ho, resolve, invoke, builtin, Sem.run_bind, Sem.run_pure, Result.andThen_ok, List.map_toArray, List.map_cons, List.map_nil, hs, hx, hr]
  exact h A' cap w' h2 h3 h4
theorem wpl_append_src {ops : Array Oper} {rest : List Oper} {o : Oper} {a : Act} {Q : Exit → Act → World → Prop} (hgd : o.guard = none) (s x : Operand) (t : TypeId)
    (ho : o.op = .call { callee := .builtin .append, args := #[s, x], argTypes := #[t, t] })
    (e : TypeId) (i : TypeInfo) (z : Value) (size bytes : Nat) (ht : P.underlying t = some (.slice e)) (hi : P.info? e = some i) (hz : i.zero = some z)
    (hsize : i.size = size) (hby : i.bytes = bytes) (hzs : z.cells.size = size) (hsz : 0 < size)
    (v : Value) (n : Nat) (xs : List Value) (hs : a.eval s = v) (hown : Que w e size v n xs)
    (A : Option Addr) (m c B : Nat) (news : List Value) (hx : a.eval x = .slice A m c) (hR : Reads w B size A m news) (h1 : ∀ u ∈ news, u.oneCell' = true)
    (h63 : n + m ≤ maxLen) (hbytes : (n + m) * bytes ≤ 140737488355328)
    (h : ∀ A' cap w', Que w' e size (.slice A' (n + m) cap) (n + m) (xs ++ news) → Chg v.ownBlock.toList w w' → (∀ g, A'.map Addr.block = some g → v.ownBlock = some g ∨ g = w.heap.size) →
      wpList P ops Q rest (a.put o.dst (.slice A' (n + m) cap)) w') : wpList P ops Q (o :: rest) a w :=
  wpList_plain hgd fun _ hK => wp_append_src w s x t ho e i z size bytes ht hi hz hsize hby hzs hsz v n xs hs hown A m c B news hx hR h1 h63 hbytes fun A' cap w' h2 h3 h4 => hK _ _ (h A' cap w' h2 h3 h4)
end
/-- a fresh slice of no elements -/
theorem Que.fresh (w : World) (e : TypeId) (size : Nat) : Que (w.alloc (.cells #[] e)) e size (.slice (some ⟨w.heap.size, 0, none⟩) 0 0) 0 [] :=
  ⟨by simp, .inr ⟨_, 0, 0, #[], rfl, heap_alloc_new w _, Nat.le_refl _, Nat.zero_le _, by simp, by simp⟩⟩
end Go.Proofs.YtcgecalbgkkinaaGreat
