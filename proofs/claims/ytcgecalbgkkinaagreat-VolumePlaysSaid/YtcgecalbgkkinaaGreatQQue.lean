/- One text of: Que. -/
import Derived.Laws.AppendOwn
import Derived.Test.YtcgecalbgkkinaaGreatQBase
namespace Go.Proofs.YtcgecalbgkkinaaGreat
open Go.RowKit Go.Proofs
set_option linter.unusedVariables false

def Que (w : World) (e : TypeId) (size : Nat) (v : Value) (n : Nat) (xs : List Value) : Prop :=
  xs.length = n * size ∧
  ((v = .slice none 0 0 ∧ n = 0) ∨
   ∃ g o cap cur, v = .slice (some ⟨g, o, none⟩) n cap ∧ w.heap[g]? = some (.cells cur e (0, 0)) ∧ n ≤ cap ∧ cap ≤ maxLen ∧ o + cap * size ≤ cur.size ∧ (cur.toList.drop o).take (n * size) = xs)
section
variable {w w' : World} {e : TypeId} {size n : Nat} {v : Value} {xs : List Value} {L : List Nat}
theorem Que.nil (w : World) (e : TypeId) (size : Nat) : Que w e size (.slice none 0 0) 0 [] := ⟨by simp, .inl ⟨rfl, rfl⟩⟩
theorem Que.lt (h : Que w e size v n xs) {g : Nat} (hg : v.ownBlock = some g) : g < w.heap.size := by
  rcases h.2 with ⟨rfl, _⟩ | ⟨g', o, cap, cur, rfl, hgg, _⟩
  · simp [Value.ownBlock] at hg
  · simp [Value.ownBlock] at hg
    subst hg
    exact heap_lt hgg
theorem Que.blk (h : Que w e size v n xs) {g : Nat} (hg : v.ownBlock = some g) : ∃ cs, w.heap[g]? = some (.cells cs e (0, 0)) := by
  rcases h.2 with ⟨rfl, _⟩ | ⟨g', o, cap, cur, rfl, hgg, _⟩
  · simp [Value.ownBlock] at hg
  · simp [Value.ownBlock] at hg
    subst hg
    exact ⟨_, hgg⟩
theorem Que.chg (h : Que w e size v n xs) (hc : Chg L w w') (hn : ∀ g, v.ownBlock = some g → g ∉ L) : Que w' e size v n xs := by
  refine ⟨h.1, ?_⟩
  rcases h.2 with h0 | ⟨g, o, cap, cur, rfl, hgg, rest⟩
  · exact .inl h0
  · exact .inr ⟨g, o, cap, cur, rfl, by rw [hc.block g (heap_lt hgg) (hn g rfl)]; exact hgg, rest⟩
theorem Que.below (h : Que w e size v n xs) (hb : Below w.heap.size w w') : Que w' e size v n xs := h.chg (Chg.of_below (L := []) hb) (fun _ _ hx => by cases hx)
theorem Que.form (h : Que w e size v n xs) : ∃ A cap, v = .slice A n cap ∧ n ≤ cap ∧ cap ≤ maxLen := by
  rcases h.2 with ⟨rfl, rfl⟩ | ⟨g, o, cap, cur, rfl, _, hn, hm, _⟩
  · exact ⟨none, 0, rfl, Nat.le_refl _, by unfold maxLen; omega⟩
  · exact ⟨_, cap, rfl, hn, hm⟩
theorem Que.at_ (h : Que w e size v n xs) (hn : 0 < n) : ∃ g o cap, v = .slice (some ⟨g, o, none⟩) n cap ∧ n ≤ cap ∧ cap ≤ maxLen ∧ g < w.heap.size ∧ ∀ j u, xs[j]? = some u → w.cell? ⟨g, o + j, none⟩ = some u := by
  rcases h.2 with ⟨_, h0⟩ | ⟨g, o, cap, cur, rfl, hgg, hc, hm, hs, ht⟩
  · omega
  · refine ⟨g, o, cap, rfl, hc, hm, heap_lt hgg, fun j u hu => ?_⟩
    rw [cell_of_row w g (o + j) cur e (0, 0) hgg]
    rw [← ht, List.getElem?_take] at hu
    split at hu
    · simpa using hu
    · cases hu
/-- without the first one -/
theorem Que.tail {g o o' cap cap' : Nat} (h : Que w e size (.slice (some ⟨g, o, none⟩) n cap) n xs) (hn : 0 < n) (hc : cap' = cap - 1) (ho : o' = o + size ∨ (o' = o ∧ cap = 1)) : Que w e size (.slice (some ⟨g, o', none⟩) (n - 1) cap') (n - 1) (xs.drop size) := by
  refine ⟨by rw [List.length_drop, h.1, Nat.sub_mul, Nat.one_mul], ?_⟩
  rcases h.2 with ⟨e0, _⟩ | ⟨g', o2, cap2, cur, e0, hgg, hcc, hm, hs, ht⟩
  · cases e0
  · cases e0
    refine .inr ⟨g, o', cap', cur, rfl, hgg, by omega, by omega, ?_, ?_⟩
    · subst hc
      have h1 : cap = cap - 1 + 1 := by omega
      have h2 : cap * size = (cap - 1) * size + size := by rw [← Nat.succ_mul]; congr 1
      rcases ho with rfl | ⟨rfl, rfl⟩
      · omega
      · simp; omega
    · have h2 : n * size = (n - 1) * size + size := by rw [← Nat.succ_mul]; congr 1; omega
      rcases ho with rfl | ⟨rfl, rfl⟩
      · rw [← ht, List.drop_take, List.drop_drop, h2, Nat.add_sub_cancel]
      · have : n = 1 := by omega
        subst this
        simp only [Nat.sub_self, Nat.zero_mul, List.take_zero]
        have := h.1
        rw [List.drop_of_length_le (by omega)]
end
section
variable {P : Program} (w : World)
theorem run_append_que (t ty e : TypeId) (i : TypeInfo) (z : Value) (size bytes : Nat) (ht : P.underlying t = some (.slice e)) (hi : P.info? e = some i) (hz : i.zero = some z)
    (hsize : i.size = size) (hby : i.bytes = bytes) (hzs : z.cells.size = size) (hsz : 0 < size)
    (v : Value) (n : Nat) (xs : List Value) (hown : Que w e size v n xs)
    (a : Addr) (m c : Nat) (news : List Value) (hl : news.length = m * size) (hnews : ∀ j u, news[j]? = some u → w.cell? (a.add j) = some u) (h1 : ∀ u ∈ news, u.oneCell' = true)
    (hm0 : 0 < m) (h63 : n + m ≤ maxLen) (hbytes : (n + m) * bytes ≤ 140737488355328) :
    ∃ g o cap w', (Builtin.append_ #[t, t] ty #[v, .slice (some a) m c]).run P w = .ok (.slice (some ⟨g, o, none⟩) (n + m) cap) w' ∧ Que w' e size (.slice (some ⟨g, o, none⟩) (n + m) cap) (n + m) (xs ++ news) ∧ w.grownBy w' v.ownBlock ∧
      (v.ownBlock = some g ∨ g = w.heap.size) := by
  subst hsize
  subst hby
  have hsmall : n + m ≤ 9223372036854775807 := by simp only [maxLen] at h63; omega
  have hlen : (xs ++ news).length = (n + m) * i.size := by rw [List.length_append, hown.1, hl, Nat.add_mul]
  have grown : ∀ (old : Nat), old < n + m → ∀ (row : Option Nat),
      Que (w.drew.alloc (.cells (xs.toArray ++ news.toArray ++ Builtin.zeroCells z.cells (grownCap w (n + m) old e - (n + m))) e)) e i.size
        (.slice (some ⟨w.heap.size, 0, none⟩) (n + m) (grownCap w (n + m) old e)) (n + m) (xs ++ news) ∧
      w.grownBy (w.drew.alloc (.cells (xs.toArray ++ news.toArray ++ Builtin.zeroCells z.cells (grownCap w (n + m) old e - (n + m))) e)) row := by
    intro old ho row
    have hge := grownCap_ge w (n + m) old e
    have hcm : grownCap w (n + m) old e ≤ maxLen := grownCap_le_maxLen w (n + m) old e h63
    refine ⟨⟨hlen, .inr ⟨w.heap.size, 0, _, _, rfl, heap_alloc_new w.drew _, hge, hcm, ?_, ?_⟩⟩, ⟨rfl, rfl, rfl, by simp, fun k hk _ => Go.heap_alloc_old w.drew _ hk⟩⟩
    · simp only [Array.size_append, List.size_toArray, size_zeroCells, hzs, hown.1, hl, ← Nat.add_mul, Nat.zero_add]
      exact Nat.mul_le_mul_right _ (by omega)
    · simp only [Array.toList_append, List.append_assoc, List.drop_zero]
      rw [← List.append_assoc, ← hlen]
      exact List.take_left
  rcases hown.2 with ⟨rfl, rfl⟩ | ⟨g, o, cap, cur, rfl, hg, hnc, hcm, hcs, htake⟩
  · have hx : xs = [] := List.eq_nil_of_length_eq_zero (by simpa using hown.1)
    subst hx
    have hr := run_append_nil (P := P) w t ty e i z ht hi hz a m c news hl hnews (by omega) (by omega) (by have hb := hbytes; simp only [Nat.zero_add] at hb; omega)
    have hgr := grown 0 (by omega) (Value.ownBlock (.slice none 0 0))
    simp only [Nat.zero_add, List.nil_append, Array.empty_append] at hgr ⊢
    exact ⟨_, _, _, _, hr, hgr.1, hgr.2, Or.inr rfl⟩
  · by_cases hroom : n + m ≤ cap
    · have hmul : (n + m) * i.size ≤ cap * i.size := Nat.mul_le_mul_right _ hroom
      have hfit : o + n * i.size + 0 + news.length ≤ cur.size := by rw [hl]; rw [Nat.add_mul] at hmul; omega
      have hr : (Builtin.append_ #[t, t] ty #[.slice (some ⟨g, o, none⟩) n cap, .slice (some a) m c]).run P w =
          .ok (.slice (some ⟨g, o, none⟩) (n + m) cap) (w.setRow g (cur.toList.take (o + n * i.size) ++ news ++ cur.toList.drop (o + n * i.size + news.length)).toArray) := by
        have hf := run_firstCells_some (P := P) w i.size m a m c news hl hnews
        have hst := run_storeCells_at P g (o + n * i.size) e news 0 cur w hg hfit h1
        simp only [Nat.add_zero] at hst
        simp [Builtin.append_, run_underlying ht, sizeOf, typeInfo, hi, Builtin.lenOf, hroom, hf, Addr.add_lit, hst]
      refine ⟨_, _, _, _, hr, ⟨hlen, .inr ⟨g, o, cap, _, rfl, setRow_heap w g cur _ e _ hg, hroom, hcm, ?_, ?_⟩⟩, ⟨rfl, rfl, rfl, by simp, fun k _ hk => setRow_other w g k _ (fun e => hk (by simp [Value.ownBlock, e]))⟩, Or.inl rfl⟩
      · simp only [List.size_toArray, List.length_append, List.length_take, List.length_drop, Array.length_toList]
        omega
      · have hcl : (cur.toList.take (o + n * i.size)).length = o + n * i.size := by rw [List.length_take, Array.length_toList]; omega
        show List.take ((n + m) * i.size) (List.drop o (cur.toList.take (o + n * i.size) ++ news ++ cur.toList.drop (o + n * i.size + news.length))) = xs ++ news
        rw [List.append_assoc, List.drop_append_of_le_length (by omega), List.drop_take, Nat.add_sub_cancel_left, htake, ← List.append_assoc, ← hlen]
        exact List.take_left
    · have holds : ∀ j u, xs[j]? = some u → w.cell? ((⟨g, o, none⟩ : Addr).add j) = some u := fun j u hu => by
        rw [add_addr]
        rw [cell_of_row w g (o + j) cur e (0, 0) hg]
        rw [← htake, List.getElem?_take] at hu
        split at hu
        · simpa using hu
        · cases hu
      have hr := run_append_grow (P := P) w t ty e i z ht hi hz ⟨g, o, none⟩ n cap xs hown.1 holds a m c news hl hnews (by omega) (by omega) (growslice_fits (by omega) hbytes)
      have hgr := grown cap (by omega) (Value.ownBlock (.slice (some ⟨g, o, none⟩) n cap))
      exact ⟨_, _, _, _, hr, hgr.1, hgr.2, Or.inr rfl⟩
theorem wp_append_que {o : Oper} {a : Act} {K : Act → World → Prop} {Q : Exit → Act → World → Prop} (s x : Operand) (t : TypeId)
    (ho : o.op = .call { callee := .builtin .append, args := #[s, x], argTypes := #[t, t] })
    (e : TypeId) (i : TypeInfo) (z : Value) (size bytes : Nat) (ht : P.underlying t = some (.slice e)) (hi : P.info? e = some i) (hz : i.zero = some z)
    (hsize : i.size = size) (hby : i.bytes = bytes) (hzs : z.cells.size = size) (hsz : 0 < size)
    (v : Value) (n : Nat) (xs : List Value) (hs : a.eval s = v) (hown : Que w e size v n xs)
    (B m c : Nat) (cs : List Value) (hx : a.eval x = .slice (some ⟨B, 0, none⟩) m c) (hB : Blk w B e cs) (hl : cs.length = m * size) (h1 : ∀ u ∈ cs, u.oneCell' = true)
    (hm : 0 < m) (h63 : n + m ≤ maxLen) (hbytes : (n + m) * bytes ≤ 140737488355328)
    (h : ∀ g q cap w', Que w' e size (.slice (some ⟨g, q, none⟩) (n + m) cap) (n + m) (xs ++ cs) → Chg v.ownBlock.toList w w' → (v.ownBlock = some g ∨ g = w.heap.size) →
      K (a.put o.dst (.slice (some ⟨g, q, none⟩) (n + m) cap)) w') : o.wp P a w K Q := by
  obtain ⟨g, q, cap, w', hr, h2, h3, h4⟩ := run_append_que (P := P) w t o.type e i z size bytes ht hi hz hsize hby hzs hsz v n xs hown ⟨B, 0, none⟩ m c cs hl hB.news h1 hm h63 hbytes
  unfold Oper.wp execOp
  simp only [ho, resolve, invoke, builtin, Sem.run_bind, Sem.run_pure, Result.andThen_ok, List.map_toArray, List.map_cons, List.map_nil, hs, hx, hr]
  exact h g q cap w' h2 (Chg.of_grown h3) h4
theorem wpl_append_que {ops : Array Oper} {rest : List Oper} {o : Oper} {a : Act} {Q : Exit → Act → World → Prop} (hgd : o.guard = none) (s x : Operand) (t : TypeId)
    (ho : o.op = .call { callee := .builtin .append, args := #[s, x], argTypes := #[t, t] })
    (e : TypeId) (i : TypeInfo) (z : Value) (size bytes : Nat) (ht : P.underlying t = some (.slice e)) (hi : P.info? e = some i) (hz : i.zero = some z)
    (hsize : i.size = size) (hby : i.bytes = bytes) (hzs : z.cells.size = size) (hsz : 0 < size)
    (v : Value) (n : Nat) (xs : List Value) (hs : a.eval s = v) (hown : Que w e size v n xs)
    (B m c : Nat) (cs : List Value) (hx : a.eval x = .slice (some ⟨B, 0, none⟩) m c) (hB : Blk w B e cs) (hl : cs.length = m * size) (h1 : ∀ u ∈ cs, u.oneCell' = true)
    (hm : 0 < m) (h63 : n + m ≤ maxLen) (hbytes : (n + m) * bytes ≤ 140737488355328)
    (h : ∀ g q cap w', Que w' e size (.slice (some ⟨g, q, none⟩) (n + m) cap) (n + m) (xs ++ cs) → Chg v.ownBlock.toList w w' → (v.ownBlock = some g ∨ g = w.heap.size) →
      wpList P ops Q rest (a.put o.dst (.slice (some ⟨g, q, none⟩) (n + m) cap)) w') : wpList P ops Q (o :: rest) a w :=
  wpList_plain hgd fun _ hK => wp_append_que w s x t ho e i z size bytes ht hi hz hsize hby hzs hsz v n xs hs hown B m c cs hx hB hl h1 hm h63 hbytes fun g q cap w' h2 h3 h4 => hK _ _ (h g q cap w' h2 h3 h4)
end
end Go.Proofs.YtcgecalbgkkinaaGreat
