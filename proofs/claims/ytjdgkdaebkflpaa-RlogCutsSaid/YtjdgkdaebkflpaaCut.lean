/- The walks through slices.Clone at entries and rlog.Cut. -/
import Derived.Test.YtjdgkdaebkflpaaLg
namespace Go.Proofs.Ytjdgkdaebkflpaa
open Go.RowKit
set_option linter.unusedVariables false

set_option maxHeartbeats 1000000 in
theorem cloneE_nil (n c : Nat) (w : World) : Calls Try.prog 59 #[.slice none n c] w fun e w' => e = .returned (.slice none 0 0) ∧ w = w' := by
  have q22 : ∀ (w : World) (a : Option Addr) (n c n' c' : Nat), (binOp .eql 46 (.slice a n c) (.slice none n' c')).run Try.prog w = .ok (.bool a.isNone) w := fun w a n c n' c' => Lib.run_eql_slice_nil w _ _ a n c n' c' Try.underlying46
  go_enter Try.func59, Try.ntmps59
  go_wp2
  go_ret
  exact ⟨rfl, rfl⟩
set_option maxHeartbeats 1000000 in
theorem cloneE_some (b o n c : Nat) (xs : List Value) (w : World) (hl : xs.length = n * 3) (hn : n ≤ 1048576) (hc : ∀ j u, xs[j]? = some u → w.cell? ⟨b, o + j, none⟩ = some u) (h1 : ∀ u ∈ xs, u.oneCell' = true) :
    Calls Try.prog 59 #[.slice (some ⟨b, o, none⟩) n c] w fun e w' => ∃ v, e = .returned v ∧ w'.ownsRow 0 39 3 v n xs ∧ (∀ g, v.ownBlock = some g → w.heap.size ≤ g) ∧ Below w.heap.size w w' := by
  have q22 : ∀ (w : World) (a : Option Addr) (n c n' c' : Nat), (binOp .eql 46 (.slice a n c) (.slice none n' c')).run Try.prog w = .ok (.bool a.isNone) w := fun w a n c n' c' => Lib.run_eql_slice_nil w _ _ a n c n' c' Try.underlying46
  obtain ⟨i0, hi, hz0, hz1, hz2⟩ := info_parts Try.infoEnt
  have HC := hide hc
  clear hc
  go_enter Try.func59, Try.ntmps59
  go_wp2_with (at_builtin; refine wpList_append_own _ rfl _ _ 46 rfl w.heap.size 39 i0 _ 3 40 Try.underlying46 hi hz0 hz1 hz2 rfl (by decide) _ _ _ rfl (World.ownsRow_made w #[] 0 (Nat.le_refl _) (Nat.zero_le _) (by simp)) ⟨b, o, none⟩ n c xs rfl ?qc1 ?qc2 ?qc3 ?qc4 ?qc5 ?qc6 ?_)
  case qc1 => exact hl
  case qc2 =>
    intro j u hj
    rw [add_addr]
    exact Lib.cell?_alloc_some _ (HC.out j u hj)
  case qc3 => exact h1
  case qc4 => unfold maxLen; omega
  case qc5 => omega
  case qc6 => simp
  intro v' w1 hown hgrow hnil
  have hlt := hown.lt
  go_wp2
  go_ret
  exact ⟨v', rfl, by simpa using own_base hown, fun g hg => (hlt g hg).1, ((Below.refl _ w).alloc (Nat.le_refl _) _).grown hgrow (by simp) (by intro k hk; simp [Value.ownBlock] at hk; omega)⟩
theorem cloneE_calls (A : Option Addr) (n c : Nat) (xs : List Value) (w : World) (hn : n ≤ 1048576) (hA : ∀ a, A = some a → a.spot = none) (hr : Reads w w.heap.size 3 A n xs) (h1 : ∀ u ∈ xs, u.oneCell' = true) :
    Calls Try.prog 59 #[.slice A n c] w fun e w' => ∃ A' c', e = .returned (.slice A' n c') ∧ w'.ownsRow 0 39 3 (.slice A' n c') n xs ∧ (∀ g, A'.map Addr.block = some g → w.heap.size ≤ g) ∧ Below w.heap.size w w' := by
  cases A with
  | none =>
    have h0 : n = 0 := by
      rcases Nat.eq_zero_or_pos n with h | h
      · exact h
      · obtain ⟨b, o, h, _⟩ := hr.2 h
        cases h
    subst h0
    obtain rfl : xs = [] := List.eq_nil_of_length_eq_zero (by simpa using hr.1)
    refine (cloneE_nil 0 c w).mono fun e w' ⟨he, hw⟩ => ?_
    subst hw
    exact ⟨none, 0, he, ⟨rfl, Or.inl ⟨rfl, rfl⟩⟩, (fun g hg => by cases hg), Below.refl _ _⟩
  | some a =>
    obtain ⟨b, o, s⟩ := a
    obtain rfl : s = none := hA _ rfl
    refine (cloneE_some b o n c xs w hr.1 hn (fun j u hu => ?_) h1).mono fun e w' ⟨v, he, hown, hg, hb⟩ => ?_
    · have h0 : 0 < n := by have := (List.getElem?_eq_some_iff.1 hu).1; rw [hr.1] at this; omega
      obtain ⟨b', o', e, _, h⟩ := hr.2 h0
      cases e
      exact h j u hu
    · obtain ⟨A', c', rfl, _⟩ := own_view hown
      exact ⟨A', c', he, hown, fun g h => hg g (by rw [ownBlock_slice]; exact h), hb⟩
theorem entCells_one (es : List Ent) : ∀ u ∈ entCells es, u.oneCell' = true := by
  intro u hu
  obtain ⟨e, _, h⟩ := List.mem_flatMap.1 hu
  simp [Ent.cells] at h
  rcases h with rfl | rfl | rfl <;> rfl
set_option maxHeartbeats 1000000 in
theorem cut_no (p : Nat) (A : Option Addr) (cap : Nat) (base term : Int) (es : List Ent) (i : Int) (w : World) (h : LogAt w p A cap base term es) (h0 : 0 ≤ base) (h1 : base ≤ 4611686018426339328)
    (i0 : -4611686018427387904 ≤ i) (i1 : i ≤ 4611686018427387904) (hno : (termL base term es i).2 = false) :
    Calls Try.prog 25 #[.pointer (some ⟨p, 0, none⟩), .int .i64 i] w fun e w' => e = .returned (.bool false) ∧ ∃ n, w' = w.drewN n := by
  have HN := hide hno
  clear hno
  go_enter Try.func25, Try.ntmps25
  go_wp2_with fail
  with_reducible refine (term_calls _ _ _ _ _ _ _ _ h h0 (by omega) i0 i1).mono ?_
  rintro e w1 ⟨rfl, n, rfl⟩
  rw [HN.out]
  go_wp2
  go_ret
  exact ⟨rfl, n, rfl⟩
set_option maxHeartbeats 4000000 in
theorem cut_yes (p : Nat) (A : Option Addr) (cap : Nat) (base term : Int) (es : List Ent) (q : Nat) (t : Int) (w : World) (h : LogAt w p A cap base term es) (h0 : 0 ≤ base) (h1 : base ≤ 4611686018426339328)
    (hq : q ≤ es.length) (hn : es.length ≤ 1000000) (ht : termL base term es (base + q) = (t, true)) :
    Calls Try.prog 25 #[.pointer (some ⟨p, 0, none⟩), .int .i64 (base + q)] w fun e w' => ∃ F', e = .returned (.bool true) ∧ LG w' p (base + q) t ((cons es).drop q) F' ∧ Chg (foot p A) w w' ∧ Grew w (foot p A) F' := by
  have HT := hide ht
  clear ht
  have cg := h.cap_ge.1
  have e1 : IntKind.i64.wrap (base + q - base) = (q : Int) := by rw [IntWalk.i64_in _ (by omega)]; omega
  have hAsp : ∀ a, A = some a → a.spot = none ∧ a.off = 0 := fun a ha => by
    subst ha
    rcases h.own.2 with ⟨e, _⟩ | ⟨g, cp, cur, e, _⟩ <;> cases e
    exact ⟨rfl, rfl⟩
  by_cases hcq : cap = q
  · have HA := hide (fun a ha => (hAsp a ha).1)
    clear hAsp
    obtain rfl : q = cap := hcq.symm
    clear hcq
    go_enter Try.func25, Try.ntmps25
    go_wp2_with fail
    with_reducible refine (term_calls _ _ _ _ _ _ _ _ h h0 (by omega) (by omega) (by omega)).mono ?_
    rintro e w1 ⟨rfl, n, hw1⟩
    have L0 : LogAt w1 p A q base term es := by rw [hw1]; exact h.drewN _
    have W1 : Below w.heap.size w w1 := by rw [hw1]; exact below_drewN (Below.refl _ _) _
    clear hw1
    rw [HT.out]
    have c0 := L0.blk.rule 0 _ rfl
    have c2 := L0.blk.rule 2 _ rfl
    have r0 := Below.refl w1.heap.size w1
    have i1 : (q : Int) ≤ es.length := by omega
    have RD : ∀ w', Below w1.heap.size w1 w' → Reads w' w'.heap.size 3 A (0) (entCells (es.drop q)) := fun w' hb => by
      have := L0.reads.cut hq cg
      rw [entCells_drop] at this
      have th : Reads w1 w1.heap.size 3 A (0) (entCells (es.drop q)) := by rw [if_pos rfl, show es.length - q = 0 by omega] at this; exact this
      exact (th.below hb).more hb.size
    have HRD := hide RD
    clear RD
    go_wp2
    refine region_lexg (fun w' => Below w1.heap.size w1 w') [15] 0 [(2, 0), (2, 1), (2, 2), (2, 3), (0, 4), (2, 5), (2, 6), (2, 7), (2, 8), (0, 9), (2, 10), (2, 11), (1, 12), (2, 13), (2, 14), (3, 15)] #[true, true, true, true, true, true, true, true, true, true, true, true, true, true, true, true] (by kernel_rfl) (by kernel_rfl) (by decide) (by kernel_rfl) (by kernel_rfl) (fun _ _ _ _ _ h => h) (by (first | exact r0.drew | exact hb2)) (fun hS0 => ?_)
    simp only [List.map_cons, List.map_nil, List.getElem?_toArray, List.getElem?_cons_succ, List.getElem?_cons_zero]
    (apply lexg_pure (by rfl); (focus (intro w; go_simp; (try with_reducible rfl); done)); simp only [Act.put, List.setIfInBounds_toArray, List.set_cons_zero, List.set_cons_succ])
    (apply lexg_pure (by rfl); (focus (intro w; go_simp; (try with_reducible rfl); done)); simp only [Act.put, List.setIfInBounds_toArray, List.set_cons_zero, List.set_cons_succ])
    (apply lexg_pure (by rfl); (focus (intro w; go_simp; (try with_reducible rfl); done)); simp only [Act.put, List.setIfInBounds_toArray, List.set_cons_zero, List.set_cons_succ])
    (apply lexg_pure (by rfl); (focus (intro w; go_simp; (try with_reducible rfl); done)); simp only [Act.put, List.setIfInBounds_toArray, List.set_cons_zero, List.set_cons_succ])
    (apply lexg_take (by rfl); (focus (intro w hw; (try dsimp only at hw); go_simp; (try with_reducible rfl); done)); simp only [Act.put, List.setIfInBounds_toArray, List.set_cons_zero, List.set_cons_succ])
    (apply lexg_pure (by rfl); (focus (intro w; go_simp; (try with_reducible rfl); done)); simp only [Act.put, List.setIfInBounds_toArray, List.set_cons_zero, List.set_cons_succ])
    (apply lexg_pure (by rfl); (focus (intro w; go_simp; (try with_reducible rfl); done)); simp only [Act.put, List.setIfInBounds_toArray, List.set_cons_zero, List.set_cons_succ])
    (apply lexg_pure (by rfl); (focus (intro w; go_simp; (try with_reducible rfl); done)); simp only [Act.put, List.setIfInBounds_toArray, List.set_cons_zero, List.set_cons_succ])
    (apply lexg_pure (by rfl); (focus (intro w; go_simp; (try with_reducible rfl); done)); simp only [Act.put, List.setIfInBounds_toArray, List.set_cons_zero, List.set_cons_succ])
    (apply lexg_take (by rfl); (focus (intro w hw; (try dsimp only at hw); go_simp; (try with_reducible rfl); done)); simp only [Act.put, List.setIfInBounds_toArray, List.set_cons_zero, List.set_cons_succ])
    (apply lexg_pure (by rfl); (focus (intro w; go_simp; (try with_reducible rfl); done)); simp only [Act.put, List.setIfInBounds_toArray, List.set_cons_zero, List.set_cons_succ])
    (apply lexg_pure (by rfl); (focus (intro w; go_simp; (try with_reducible rfl); done)); simp only [Act.put, List.setIfInBounds_toArray, List.set_cons_zero, List.set_cons_succ])
    (refine lexg_eff (by rfl) ?_; go_simp; ((go_at_call 59; (refine (cloneE_calls A (0) (0) (entCells (es.drop q)) w1.drew (by omega) HA.out (HRD.out _ r0.drew) (entCells_one _)).mono ?_); rintro e w2 ⟨A', c', rfl, hown, hg, hb⟩; have hb2 : Below w1.heap.size w1 w2 := r0.drew.trans hb; have L2 := L0.below hb2; have d0 := L2.blk.cell 0; have d1 := L2.blk.cell 1; have d2 := L2.blk.cell 2; have f0 := L2.blk.frozen 0; have f1 := L2.blk.frozen 1; have f2 := L2.blk.frozen 2)); refine lexg_both (by (first | exact r0.drew | exact hb2)) (fun hS1 => ?_))
    (apply lexg_pure (by rfl); (focus (intro w; go_simp; (try with_reducible rfl); done)); simp only [Act.put, List.setIfInBounds_toArray, List.set_cons_zero, List.set_cons_succ])
    (apply lexg_pure (by rfl); (focus (intro w; go_simp; (try with_reducible rfl); done)); simp only [Act.put, List.setIfInBounds_toArray, List.set_cons_zero, List.set_cons_succ])
    (refine lexg_effN (by rfl) ?_; go_simp)
    refine lexg_nil (fun _ => wpAnyG_done (by kernel_rfl) ?_ _)
    clear c0 c2 r0 hS0 hS1
    go_wp2
    go_ret
    have hdl : (es.drop q).length = 0 := by have := List.length_drop (l := es) (i := q); omega
    have CH : Chg [p] w2 (((w2.setCell ⟨p, 2, none⟩ (.slice A' (0) c')).setCell ⟨p, 0, none⟩ (.int .i64 (base + q))).setCell ⟨p, 1, none⟩ (.int .i64 t)) :=
      (((Chg.refl [p] w2).setCell (Or.inl (by simp)) _).setCell (Or.inl (by simp)) _).setCell (Or.inl (by simp)) _
    have hpA : ∀ g, A'.map Addr.block = some g → g ≠ p := fun g' hg' e => by
      have h5 := hg g' hg'
      have h6 := L0.plt
      rw [e] at h5
      simp at h5
      omega
    have P3 := ((L2.blk.set 2 (.slice A' (0) c')).set 0 (.int .i64 (base + q))).set 1 (.int .i64 t)
    refine ⟨foot p A', rfl, ⟨A', c', es.drop q, ⟨?_, ?_, ?_⟩, by simp [cons], rfl⟩, ?_, ?_⟩
    · rw [hdl]; exact P3
    · have := own_chg hown CH (fun g' hg' => by
        rw [ownBlock_slice] at hg'
        rw [List.mem_singleton]
        exact hpA g' hg')
      rw [hdl]; exact this
    · exact fun e he => (L2.ok e (List.mem_of_mem_drop he)).chg CH (by simpa using L2.blk.notByte (by decide))
    · exact ((Chg.of_below W1).below hb2).trans CH (fun z hz => Or.inl (by rw [List.mem_singleton.1 hz]; simp [foot]))
    · intro z hz
      unfold foot at hz
      rcases List.mem_cons.1 hz with h5 | h5
      · exact Or.inl (by rw [h5]; simp [foot])
      · have h6 := hg z (by simpa using h5)
        simp at h6
        exact Or.inr (Nat.le_trans W1.size h6)
  · have h5 : ∃ g, A = some ⟨g, 0, none⟩ := by
      rcases h.own.2 with ⟨e, _⟩ | ⟨g, cp, cur, e, _⟩
      · injection e with e1 e2 e3; omega
      · injection e with e1 e2 e3; exact ⟨g, e1⟩
    obtain ⟨g, rfl⟩ := h5
    have HA := hide (show ∀ a, some (⟨g, q * 3, none⟩ : Addr) = some a → a.spot = none from fun a ha => by cases ha; rfl)
    clear hAsp
    go_enter Try.func25, Try.ntmps25
    go_wp2_with fail
    with_reducible refine (term_calls _ _ _ _ _ _ _ _ h h0 (by omega) (by omega) (by omega)).mono ?_
    rintro e w1 ⟨rfl, n, hw1⟩
    have L0 : LogAt w1 p (some ⟨g, 0, none⟩) cap base term es := by rw [hw1]; exact h.drewN _
    have W1 : Below w.heap.size w w1 := by rw [hw1]; exact below_drewN (Below.refl _ _) _
    clear hw1
    rw [HT.out]
    have c0 := L0.blk.rule 0 _ rfl
    have c2 := L0.blk.rule 2 _ rfl
    have r0 := Below.refl w1.heap.size w1
    have i1 : (q : Int) ≤ es.length := by omega
    have RD : ∀ w', Below w1.heap.size w1 w' → Reads w' w'.heap.size 3 (some ⟨g, q * 3, none⟩) (es.length - q) (entCells (es.drop q)) := fun w' hb => by
      have := L0.reads.cut hq cg
      rw [entCells_drop] at this
      have th : Reads w1 w1.heap.size 3 (some ⟨g, q * 3, none⟩) (es.length - q) (entCells (es.drop q)) := by rw [if_neg hcq, Option.map_some, add_addr, Nat.zero_add] at this; exact this
      exact (th.below hb).more hb.size
    have HRD := hide RD
    clear RD
    go_wp2
    refine region_lexg (fun w' => Below w1.heap.size w1 w') [15] 0 [(2, 0), (2, 1), (2, 2), (2, 3), (0, 4), (2, 5), (2, 6), (2, 7), (2, 8), (0, 9), (2, 10), (2, 11), (1, 12), (2, 13), (2, 14), (3, 15)] #[true, true, true, true, true, true, true, true, true, true, true, true, true, true, true, true] (by kernel_rfl) (by kernel_rfl) (by decide) (by kernel_rfl) (by kernel_rfl) (fun _ _ _ _ _ h => h) (by (first | exact r0.drew | exact hb2)) (fun hS0 => ?_)
    simp only [List.map_cons, List.map_nil, List.getElem?_toArray, List.getElem?_cons_succ, List.getElem?_cons_zero]
    (apply lexg_pure (by rfl); (focus (intro w; go_simp; (try with_reducible rfl); done)); simp only [Act.put, List.setIfInBounds_toArray, List.set_cons_zero, List.set_cons_succ])
    (apply lexg_pure (by rfl); (focus (intro w; go_simp; (try with_reducible rfl); done)); simp only [Act.put, List.setIfInBounds_toArray, List.set_cons_zero, List.set_cons_succ])
    (apply lexg_pure (by rfl); (focus (intro w; go_simp; (try with_reducible rfl); done)); simp only [Act.put, List.setIfInBounds_toArray, List.set_cons_zero, List.set_cons_succ])
    (apply lexg_pure (by rfl); (focus (intro w; go_simp; (try with_reducible rfl); done)); simp only [Act.put, List.setIfInBounds_toArray, List.set_cons_zero, List.set_cons_succ])
    (apply lexg_take (by rfl); (focus (intro w hw; (try dsimp only at hw); go_simp; (try with_reducible rfl); done)); simp only [Act.put, List.setIfInBounds_toArray, List.set_cons_zero, List.set_cons_succ])
    (apply lexg_pure (by rfl); (focus (intro w; go_simp; (try with_reducible rfl); done)); simp only [Act.put, List.setIfInBounds_toArray, List.set_cons_zero, List.set_cons_succ])
    (apply lexg_pure (by rfl); (focus (intro w; go_simp; (try with_reducible rfl); done)); simp only [Act.put, List.setIfInBounds_toArray, List.set_cons_zero, List.set_cons_succ])
    (apply lexg_pure (by rfl); (focus (intro w; go_simp; (try with_reducible rfl); done)); simp only [Act.put, List.setIfInBounds_toArray, List.set_cons_zero, List.set_cons_succ])
    (apply lexg_pure (by rfl); (focus (intro w; go_simp; (try with_reducible rfl); done)); simp only [Act.put, List.setIfInBounds_toArray, List.set_cons_zero, List.set_cons_succ])
    (apply lexg_take (by rfl); (focus (intro w hw; (try dsimp only at hw); go_simp; (try with_reducible rfl); done)); simp only [Act.put, List.setIfInBounds_toArray, List.set_cons_zero, List.set_cons_succ])
    (apply lexg_pure (by rfl); (focus (intro w; go_simp; (try with_reducible rfl); done)); simp only [Act.put, List.setIfInBounds_toArray, List.set_cons_zero, List.set_cons_succ])
    (apply lexg_pure (by rfl); (focus (intro w; go_simp; (try with_reducible rfl); done)); simp only [Act.put, List.setIfInBounds_toArray, List.set_cons_zero, List.set_cons_succ])
    (refine lexg_eff (by rfl) ?_; go_simp; ((go_at_call 59; (refine (cloneE_calls (some ⟨g, q * 3, none⟩) (es.length - q) (cap - q) (entCells (es.drop q)) w1.drew (by omega) HA.out (HRD.out _ r0.drew) (entCells_one _)).mono ?_); rintro e w2 ⟨A', c', rfl, hown, hg, hb⟩; have hb2 : Below w1.heap.size w1 w2 := r0.drew.trans hb; have L2 := L0.below hb2; have d0 := L2.blk.cell 0; have d1 := L2.blk.cell 1; have d2 := L2.blk.cell 2; have f0 := L2.blk.frozen 0; have f1 := L2.blk.frozen 1; have f2 := L2.blk.frozen 2)); refine lexg_both (by (first | exact r0.drew | exact hb2)) (fun hS1 => ?_))
    (apply lexg_pure (by rfl); (focus (intro w; go_simp; (try with_reducible rfl); done)); simp only [Act.put, List.setIfInBounds_toArray, List.set_cons_zero, List.set_cons_succ])
    (apply lexg_pure (by rfl); (focus (intro w; go_simp; (try with_reducible rfl); done)); simp only [Act.put, List.setIfInBounds_toArray, List.set_cons_zero, List.set_cons_succ])
    (refine lexg_effN (by rfl) ?_; go_simp)
    refine lexg_nil (fun _ => wpAnyG_done (by kernel_rfl) ?_ _)
    clear c0 c2 r0 hS0 hS1
    go_wp2
    go_ret
    have hdl : (es.drop q).length = es.length - q := by have := List.length_drop (l := es) (i := q); omega
    have CH : Chg [p] w2 (((w2.setCell ⟨p, 2, none⟩ (.slice A' (es.length - q) c')).setCell ⟨p, 0, none⟩ (.int .i64 (base + q))).setCell ⟨p, 1, none⟩ (.int .i64 t)) :=
      (((Chg.refl [p] w2).setCell (Or.inl (by simp)) _).setCell (Or.inl (by simp)) _).setCell (Or.inl (by simp)) _
    have hpA : ∀ g, A'.map Addr.block = some g → g ≠ p := fun g' hg' e => by
      have h5 := hg g' hg'
      have h6 := L0.plt
      rw [e] at h5
      simp at h5
      omega
    have P3 := ((L2.blk.set 2 (.slice A' (es.length - q) c')).set 0 (.int .i64 (base + q))).set 1 (.int .i64 t)
    refine ⟨foot p A', rfl, ⟨A', c', es.drop q, ⟨?_, ?_, ?_⟩, by simp [cons], rfl⟩, ?_, ?_⟩
    · rw [hdl]; exact P3
    · have := own_chg hown CH (fun g' hg' => by
        rw [ownBlock_slice] at hg'
        rw [List.mem_singleton]
        exact hpA g' hg')
      rw [hdl]; exact this
    · exact fun e he => (L2.ok e (List.mem_of_mem_drop he)).chg CH (by simpa using L2.blk.notByte (by decide))
    · exact ((Chg.of_below W1).below hb2).trans CH (fun z hz => Or.inl (by rw [List.mem_singleton.1 hz]; simp [foot]))
    · intro z hz
      unfold foot at hz
      rcases List.mem_cons.1 hz with h5 | h5
      · exact Or.inl (by rw [h5]; simp [foot])
      · have h6 := hg z (by simpa using h5)
        simp at h6
        exact Or.inr (Nat.le_trans W1.size h6)

section
variable {w w' W : World} {p p1 p2 : Nat} {base term b1 t1 b2 t2 : Int} {L L1 L2 : List Con} {F : List Nat}
theorem lg_cut (q : Nat) (h : LG w p base term L F) (h0 : 0 ≤ base) (h1 : base ≤ 4611686018426339328) (hq : q ≤ L.length) (hn : L.length ≤ 1000000) {t : Int} (ht : termC base term L q = (t, true)) {i : Int} (hi : i = base + q) :
    Calls Try.prog 25 #[.pointer (some ⟨p, 0, none⟩), .int .i64 i] w fun e w' => ∃ F', e = .returned (.bool true) ∧ LG w' p (base + q) t (L.drop q) F' ∧ Chg F w w' ∧ Grew w F F' := by
  obtain ⟨A, cap, es, hl, rfl, rfl⟩ := h
  subst hi
  rw [cons_length] at hq hn
  exact cut_yes p A cap base term es q t w hl h0 h1 hq hn (by rw [termC_eq]; exact ht)
theorem lg_cut_no (h : LG w p base term L F) (h0 : 0 ≤ base) (h1 : base ≤ 4611686018426339328) {i : Int} (hi : i < base) (hi0 : -1 ≤ i) :
    Calls Try.prog 25 #[.pointer (some ⟨p, 0, none⟩), .int .i64 i] w fun e w' => e = .returned (.bool false) ∧ ∃ n, w' = w.drewN n := by
  obtain ⟨A, cap, es, hl, rfl, rfl⟩ := h
  exact cut_no p A cap base term es i w hl h0 h1 (by omega) (by omega) (by rw [termL_out (by omega) (by simp [hasL]; omega)])
/-- two logs apart, of the call's own -/
def Two (W w : World) (p1 p2 : Nat) (b1 t1 : Int) (L1 : List Con) (b2 t2 : Int) (L2 : List Con) : Prop :=
  ∃ F1 F2, LG w p1 b1 t1 L1 F1 ∧ LG w p2 b2 t2 L2 F2 ∧ (∀ x ∈ F1, x ∉ F2) ∧ (∀ x ∈ F1, W.heap.size ≤ x) ∧ (∀ x ∈ F2, W.heap.size ≤ x) ∧ Below W.heap.size W w
theorem Two.bel (h : Two W w p1 p2 b1 t1 L1 b2 t2 L2) : Below W.heap.size W w := by obtain ⟨_, _, _, _, _, _, _, h⟩ := h; exact h
theorem Two.below (h : Two W w p1 p2 b1 t1 L1 b2 t2 L2) (hb : Below w.heap.size w w') : Two W w' p1 p2 b1 t1 L1 b2 t2 L2 := by
  obtain ⟨F1, F2, l1, l2, hd, g1, g2, hw⟩ := h
  exact ⟨F1, F2, l1.below hb, l2.below hb, hd, g1, g2, hw.trans (hb.mono hw.size)⟩
theorem Two.one (h : Two W w p1 p2 b1 t1 L1 b2 t2 L2) : ∃ F, LG w p1 b1 t1 L1 F ∧ ∀ w' b t L F', LG w' p1 b t L F' → Chg F w w' → Grew w F F' → Two W w' p1 p2 b t L b2 t2 L2 := by
  obtain ⟨F1, F2, l1, l2, hd, g1, g2, hw⟩ := h
  refine ⟨F1, l1, fun w' b t L F' l1' hc hg => ⟨F', F2, l1', l2.keep hc (fun x hx h => hd x h hx) l1.noByte, fun x hx h => ?_, fun x hx => ?_, g2, Chg.onto hw hw.size hc g1⟩⟩
  · rcases hg x hx with h5 | h5
    · exact hd x h5 h
    · have := l2.lt x h; omega
  · rcases hg x hx with h5 | h5
    · exact g1 x h5
    · exact Nat.le_trans hw.size h5
theorem Two.swap (h : Two W w p1 p2 b1 t1 L1 b2 t2 L2) : Two W w p2 p1 b2 t2 L2 b1 t1 L1 := by
  obtain ⟨F1, F2, l1, l2, hd, g1, g2, hw⟩ := h
  exact ⟨F2, F1, l2, l1, fun x hx h => hd x h hx, g2, g1, hw⟩
end
end Go.Proofs.Ytjdgkdaebkflpaa
