/- The walks through State.policy, remove; a delete at the operation. -/
import Derived.Test.YtcgecalbgkkinaaGreatVmc
namespace Go.Proofs.YtcgecalbgkkinaaGreat
open Go.RowKit Go.Proofs Go.Maps
set_option linter.unusedVariables false
set_option linter.unusedSimpArgs false

section
variable {α : Type} {key : α → Int} {val : α → Value} {w : World} {b : Nat} {L : List α} {mt et : TypeId} {k : Int}
/-- 'delete(m, k)' -/
theorem Tab.wp_del {o : Oper} {a : Act} {K : Act → World → Prop} {Q : Exit → Act → World → Prop} (m x : Operand) (ho : o.op = .call { callee := .builtin .delete, args := #[m, x], argTypes := #[mt, 3] }) (hm : Tryz.prog.underlying mt = some (.map 3 et))
    (em : a.eval m = .map (some b)) (ek : a.eval x = .int .i64 k) (h : Tab key val w b L) (hk : i64ok k)
    (hK : ∀ w', Tab key val w' b (out key L k) → Chg [b] w w' → K (a.put o.dst (.tuple #[])) w') : o.wp Tryz.prog a w K Q := by
  obtain ⟨w', hrun, h1, h2⟩ := h.del hk hm o.type
  unfold Oper.wp
  simp [execOp, ho, resolve, invoke, builtin, em, ek, hrun, Result.andThen]
  exact hK _ h1 h2
theorem Tab.wpl_del {ops : Array Oper} {rest : List Oper} {o : Oper} {a : Act} {Q : Exit → Act → World → Prop} (hg : o.guard = none) (m x : Operand) (ho : o.op = .call { callee := .builtin .delete, args := #[m, x], argTypes := #[mt, 3] }) (hm : Tryz.prog.underlying mt = some (.map 3 et))
    (em : a.eval m = .map (some b)) (ek : a.eval x = .int .i64 k) (h : Tab key val w b L) (hk : i64ok k)
    (hK : ∀ w', Tab key val w' b (out key L k) → Chg [b] w w' → wpList Tryz.prog ops Q rest (a.put o.dst (.tuple #[])) w') : wpList Tryz.prog ops Q (o :: rest) a w := by
  refine wpList_plain hg fun K' hK' => ?_
  exact h.wp_del m x ho hm em ek hk fun w' h1 h2 => hK' _ _ (hK w' h1 h2)
end
set_option maxHeartbeats 4000000 in
set_option maxRecDepth 100000 in
theorem vpolicy_calls (w : World) (no : List Nat) (b m1 m2 m3 : Nat) (S : Vst) (V : List VoM) (C : List CkM) (q : Cmd) (h : VM w no b m1 m2 m3 S V C) (hq : q.ok) (hl : S.vs.length < 1000000) (hv : ∀ v ∈ S.vs, 0 ≤ v.ver ∧ v.ver ≤ 1000000) :
    Calls Tryz.prog 58 #[.pointer (some ⟨b, 0, none⟩), q.val] w fun e w' => Stp w w' no b m1 m2 m3 (S.policy q) e := by
  have HL := hide hl
  have HVV := hide hv
  clear hl hv
  obtain ⟨y, l1, _, hy, hs1⟩ := h.lookV hq.a
  have HSA := hide hs1
  have hqa := hide hq.a
  obtain ⟨k0, a0, b0, c0, ⟨qr, qw, ql, qb⟩⟩ := q
  simp only [] at l1 hy hqa
  have HY := hide hy
  obtain ⟨⟨id, bl, ⟨pr, pw, pl, pb⟩, ver, ch⟩, A, c⟩ := y
  unfold VoM.val VoM.cells at l1
  simp only [] at l1
  obtain ⟨w0, hw0⟩ : ∃ w0, w.alloc (.cells #[.int .i64 k0, .int .i64 a0, .int .i64 b0, .int .i64 c0, .int .i64 qr, .int .i64 qw, .int .i64 ql, .int .i64 qb] 38) = w0 := ⟨_, rfl⟩
  have hb0 : Below w.heap.size w w0 := hw0 ▸ (Below.refl w.heap.size w).alloc (Nat.le_refl _) _
  have d1 : Blk w0 w.heap.size 38 [.int .i64 k0, .int .i64 a0, .int .i64 b0, .int .i64 c0, .int .i64 qr, .int .i64 qw, .int .i64 ql, .int .i64 qb] := hw0 ▸ Blk.new rfl
  have hs0 : Hid (w0.heap.size = w.heap.size + 1) := hide (by rw [← hw0]; simp)
  have HW0 := hide hw0
  have cm : ∀ w', Below w0.heap.size w0 w' → w'.cell? ⟨b, 1, none⟩ = some (.map (some m2)) := fun w' hb => h.blk.rule 1 _ rfl w' (hb0.trans (hb.mono hb0.size))
  have l2 := fun w' (hb : Below w0.heap.size w0 w') => l1 w' (hb0.trans (hb.mono hb0.size))
  have x1 : ∀ w', Below w0.heap.size w0 w' → w'.cell? ⟨w.heap.size, 1, none⟩ = some (.int .i64 a0) := d1.rule 1 _ rfl
  have r0 := Below.refl w0.heap.size w0
  have qY := (r0.alloc (Nat.le_refl _) (.cells #[.int .i64 id, .int .i64 bl, .int .i64 pr, .int .i64 pw, .int .i64 pl, .int .i64 pb, .int .i64 ver, .slice A ch.length c] 43)).drew
  have E : Hid (Blk (w0.alloc (.cells #[.int .i64 id, .int .i64 bl, .int .i64 pr, .int .i64 pw, .int .i64 pl, .int .i64 pb, .int .i64 ver, .slice A ch.length c] 43)).drew w.heap.size 38 _ ∧ Blk (w0.alloc (.cells #[.int .i64 id, .int .i64 bl, .int .i64 pr, .int .i64 pw, .int .i64 pl, .int .i64 pb, .int .i64 ver, .slice A ch.length c] 43)).drew w0.heap.size 43 _) := hide ⟨d1.below qY, Blk.new (w := w0) (b := w0.heap.size) (cs := [.int .i64 id, .int .i64 bl, .int .i64 pr, .int .i64 pw, .int .i64 pl, .int .i64 pb, .int .i64 ver, .slice A ch.length c]) (t := 43) rfl⟩
  have HB1 := hide (hb0.trans (qY.mono hb0.size))
  have H := hide h
  clear hy hs1 l1 d1 hq qY h hb0
  unfold Cmd.val Cmd.cells
  simp only []
  obtain ⟨t, ht⟩ : ∃ t, (fd Vo.id S.vs a0).isSome = t := ⟨_, rfl⟩
  rw [ht] at l2
  have HT := hide ht
  clear ht
  cases hr : right qr qw ql qb with
  | false =>
    have HE : Hid (S.policy ⟨k0, a0, b0, c0, ⟨qr, qw, ql, qb⟩⟩ = (S, 1)) := hide (by
      unfold Vst.policy Pol.ok
      simp [hr])
    go_enter Tryz.func58, Tryz.ntmps58
    go_wp2_with fail
    refine region_lexg (fun w' => Below w0.heap.size w0 w') [] 0 [(2, 0), (2, 1), (2, 2), (0, 3), (2, 4), (0, 5), (0, 6), (2, 7), (2, 8), (2, 9), (1, 10), (1, 11), (2, 12)] #[true, true, true, true, true, true, true, true, true, true, true, true, true] (by kernel_rfl) (by kernel_rfl) (by decide) (by kernel_rfl) (by kernel_rfl) (fun _ _ _ _ _ h => h) (by (first | exact r0.drew | exact (r0.alloc (Nat.le_refl _) _).drew)) (fun hS0 => ?_)
    simp only [List.map_cons, List.map_nil, List.getElem?_toArray, List.getElem?_cons_succ, List.getElem?_cons_zero]
    (apply lexg_pure (by rfl); (focus (intro w; go_simp; (try with_reducible rfl); done)); simp only [Act.put, List.setIfInBounds_toArray, List.set_cons_zero, List.set_cons_succ])
    (apply lexg_pure (by rfl); (focus (intro w; go_simp; (try with_reducible rfl); done)); simp only [Act.put, List.setIfInBounds_toArray, List.set_cons_zero, List.set_cons_succ])
    (apply lexg_pure (by rfl); (focus (intro w; go_simp; (try with_reducible rfl); done)); simp only [Act.put, List.setIfInBounds_toArray, List.set_cons_zero, List.set_cons_succ])
    (apply lexg_take (by rfl); (focus (intro w hw; (try dsimp only at hw); go_simp; (try with_reducible rfl); done)); simp only [Act.put, List.setIfInBounds_toArray, List.set_cons_zero, List.set_cons_succ])
    (apply lexg_pure (by rfl); (focus (intro w; go_simp; (try with_reducible rfl); done)); simp only [Act.put, List.setIfInBounds_toArray, List.set_cons_zero, List.set_cons_succ])
    (apply lexg_take (by rfl); (focus (intro w hw; (try dsimp only at hw); go_simp; (try with_reducible rfl); done)); simp only [Act.put, List.setIfInBounds_toArray, List.set_cons_zero, List.set_cons_succ])
    (apply lexg_take (by rfl); (focus (intro w hw; (try dsimp only at hw); go_simp; (try with_reducible rfl); done)); simp only [Act.put, List.setIfInBounds_toArray, List.set_cons_zero, List.set_cons_succ])
    (apply lexg_pure (by rfl); (focus (intro w; go_simp; (try with_reducible rfl); done)); simp only [Act.put, List.setIfInBounds_toArray, List.set_cons_zero, List.set_cons_succ])
    (apply lexg_pure (by rfl); (focus (intro w; go_simp; (try with_reducible rfl); done)); simp only [Act.put, List.setIfInBounds_toArray, List.set_cons_zero, List.set_cons_succ])
    (apply lexg_pure (by rfl); (focus (intro w; go_simp; (try with_reducible rfl); done)); simp only [Act.put, List.setIfInBounds_toArray, List.set_cons_zero, List.set_cons_succ])
    (refine lexg_eff (by rfl) ?_; go_simp; refine lexg_both (by (first | exact r0.drew | exact (r0.alloc (Nat.le_refl _) _).drew)) (fun hS1 => ?_))
    (refine lexg_eff (by rfl) ?_; go_simp; refine lexg_both (by (first | exact r0.drew | exact (r0.alloc (Nat.le_refl _) _).drew)) (fun hS1 => ?_))
    (apply lexg_pure (by rfl); (focus (intro w; go_simp; (try with_reducible rfl); done)); simp only [Act.put, List.setIfInBounds_toArray, List.set_cons_zero, List.set_cons_succ])
    refine lexg_nil (fun _ => wpAnyG_done (by kernel_rfl) ?_ _)
    obtain ⟨w1, hw1⟩ : ∃ w1, (w0.alloc (.cells #[.int .i64 id, .int .i64 bl, .int .i64 pr, .int .i64 pw, .int .i64 pl, .int .i64 pb, .int .i64 ver, .slice A ch.length c] 43)).drew = w1 := ⟨_, rfl⟩
    rw [hw1] at E HB1
    rw [hw1]
    have HW1 := hide hw1
    clear hw1 hw0 hS0 hS1 cm l2 x1
    rename_i hunm
    clear hunm
    have p4 := E.out.1.cell 4
    have p5 := E.out.1.cell 5
    have p6 := E.out.1.cell 6
    have p7 := E.out.1.cell 7
    simp only [List.getElem?_cons_succ, List.getElem?_cons_zero] at p4 p5 p6 p7
    go_wp2_with (go_at_call 79; with_reducible refine (right_calls _ _ _ _ _).mono ?_; rintro e w2 ⟨rfl, hb2⟩)
    go_ret
    rw [HE.out]
    exact H.out.stay (HB1.out.trans (hb2.mono HB1.out.size)) rfl
  | true =>
    cases t with
    | false =>
      have HE : Hid (S.policy ⟨k0, a0, b0, c0, ⟨qr, qw, ql, qb⟩⟩ = (S, 7)) := hide (by
        unfold Vst.policy Pol.ok
        have := HT.out
        rw [Option.isSome_eq_false_iff, Option.isNone_iff_eq_none] at this
        simp [hr, this])
      go_enter Tryz.func58, Tryz.ntmps58
      go_wp2_with fail
      refine region_lexg (fun w' => Below w0.heap.size w0 w') [] 0 [(2, 0), (2, 1), (2, 2), (0, 3), (2, 4), (0, 5), (0, 6), (2, 7), (2, 8), (2, 9), (1, 10), (1, 11), (2, 12)] #[true, true, true, true, true, true, true, true, true, true, true, true, true] (by kernel_rfl) (by kernel_rfl) (by decide) (by kernel_rfl) (by kernel_rfl) (fun _ _ _ _ _ h => h) (by (first | exact r0.drew | exact (r0.alloc (Nat.le_refl _) _).drew)) (fun hS0 => ?_)
      simp only [List.map_cons, List.map_nil, List.getElem?_toArray, List.getElem?_cons_succ, List.getElem?_cons_zero]
      (apply lexg_pure (by rfl); (focus (intro w; go_simp; (try with_reducible rfl); done)); simp only [Act.put, List.setIfInBounds_toArray, List.set_cons_zero, List.set_cons_succ])
      (apply lexg_pure (by rfl); (focus (intro w; go_simp; (try with_reducible rfl); done)); simp only [Act.put, List.setIfInBounds_toArray, List.set_cons_zero, List.set_cons_succ])
      (apply lexg_pure (by rfl); (focus (intro w; go_simp; (try with_reducible rfl); done)); simp only [Act.put, List.setIfInBounds_toArray, List.set_cons_zero, List.set_cons_succ])
      (apply lexg_take (by rfl); (focus (intro w hw; (try dsimp only at hw); go_simp; (try with_reducible rfl); done)); simp only [Act.put, List.setIfInBounds_toArray, List.set_cons_zero, List.set_cons_succ])
      (apply lexg_pure (by rfl); (focus (intro w; go_simp; (try with_reducible rfl); done)); simp only [Act.put, List.setIfInBounds_toArray, List.set_cons_zero, List.set_cons_succ])
      (apply lexg_take (by rfl); (focus (intro w hw; (try dsimp only at hw); go_simp; (try with_reducible rfl); done)); simp only [Act.put, List.setIfInBounds_toArray, List.set_cons_zero, List.set_cons_succ])
      (apply lexg_take (by rfl); (focus (intro w hw; (try dsimp only at hw); go_simp; (try with_reducible rfl); done)); simp only [Act.put, List.setIfInBounds_toArray, List.set_cons_zero, List.set_cons_succ])
      (apply lexg_pure (by rfl); (focus (intro w; go_simp; (try with_reducible rfl); done)); simp only [Act.put, List.setIfInBounds_toArray, List.set_cons_zero, List.set_cons_succ])
      (apply lexg_pure (by rfl); (focus (intro w; go_simp; (try with_reducible rfl); done)); simp only [Act.put, List.setIfInBounds_toArray, List.set_cons_zero, List.set_cons_succ])
      (apply lexg_pure (by rfl); (focus (intro w; go_simp; (try with_reducible rfl); done)); simp only [Act.put, List.setIfInBounds_toArray, List.set_cons_zero, List.set_cons_succ])
      (refine lexg_eff (by rfl) ?_; go_simp; refine lexg_both (by (first | exact r0.drew | exact (r0.alloc (Nat.le_refl _) _).drew)) (fun hS1 => ?_))
      (refine lexg_eff (by rfl) ?_; go_simp; refine lexg_both (by (first | exact r0.drew | exact (r0.alloc (Nat.le_refl _) _).drew)) (fun hS1 => ?_))
      (apply lexg_pure (by rfl); (focus (intro w; go_simp; (try with_reducible rfl); done)); simp only [Act.put, List.setIfInBounds_toArray, List.set_cons_zero, List.set_cons_succ])
      refine lexg_nil (fun _ => wpAnyG_done (by kernel_rfl) ?_ _)
      obtain ⟨w1, hw1⟩ : ∃ w1, (w0.alloc (.cells #[.int .i64 id, .int .i64 bl, .int .i64 pr, .int .i64 pw, .int .i64 pl, .int .i64 pb, .int .i64 ver, .slice A ch.length c] 43)).drew = w1 := ⟨_, rfl⟩
      rw [hw1] at E HB1
      rw [hw1]
      have HW1 := hide hw1
      clear hw1 hw0 hS0 hS1 cm l2 x1
      rename_i hunm
      clear hunm
      have p4 := E.out.1.cell 4
      have p5 := E.out.1.cell 5
      have p6 := E.out.1.cell 6
      have p7 := E.out.1.cell 7
      simp only [List.getElem?_cons_succ, List.getElem?_cons_zero] at p4 p5 p6 p7
      go_wp2_with (go_at_call 79; with_reducible refine (right_calls _ _ _ _ _).mono ?_; rintro e w2 ⟨rfl, hb2⟩)
      go_ret
      rw [HE.out]
      exact H.out.stay (HB1.out.trans (hb2.mono HB1.out.size)) rfl
    | true =>
      have hyy : fd Vo.id S.vs a0 = some ⟨id, bl, ⟨pr, pw, pl, pb⟩, ver, ch⟩ := by
        rcases HY.out with ⟨_, e⟩ | ⟨_, e, _⟩
        · exact e
        · have := HT.out
          rw [e] at this
          cases this
      have hver := HVV.out _ (fd_some hyy).1
      have hid : id = a0 := (fd_some hyy).2
      have HE : Hid (S.policy ⟨k0, a0, b0, c0, ⟨qr, qw, ql, qb⟩⟩ = ({ S with vs := ins Vo.id ⟨id, bl, ⟨qr, qw, ql, qb⟩, ver + 1, ch⟩ S.vs }, 0)) := hide (by
        unfold Vst.policy Pol.ok
        simp [hr, hyy])
      have hwrap : IntKind.i64.wrap (ver + 1) = ver + 1 := IntWalk.i64_in _ (by simp only [] at hver; omega)
      have HID := hide hid
      clear hyy hver hid
      go_enter Tryz.func58, Tryz.ntmps58
      go_wp2_with fail
      refine region_lexg (fun w' => Below w0.heap.size w0 w') [] 0 [(2, 0), (2, 1), (2, 2), (0, 3), (2, 4), (0, 5), (0, 6), (2, 7), (2, 8), (2, 9), (1, 10), (1, 11), (2, 12)] #[true, true, true, true, true, true, true, true, true, true, true, true, true] (by kernel_rfl) (by kernel_rfl) (by decide) (by kernel_rfl) (by kernel_rfl) (fun _ _ _ _ _ h => h) (by (first | exact r0.drew | exact (r0.alloc (Nat.le_refl _) _).drew)) (fun hS0 => ?_)
      simp only [List.map_cons, List.map_nil, List.getElem?_toArray, List.getElem?_cons_succ, List.getElem?_cons_zero]
      (apply lexg_pure (by rfl); (focus (intro w; go_simp; (try with_reducible rfl); done)); simp only [Act.put, List.setIfInBounds_toArray, List.set_cons_zero, List.set_cons_succ])
      (apply lexg_pure (by rfl); (focus (intro w; go_simp; (try with_reducible rfl); done)); simp only [Act.put, List.setIfInBounds_toArray, List.set_cons_zero, List.set_cons_succ])
      (apply lexg_pure (by rfl); (focus (intro w; go_simp; (try with_reducible rfl); done)); simp only [Act.put, List.setIfInBounds_toArray, List.set_cons_zero, List.set_cons_succ])
      (apply lexg_take (by rfl); (focus (intro w hw; (try dsimp only at hw); go_simp; (try with_reducible rfl); done)); simp only [Act.put, List.setIfInBounds_toArray, List.set_cons_zero, List.set_cons_succ])
      (apply lexg_pure (by rfl); (focus (intro w; go_simp; (try with_reducible rfl); done)); simp only [Act.put, List.setIfInBounds_toArray, List.set_cons_zero, List.set_cons_succ])
      (apply lexg_take (by rfl); (focus (intro w hw; (try dsimp only at hw); go_simp; (try with_reducible rfl); done)); simp only [Act.put, List.setIfInBounds_toArray, List.set_cons_zero, List.set_cons_succ])
      (apply lexg_take (by rfl); (focus (intro w hw; (try dsimp only at hw); go_simp; (try with_reducible rfl); done)); simp only [Act.put, List.setIfInBounds_toArray, List.set_cons_zero, List.set_cons_succ])
      (apply lexg_pure (by rfl); (focus (intro w; go_simp; (try with_reducible rfl); done)); simp only [Act.put, List.setIfInBounds_toArray, List.set_cons_zero, List.set_cons_succ])
      (apply lexg_pure (by rfl); (focus (intro w; go_simp; (try with_reducible rfl); done)); simp only [Act.put, List.setIfInBounds_toArray, List.set_cons_zero, List.set_cons_succ])
      (apply lexg_pure (by rfl); (focus (intro w; go_simp; (try with_reducible rfl); done)); simp only [Act.put, List.setIfInBounds_toArray, List.set_cons_zero, List.set_cons_succ])
      (refine lexg_eff (by rfl) ?_; go_simp; refine lexg_both (by (first | exact r0.drew | exact (r0.alloc (Nat.le_refl _) _).drew)) (fun hS1 => ?_))
      (refine lexg_eff (by rfl) ?_; go_simp; refine lexg_both (by (first | exact r0.drew | exact (r0.alloc (Nat.le_refl _) _).drew)) (fun hS1 => ?_))
      (apply lexg_pure (by rfl); (focus (intro w; go_simp; (try with_reducible rfl); done)); simp only [Act.put, List.setIfInBounds_toArray, List.set_cons_zero, List.set_cons_succ])
      refine lexg_nil (fun _ => wpAnyG_done (by kernel_rfl) ?_ _)
      obtain ⟨w1, hw1⟩ : ∃ w1, (w0.alloc (.cells #[.int .i64 id, .int .i64 bl, .int .i64 pr, .int .i64 pw, .int .i64 pl, .int .i64 pb, .int .i64 ver, .slice A ch.length c] 43)).drew = w1 := ⟨_, rfl⟩
      rw [hw1] at E HB1
      rw [hw1]
      have HW1 := hide hw1
      clear hw1 hw0 hS0 hS1 cm l2 x1
      rename_i hunm
      clear hunm
      have p4 := E.out.1.cell 4
      have p5 := E.out.1.cell 5
      have p6 := E.out.1.cell 6
      have p7 := E.out.1.cell 7
      simp only [List.getElem?_cons_succ, List.getElem?_cons_zero] at p4 p5 p6 p7
      go_wp2_with fail
      refine (right_calls _ _ _ _ _).mono ?_
      rintro e w2 ⟨rfl, hb2⟩
      rw [hr]
      have F1 := E.out.1.below hb2
      have F2 := E.out.2.below hb2
      have hB2 := HB1.out.trans (hb2.mono HB1.out.size)
      have p4 := F1.cell 4
      have p5 := F1.cell 5
      have p6 := F1.cell 6
      have p7 := F1.cell 7
      have v0 := F2.cell 0
      have v1 := F2.cell 1
      have v2 := F2.cell 2
      have v3 := F2.cell 3
      have v4 := F2.cell 4
      have v5 := F2.cell 5
      have v6 := F2.cell 6
      have v7 := F2.cell 7
      have zz := F2.frozen
      simp only [List.getElem?_cons_succ, List.getElem?_cons_zero] at p4 p5 p6 p7 v0 v1 v2 v3 v4 v5 v6 v7
      have hne : w.heap.size ≠ w0.heap.size := by rw [hs0.out]; omega
      have HF := hide (And.intro F1 F2)
      have HB2 := hide hB2
      clear F1 F2 hB2 hb2 E
      go_wp2_with fail
      have G2 := ((((HF.out.2.set 2 (.int .i64 qr)).set 3 (.int .i64 qw)).set 4 (.int .i64 ql)).set 5 (.int .i64 qb)).set 6 (.int .i64 (ver + 1))
      have G1 := HF.out.1
      have hc : Chg [w0.heap.size] w2 (((((w2.setCell ⟨w0.heap.size, 2, none⟩ (.int .i64 qr)).setCell ⟨w0.heap.size, 3, none⟩ (.int .i64 qw)).setCell ⟨w0.heap.size, 4, none⟩ (.int .i64 ql)).setCell ⟨w0.heap.size, 5, none⟩ (.int .i64 qb)).setCell ⟨w0.heap.size, 6, none⟩ (.int .i64 (ver + 1))) :=
        (((((Chg.refl _ _).setCell (Or.inl (by simp)) _).setCell (Or.inl (by simp)) _).setCell (Or.inl (by simp)) _).setCell (Or.inl (by simp)) _).setCell (Or.inl (by simp)) _
      have hB3 := Chg.onto HB2.out HB2.out.size hc (fun x hx => by rw [List.mem_singleton.1 hx, hs0.out]; omega)
      have G1 := HF.out.1.chg hc (by simpa using hne)
      obtain ⟨w3, hw3⟩ : ∃ w3, ((((w2.setCell ⟨w0.heap.size, 2, none⟩ (.int .i64 qr)).setCell ⟨w0.heap.size, 3, none⟩ (.int .i64 qw)).setCell ⟨w0.heap.size, 4, none⟩ (.int .i64 ql)).setCell ⟨w0.heap.size, 5, none⟩ (.int .i64 qb)).setCell ⟨w0.heap.size, 6, none⟩ (.int .i64 (ver + 1)) = w3 := ⟨_, rfl⟩
      rw [hw3] at G1 G2 hB3
      rw [hw3]
      have HW3 := hide hw3
      simp only [List.set_cons_zero, List.set_cons_succ] at G2
      have r3 := Below.refl w3.heap.size w3
      have x1 : ∀ w', Below w3.heap.size w3 w' → w'.cell? ⟨w.heap.size, 1, none⟩ = some (.int .i64 a0) := G1.rule 1 _ rfl
      have y0 := G2.rule 0 _ rfl
      have y1 := G2.rule 1 _ rfl
      have y2 := G2.rule 2 _ rfl
      have y3 := G2.rule 3 _ rfl
      have y4 := G2.rule 4 _ rfl
      have y5 := G2.rule 5 _ rfl
      have y6 := G2.rule 6 _ rfl
      have y7 := G2.rule 7 _ rfl
      have cm := (H.out.below hB3).blk.rule 1 _ rfl
      have HB3 := hide (hB3.trans (r3.drew.mono hB3.size))
      have HV := hide (H.out.below HB3.out)
      have HLV := hide (show V.length < 1000000 by rw [H.out.lenV]; exact HL.out)
      have HIK := hide (show i64ok id by rw [HID.out]; exact hqa.out)
      clear hw3 G1 G2 hB3 hc p4 p5 p6 p7 v0 v1 v2 v3 v4 v5 v6 v7 zz hwrap
      have HNE := hide hne
      clear hne
      obtain rfl := HID.out
      refine region_lexg (fun w' => Below w3.heap.size w3 w') [7] 0 [(2, 0), (2, 1), (2, 2), (0, 3), (2, 4), (0, 5), (0, 6), (3, 7)] #[true, true, true, true, true, true, true, true] (by kernel_rfl) (by kernel_rfl) (by decide) (by kernel_rfl) (by kernel_rfl) (fun _ _ _ _ _ h => h) (by (exact r3.drew)) (fun hS0 => ?_)
      simp only [List.map_cons, List.map_nil, List.getElem?_toArray, List.getElem?_cons_succ, List.getElem?_cons_zero]
      (apply lexg_pure (by rfl); (focus (intro w; go_simp; (try with_reducible rfl); done)); simp only [Act.put, List.setIfInBounds_toArray, List.set_cons_zero, List.set_cons_succ])
      (apply lexg_pure (by rfl); (focus (intro w; go_simp; (try with_reducible rfl); done)); simp only [Act.put, List.setIfInBounds_toArray, List.set_cons_zero, List.set_cons_succ])
      (apply lexg_pure (by rfl); (focus (intro w; go_simp; (try with_reducible rfl); done)); simp only [Act.put, List.setIfInBounds_toArray, List.set_cons_zero, List.set_cons_succ])
      (apply lexg_take (by rfl); (focus (intro w hw; (try dsimp only at hw); go_simp; (try with_reducible rfl); done)); simp only [Act.put, List.setIfInBounds_toArray, List.set_cons_zero, List.set_cons_succ])
      (apply lexg_pure (by rfl); (focus (intro w; go_simp; (try with_reducible rfl); done)); simp only [Act.put, List.setIfInBounds_toArray, List.set_cons_zero, List.set_cons_succ])
      (apply lexg_take (by rfl); (focus (intro w hw; (try dsimp only at hw); go_simp; (try with_reducible rfl); done)); simp only [Act.put, List.setIfInBounds_toArray, List.set_cons_zero, List.set_cons_succ])
      (apply lexg_take (by rfl); (focus (intro w hw; (try dsimp only at hw); go_simp; (try with_reducible rfl); done)); simp only [Act.put, List.setIfInBounds_toArray, List.set_cons_zero, List.set_cons_succ])
      (refine lexg_effN (by rfl) ?_; (refine Tab.wp_put (key := VoM.key) (val := VoM.val) _ _ _ (⟨⟨id, bl, ⟨qr, qw, ql, qb⟩, ver + 1, ch⟩, A, c⟩ : VoM) rfl Tryz.underlying61 rfl rfl rfl HV.out.t2 HIK.out HLV.out ?_; intro w4 ht4 hch4); simp only [Act.put])
      refine lexg_nil (fun _ => wpAnyG_done (by kernel_rfl) ?_ _)
      go_wp2
      go_ret
      rw [HE.out]
      exact ⟨rfl, ((Chg.of_below (L := [b, m1, m2, m3]) HB3.out)).trans hch4 (by simp), _, C, HV.out.setV (x := ⟨⟨id, bl, ⟨qr, qw, ql, qb⟩, ver + 1, ch⟩, A, c⟩) ht4 hch4 (HSA.out.below HB3.out)⟩
theorem outs_snoc (cs : List Ck) (ks : List Int) (k : Int) : outs cs (ks ++ [k]) = out Ck.id (outs cs ks) k := by
  induction ks generalizing cs with
  | nil => rfl
  | cons x t ih => exact ih _
theorem outs_take (cs : List Ck) (ks : List Int) (k : Nat) (h : k < ks.length) : outs cs (ks.take (k + 1)) = out Ck.id (outs cs (ks.take k)) ks[k] := by
  rw [List.take_succ_eq_append_getElem h, outs_snoc]
/-- the loop that deletes chunks, one by one: what stands behind k of them -/
def Dels (w : World) (no : List Nat) (b m1 m2 m3 : Nat) (S : Vst) (V : List VoM) (ks : List Int) (wr : World) (k : Nat) : Prop :=
  Chg [m3] w wr ∧ ∃ C', VM wr no b m1 m2 m3 { S with cs := outs S.cs (ks.take k) } V C'
set_option maxHeartbeats 4000000 in
set_option maxRecDepth 100000 in
theorem vremove_calls (w : World) (no : List Nat) (b m1 m2 m3 : Nat) (S : Vst) (V : List VoM) (C : List CkM) (q : Cmd) (h : VM w no b m1 m2 m3 S V C) (hq : q.ok) (hch : ∀ v ∈ S.vs, ∀ k ∈ v.ch, i64ok k) :
    Calls Tryz.prog 56 #[.pointer (some ⟨b, 0, none⟩), q.val] w fun e w' => Stp w w' no b m1 m2 m3 (S.remove q) e := by
  have HCH := hide hch
  clear hch
  obtain ⟨y, l1, _, hy, hs1⟩ := h.lookV hq.a
  have HSA := hide hs1
  have hqa := hide hq.a
  obtain ⟨k0, a0, b0, c0, ⟨qr, qw, ql, qb⟩⟩ := q
  simp only [] at l1 hy hqa
  have HY := hide hy
  obtain ⟨⟨id, bl, ⟨pr, pw, pl, pb⟩, ver, ch⟩, A, c⟩ := y
  unfold VoM.val VoM.cells at l1
  simp only [] at l1
  obtain ⟨w0, hw0⟩ : ∃ w0, w.alloc (.cells #[.int .i64 k0, .int .i64 a0, .int .i64 b0, .int .i64 c0, .int .i64 qr, .int .i64 qw, .int .i64 ql, .int .i64 qb] 38) = w0 := ⟨_, rfl⟩
  have hb0 : Below w.heap.size w w0 := hw0 ▸ (Below.refl w.heap.size w).alloc (Nat.le_refl _) _
  have d1 : Blk w0 w.heap.size 38 [.int .i64 k0, .int .i64 a0, .int .i64 b0, .int .i64 c0, .int .i64 qr, .int .i64 qw, .int .i64 ql, .int .i64 qb] := hw0 ▸ Blk.new rfl
  have hs0 : Hid (w0.heap.size = w.heap.size + 1) := hide (by rw [← hw0]; simp)
  have HW0 := hide hw0
  have cm : ∀ w', Below w0.heap.size w0 w' → w'.cell? ⟨b, 1, none⟩ = some (.map (some m2)) := fun w' hb => h.blk.rule 1 _ rfl w' (hb0.trans (hb.mono hb0.size))
  have l2 := fun w' (hb : Below w0.heap.size w0 w') => l1 w' (hb0.trans (hb.mono hb0.size))
  have x1 : ∀ w', Below w0.heap.size w0 w' → w'.cell? ⟨w.heap.size, 1, none⟩ = some (.int .i64 a0) := d1.rule 1 _ rfl
  have r0 := Below.refl w0.heap.size w0
  have qY := (r0.alloc (Nat.le_refl _) (.cells #[.int .i64 id, .int .i64 bl, .int .i64 pr, .int .i64 pw, .int .i64 pl, .int .i64 pb, .int .i64 ver, .slice A ch.length c] 43)).drew
  have E : Hid (Blk (w0.alloc (.cells #[.int .i64 id, .int .i64 bl, .int .i64 pr, .int .i64 pw, .int .i64 pl, .int .i64 pb, .int .i64 ver, .slice A ch.length c] 43)).drew w.heap.size 38 _ ∧ Blk (w0.alloc (.cells #[.int .i64 id, .int .i64 bl, .int .i64 pr, .int .i64 pw, .int .i64 pl, .int .i64 pb, .int .i64 ver, .slice A ch.length c] 43)).drew w0.heap.size 43 _) := hide ⟨d1.below qY, Blk.new (w := w0) (b := w0.heap.size) (cs := [.int .i64 id, .int .i64 bl, .int .i64 pr, .int .i64 pw, .int .i64 pl, .int .i64 pb, .int .i64 ver, .slice A ch.length c]) (t := 43) rfl⟩
  have HB1 := hide (hb0.trans (qY.mono hb0.size))
  have H := hide h
  clear hy hs1 l1 d1 hq qY h hb0
  unfold Cmd.val Cmd.cells
  simp only []
  obtain ⟨t, ht⟩ : ∃ t, (fd Vo.id S.vs a0).isSome = t := ⟨_, rfl⟩
  rw [ht] at l2
  have HT := hide ht
  clear ht
  cases t with
  | false =>
    have HE : Hid (S.remove ⟨k0, a0, b0, c0, ⟨qr, qw, ql, qb⟩⟩ = (S, 7)) := hide (by
      unfold Vst.remove
      have := HT.out
      rw [Option.isSome_eq_false_iff, Option.isNone_iff_eq_none] at this
      simp [this])
    go_enter Tryz.func56, Tryz.ntmps56
    go_wp2_with fail
    refine region_lexg (fun w' => Below w0.heap.size w0 w') [] 0 [(2, 0), (2, 1), (2, 2), (0, 3), (2, 4), (0, 5), (0, 6), (2, 7), (2, 8), (2, 9), (1, 10), (1, 11), (2, 12)] #[true, true, true, true, true, true, true, true, true, true, true, true, true] (by kernel_rfl) (by kernel_rfl) (by decide) (by kernel_rfl) (by kernel_rfl) (fun _ _ _ _ _ h => h) (by (first | exact r0.drew | exact (r0.alloc (Nat.le_refl _) _).drew)) (fun hS0 => ?_)
    simp only [List.map_cons, List.map_nil, List.getElem?_toArray, List.getElem?_cons_succ, List.getElem?_cons_zero]
    (apply lexg_pure (by rfl); (focus (intro w; go_simp; (try with_reducible rfl); done)); simp only [Act.put, List.setIfInBounds_toArray, List.set_cons_zero, List.set_cons_succ])
    (apply lexg_pure (by rfl); (focus (intro w; go_simp; (try with_reducible rfl); done)); simp only [Act.put, List.setIfInBounds_toArray, List.set_cons_zero, List.set_cons_succ])
    (apply lexg_pure (by rfl); (focus (intro w; go_simp; (try with_reducible rfl); done)); simp only [Act.put, List.setIfInBounds_toArray, List.set_cons_zero, List.set_cons_succ])
    (apply lexg_take (by rfl); (focus (intro w hw; (try dsimp only at hw); go_simp; (try with_reducible rfl); done)); simp only [Act.put, List.setIfInBounds_toArray, List.set_cons_zero, List.set_cons_succ])
    (apply lexg_pure (by rfl); (focus (intro w; go_simp; (try with_reducible rfl); done)); simp only [Act.put, List.setIfInBounds_toArray, List.set_cons_zero, List.set_cons_succ])
    (apply lexg_take (by rfl); (focus (intro w hw; (try dsimp only at hw); go_simp; (try with_reducible rfl); done)); simp only [Act.put, List.setIfInBounds_toArray, List.set_cons_zero, List.set_cons_succ])
    (apply lexg_take (by rfl); (focus (intro w hw; (try dsimp only at hw); go_simp; (try with_reducible rfl); done)); simp only [Act.put, List.setIfInBounds_toArray, List.set_cons_zero, List.set_cons_succ])
    (apply lexg_pure (by rfl); (focus (intro w; go_simp; (try with_reducible rfl); done)); simp only [Act.put, List.setIfInBounds_toArray, List.set_cons_zero, List.set_cons_succ])
    (apply lexg_pure (by rfl); (focus (intro w; go_simp; (try with_reducible rfl); done)); simp only [Act.put, List.setIfInBounds_toArray, List.set_cons_zero, List.set_cons_succ])
    (apply lexg_pure (by rfl); (focus (intro w; go_simp; (try with_reducible rfl); done)); simp only [Act.put, List.setIfInBounds_toArray, List.set_cons_zero, List.set_cons_succ])
    (refine lexg_eff (by rfl) ?_; go_simp; refine lexg_both (by (first | exact r0.drew | exact (r0.alloc (Nat.le_refl _) _).drew)) (fun hS1 => ?_))
    (refine lexg_eff (by rfl) ?_; go_simp; refine lexg_both (by (first | exact r0.drew | exact (r0.alloc (Nat.le_refl _) _).drew)) (fun hS1 => ?_))
    (apply lexg_pure (by rfl); (focus (intro w; go_simp; (try with_reducible rfl); done)); simp only [Act.put, List.setIfInBounds_toArray, List.set_cons_zero, List.set_cons_succ])
    refine lexg_nil (fun _ => wpAnyG_done (by kernel_rfl) ?_ _)
    obtain ⟨w1, hw1⟩ : ∃ w1, (w0.alloc (.cells #[.int .i64 id, .int .i64 bl, .int .i64 pr, .int .i64 pw, .int .i64 pl, .int .i64 pb, .int .i64 ver, .slice A ch.length c] 43)).drew = w1 := ⟨_, rfl⟩
    rw [hw1] at E HB1
    rw [hw1]
    have HW1 := hide hw1
    clear hw1 hw0 hS0 hS1 cm l2 x1
    rename_i hunm
    clear hunm
    go_wp2
    go_ret
    rw [HE.out]
    exact H.out.stay HB1.out rfl
  | true =>
    have hyy : fd Vo.id S.vs a0 = some ⟨id, bl, ⟨pr, pw, pl, pb⟩, ver, ch⟩ := by
      rcases HY.out with ⟨_, e⟩ | ⟨_, e, _⟩
      · exact e
      · have := HT.out
        rw [e] at this
        cases this
    have HCK := hide (HCH.out _ (fd_some hyy).1)
    have HE : Hid (S.remove ⟨k0, a0, b0, c0, ⟨qr, qw, ql, qb⟩⟩ = ({ S with cs := outs S.cs ch, vs := out Vo.id S.vs a0 }, 0)) := hide (by
      unfold Vst.remove
      simp [hyy])
    clear hyy
    go_enter Tryz.func56, Tryz.ntmps56
    go_wp2_with fail
    refine region_lexg (fun w' => Below w0.heap.size w0 w') [] 0 [(2, 0), (2, 1), (2, 2), (0, 3), (2, 4), (0, 5), (0, 6), (2, 7), (2, 8), (2, 9), (1, 10), (1, 11), (2, 12)] #[true, true, true, true, true, true, true, true, true, true, true, true, true] (by kernel_rfl) (by kernel_rfl) (by decide) (by kernel_rfl) (by kernel_rfl) (fun _ _ _ _ _ h => h) (by (first | exact r0.drew | exact (r0.alloc (Nat.le_refl _) _).drew)) (fun hS0 => ?_)
    simp only [List.map_cons, List.map_nil, List.getElem?_toArray, List.getElem?_cons_succ, List.getElem?_cons_zero]
    (apply lexg_pure (by rfl); (focus (intro w; go_simp; (try with_reducible rfl); done)); simp only [Act.put, List.setIfInBounds_toArray, List.set_cons_zero, List.set_cons_succ])
    (apply lexg_pure (by rfl); (focus (intro w; go_simp; (try with_reducible rfl); done)); simp only [Act.put, List.setIfInBounds_toArray, List.set_cons_zero, List.set_cons_succ])
    (apply lexg_pure (by rfl); (focus (intro w; go_simp; (try with_reducible rfl); done)); simp only [Act.put, List.setIfInBounds_toArray, List.set_cons_zero, List.set_cons_succ])
    (apply lexg_take (by rfl); (focus (intro w hw; (try dsimp only at hw); go_simp; (try with_reducible rfl); done)); simp only [Act.put, List.setIfInBounds_toArray, List.set_cons_zero, List.set_cons_succ])
    (apply lexg_pure (by rfl); (focus (intro w; go_simp; (try with_reducible rfl); done)); simp only [Act.put, List.setIfInBounds_toArray, List.set_cons_zero, List.set_cons_succ])
    (apply lexg_take (by rfl); (focus (intro w hw; (try dsimp only at hw); go_simp; (try with_reducible rfl); done)); simp only [Act.put, List.setIfInBounds_toArray, List.set_cons_zero, List.set_cons_succ])
    (apply lexg_take (by rfl); (focus (intro w hw; (try dsimp only at hw); go_simp; (try with_reducible rfl); done)); simp only [Act.put, List.setIfInBounds_toArray, List.set_cons_zero, List.set_cons_succ])
    (apply lexg_pure (by rfl); (focus (intro w; go_simp; (try with_reducible rfl); done)); simp only [Act.put, List.setIfInBounds_toArray, List.set_cons_zero, List.set_cons_succ])
    (apply lexg_pure (by rfl); (focus (intro w; go_simp; (try with_reducible rfl); done)); simp only [Act.put, List.setIfInBounds_toArray, List.set_cons_zero, List.set_cons_succ])
    (apply lexg_pure (by rfl); (focus (intro w; go_simp; (try with_reducible rfl); done)); simp only [Act.put, List.setIfInBounds_toArray, List.set_cons_zero, List.set_cons_succ])
    (refine lexg_eff (by rfl) ?_; go_simp; refine lexg_both (by (first | exact r0.drew | exact (r0.alloc (Nat.le_refl _) _).drew)) (fun hS1 => ?_))
    (refine lexg_eff (by rfl) ?_; go_simp; refine lexg_both (by (first | exact r0.drew | exact (r0.alloc (Nat.le_refl _) _).drew)) (fun hS1 => ?_))
    (apply lexg_pure (by rfl); (focus (intro w; go_simp; (try with_reducible rfl); done)); simp only [Act.put, List.setIfInBounds_toArray, List.set_cons_zero, List.set_cons_succ])
    refine lexg_nil (fun _ => wpAnyG_done (by kernel_rfl) ?_ _)
    obtain ⟨w1, hw1⟩ : ∃ w1, (w0.alloc (.cells #[.int .i64 id, .int .i64 bl, .int .i64 pr, .int .i64 pw, .int .i64 pl, .int .i64 pb, .int .i64 ver, .slice A ch.length c] 43)).drew = w1 := ⟨_, rfl⟩
    rw [hw1] at E HB1
    rw [hw1]
    have HW1 := hide hw1
    clear hw1 hw0 hS0 hS1 cm l2 x1
    rename_i hunm
    clear hunm
    have v7 := E.out.2.cell 7
    simp only [List.getElem?_cons_succ, List.getElem?_cons_zero] at v7
    go_wp2_with fail
    have HV1 := hide (H.out.below HB1.out)
    have HSL := hide (HSA.out.below HB1.out)
    have hlen := HSA.out.ln
    have HQ1 := hide (E.out.1)
    clear E v7
    go_loopw [8, 24, 25, 26, 27, 28, 29, 30, 31, 32, 33] (fun _ i _ _ _ _ _ _ _ _ _ wr => ∃ k : Nat, k ≤ ch.length ∧ i = .int .i64 k ∧ Dels w1 no b m1 m2 m3 S V ch wr k) (fun _ i _ _ _ _ _ _ _ _ _ _ => ch.length - (intOf i).toNat)
    case atStart => exact ⟨0, Nat.zero_le _, rfl, Chg.refl _ _, C, by simpa [outs] using HV1.out⟩
    case round =>
      obtain ⟨k, hk, rfl, hchg, C', hvm⟩ := hrel
      have HVM := hide hvm
      have HCG := hide hchg
      have hm3 : m3 < w.heap.size := H.out.lt _ H.out.i3
      clear hvm hchg hS1
      by_cases hlt : k < ch.length
      · have hel := HSL.out.rd.2 (by omega)
        obtain ⟨bA, oA, eA, hbA, hcell⟩ := hel
        have hnA := (HSL.out.ap _ eA).2.1
        have hne3 : bA ≠ m3 := fun e => hnA (by simpa [e] using H.out.i3)
        have g0 : wr.cell? ⟨bA, oA + k, none⟩ = some (.int .i64 ch[k]) := (HCG.out.cell (p := ⟨bA, oA + k, none⟩) hbA (by simpa using hne3)).trans (hcell k _ (by simp [hlt]))
        have i1 : (k : Int) < ch.length := by omega
        have c2 : wr.cell? ⟨b, 2, none⟩ = some (.map (some m3)) := HVM.out.blk.cell 2
        have hek : i64ok ch[k] := HCK.out _ (List.getElem_mem _)
        have hout := outs_take S.cs ch k hlt
        obtain ⟨x, hx⟩ : ∃ x, ch[k] = x := ⟨_, rfl⟩
        rw [hx] at g0 hek hout
        have HOUT := hide hout
        have HEK := hide hek
        have HNE := hide hne3
        subst eA
        clear hcell hnA hbA hx hek hout hne3
        go_wp2_with (at_delete; refine Tab.wpl_del rfl _ _ rfl Tryz.underlying62 rfl rfl HVM.out.t3 HEK.out ?_)
        intro w2 ht2 hch2
        have HD : Hid (Dels w1 no b m1 m2 m3 S V ch w2 (k + 1)) := hide ⟨HCG.out.trans hch2 (by simp), _, by
          have := HVM.out.outC ht2 hch2
          simp only [] at this
          rw [← HOUT.out] at this
          exact this⟩
        clear ht2 hch2 g0 c2
        go_wp2
        go_roundw
        case rel => exact ⟨k + 1, by omega, by go_num, HD.out⟩
        case measure => simp [intOf]; omega
      · have e : k = ch.length := by omega
        subst e
        have hVV := HVM.out
        rw [List.take_length] at hVV
        have HVV := hide hVV
        have HC2 := hide ((Chg.of_below (L := [m3]) HB1.out).trans HCG.out (by simp))
        have r3 := Below.refl wr.heap.size wr
        have hqw := HQ1.out.chg HCG.out (by simpa using (show w.heap.size ≠ m3 by omega))
        have x1 : ∀ w', Below wr.heap.size wr w' → w'.cell? ⟨w.heap.size, 1, none⟩ = some (.int .i64 a0) := hqw.rule 1 _ rfl
        have cm := HVV.out.blk.rule 1 _ rfl
        have HV4 := hide (HVV.out.below r3.drew)
        have HC4 := hide (HC2.out.below r3.drew)
        clear hVV hqw hlt
        go_wp2_with fail
        refine region_lexg (fun w' => Below wr.heap.size wr w') [6] 0 [(2, 0), (2, 1), (2, 2), (0, 3), (2, 4), (0, 5), (3, 6)] #[true, true, true, true, true, true, true] (by kernel_rfl) (by kernel_rfl) (by decide) (by kernel_rfl) (by kernel_rfl) (fun _ _ _ _ _ h => h) (by (exact r3.drew)) (fun hS0 => ?_)
        simp only [List.map_cons, List.map_nil, List.getElem?_toArray, List.getElem?_cons_succ, List.getElem?_cons_zero]
        (apply lexg_pure (by rfl); (focus (intro w; go_simp; (try with_reducible rfl); done)); simp only [Act.put, List.setIfInBounds_toArray, List.set_cons_zero, List.set_cons_succ])
        (apply lexg_pure (by rfl); (focus (intro w; go_simp; (try with_reducible rfl); done)); simp only [Act.put, List.setIfInBounds_toArray, List.set_cons_zero, List.set_cons_succ])
        (apply lexg_pure (by rfl); (focus (intro w; go_simp; (try with_reducible rfl); done)); simp only [Act.put, List.setIfInBounds_toArray, List.set_cons_zero, List.set_cons_succ])
        (apply lexg_take (by rfl); (focus (intro w hw; (try dsimp only at hw); go_simp; (try with_reducible rfl); done)); simp only [Act.put, List.setIfInBounds_toArray, List.set_cons_zero, List.set_cons_succ])
        (apply lexg_pure (by rfl); (focus (intro w; go_simp; (try with_reducible rfl); done)); simp only [Act.put, List.setIfInBounds_toArray, List.set_cons_zero, List.set_cons_succ])
        (apply lexg_take (by rfl); (focus (intro w hw; (try dsimp only at hw); go_simp; (try with_reducible rfl); done)); simp only [Act.put, List.setIfInBounds_toArray, List.set_cons_zero, List.set_cons_succ])
        (refine lexg_effN (by rfl) ?_; (refine Tab.wp_del _ _ rfl Tryz.underlying61 rfl rfl HV4.out.t2 hqa.out ?_; intro w4 ht4 hch4); simp only [Act.put])
        refine lexg_nil (fun _ => wpAnyG_done (by kernel_rfl) ?_ _)
        go_wp2
        go_ret
        rw [HE.out]
        exact ⟨rfl, (HC4.out.mono (L' := [b, m1, m2, m3]) (by simp)).trans hch4 (by simp), _, _, HV4.out.outV ht4 hch4⟩
end Go.Proofs.YtcgecalbgkkinaaGreat
