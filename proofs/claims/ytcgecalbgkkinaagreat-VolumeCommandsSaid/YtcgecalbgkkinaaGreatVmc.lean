/- The walks through State.at, turn, server, policy, remove. -/
import Derived.Test.YtcgecalbgkkinaaGreatVmb
namespace Go.Proofs.YtcgecalbgkkinaaGreat
open Go.RowKit Go.Proofs Go.Maps
set_option linter.unusedVariables false
set_option linter.unusedSimpArgs false

structure Cmd.ok (q : Cmd) : Prop where
  k : i64ok q.k
  a : i64ok q.a
  b : i64ok q.b
  c : i64ok q.c
/-- what a command's call leaves -/
structure Stp (w w' : World) (no : List Nat) (b m1 m2 m3 : Nat) (R : Vst × Int) (e : Ending) : Prop where
  ret : e = .returned (.int .i64 R.2)
  chg : Chg [b, m1, m2, m3] w w'
  vm : ∃ V' C', VM w' no b m1 m2 m3 R.1 V' C'
section
variable {w w' : World} {no : List Nat} {b m1 m2 m3 : Nat} {S : Vst} {V : List VoM} {C : List CkM}
/-- nothing done -/
theorem VM.stay (h : VM w no b m1 m2 m3 S V C) (hb : Below w.heap.size w w') {z : Int} {e : Ending} (he : e = .returned (.int .i64 z)) : Stp w w' no b m1 m2 m3 (S, z) e :=
  ⟨he, Chg.of_below hb, V, C, h.below hb⟩
end
def errOf (r : Except Int Ck) : Int := match r with | .error n => n | .ok _ => 0
set_option maxHeartbeats 2000000 in
set_option maxRecDepth 100000 in
theorem vat_calls (w : World) (no : List Nat) (b m1 m2 m3 : Nat) (S : Vst) (V : List VoM) (C : List CkM) (q : Cmd) (h : VM w no b m1 m2 m3 S V C) (hq : q.ok) :
    Calls Tryz.prog 86 #[.pointer (some ⟨b, 0, none⟩), q.val] w fun e w' => ∃ y : CkM, e = .returned (.tuple #[y.val, .int .i64 (errOf (S.at_ q.a q.b))]) ∧ (∀ k, S.at_ q.a q.b = .ok k → y.k = k ∧ fd CkM.key C q.a = some y) ∧
      Sl w no y.A y.c y.k.me ∧ Sl w no y.B y.d y.k.jo ∧ Below w.heap.size w w' := by
  obtain ⟨y, l1, _, hy, hs1, hs2⟩ := h.lookC hq.a
  have HSA := hide hs1
  have HSB := hide hs2
  obtain ⟨k0, a0, b0, c0, ⟨pr, pw, pl, pb⟩⟩ := q
  simp only [] at l1 hy
  have HY := hide hy
  obtain ⟨⟨id, vol, ep, me, jo⟩, A, c, B, d⟩ := y
  unfold CkM.val CkM.cells at l1
  simp only [] at l1
  obtain ⟨w0, hw0⟩ : ∃ w0, (w.alloc (.cells #[.int .i64 k0, .int .i64 a0, .int .i64 b0, .int .i64 c0, .int .i64 pr, .int .i64 pw, .int .i64 pl, .int .i64 pb] 38)).alloc (.cells #[.int .i64 0, .int .i64 0, .int .i64 0, .slice none 0 0, .slice none 0 0] 47) = w0 := ⟨_, rfl⟩
  have hb0 : Below w.heap.size w w0 := hw0 ▸ ((Below.refl w.heap.size w).alloc (Nat.le_refl _) _).alloc (by simp) _
  have d1 : Blk w0 w.heap.size 38 [.int .i64 k0, .int .i64 a0, .int .i64 b0, .int .i64 c0, .int .i64 pr, .int .i64 pw, .int .i64 pl, .int .i64 pb] := hw0 ▸ (Blk.new rfl).alloc _
  have d2 : Blk w0 (w.heap.size + 1) 47 [.int .i64 0, .int .i64 0, .int .i64 0, .slice none 0 0, .slice none 0 0] := hw0 ▸ Blk.new (by simp)
  have c2 : ∀ w', Below w0.heap.size w0 w' → w'.cell? ⟨b, 2, none⟩ = some (.map (some m3)) := fun w' hb => h.blk.rule 2 _ rfl w' (hb0.trans (hb.mono hb0.size))
  have l2 := fun w' (hb : Below w0.heap.size w0 w') => l1 w' (hb0.trans (hb.mono hb0.size))
  have x1 : ∀ w', Below w0.heap.size w0 w' → w'.cell? ⟨w.heap.size, 1, none⟩ = some (.int .i64 a0) := d1.rule 1 _ rfl
  have r0 := Below.refl w0.heap.size w0
  have HB0 := hide hb0
  have qY := (r0.alloc (Nat.le_refl _) (.cells #[.int .i64 id, .int .i64 vol, .int .i64 ep, .slice A me.length c, .slice B jo.length d] 47)).drew
  have E : Hid (Blk (w0.alloc (.cells #[.int .i64 id, .int .i64 vol, .int .i64 ep, .slice A me.length c, .slice B jo.length d] 47)).drew w.heap.size 38 _ ∧ Blk (w0.alloc (.cells #[.int .i64 id, .int .i64 vol, .int .i64 ep, .slice A me.length c, .slice B jo.length d] 47)).drew (w.heap.size + 1) 47 _ ∧ Blk (w0.alloc (.cells #[.int .i64 id, .int .i64 vol, .int .i64 ep, .slice A me.length c, .slice B jo.length d] 47)).drew w0.heap.size 47 _) := hide ⟨d1.below qY, d2.below qY, Blk.new (w := w0) (b := w0.heap.size) (cs := [.int .i64 id, .int .i64 vol, .int .i64 ep, .slice A me.length c, .slice B jo.length d]) (t := 47) rfl⟩
  have HB1 := hide (hb0.trans (qY.mono hb0.size))
  have HAT : Hid (S.at_ a0 b0 = if (fd Ck.id S.cs a0).isSome then (if ep = b0 then .ok ⟨id, vol, ep, me, jo⟩ else .error 10) else .error 7) := hide (by
    unfold Vst.at_
    rcases HY.out with ⟨_, e⟩ | ⟨_, e, _⟩
    · rw [e]; rfl
    · rw [e]; rfl)
  have HIN : Hid (∀ k, S.at_ a0 b0 = .ok k → (⟨id, vol, ep, me, jo⟩ : Ck) = k ∧ fd CkM.key C a0 = some ⟨⟨id, vol, ep, me, jo⟩, A, c, B, d⟩) := hide (by
    intro k hk
    rw [HAT.out] at hk
    rcases HY.out with ⟨e0, e⟩ | ⟨_, e, _⟩
    · rw [e] at hk
      simp only [Option.isSome_some, if_true] at hk
      split at hk
      · injection hk with hk
        exact ⟨hk, e0⟩
      · cases hk
    · rw [e] at hk
      cases hk)
  clear hy hs1 hs2 h l1 d1 d2 hq hb0 qY
  obtain ⟨t, ht⟩ : ∃ t, (fd Ck.id S.cs a0).isSome = t := ⟨_, rfl⟩
  rw [ht] at l2 HAT
  clear ht
  cases t with
  | false =>
    have HZ : Hid (errOf (S.at_ a0 b0) = 7) := hide (by rw [HAT.out]; rfl)
    unfold Cmd.val Cmd.cells
    go_enter Tryz.func86, Tryz.ntmps86
    go_wp2_with fail
    refine region_lexg (fun w' => Below w0.heap.size w0 w') [] 0 [(2, 0), (2, 1), (2, 2), (0, 3), (2, 4), (0, 5), (0, 6), (2, 7), (2, 8), (2, 9), (1, 10), (1, 11), (2, 12)] #[true, true, true, true, true, true, true, true, true, true, true, true, true] (by kernel_rfl) (by kernel_rfl) (by decide) (by kernel_rfl) (by kernel_rfl) (fun _ _ _ _ _ h => h) (by (first | exact r0.drew | exact (r0.alloc (Nat.le_refl _) _).drew)) (fun hS0 => ?_)
    simp only [List.map_cons, List.map_nil, List.getElem?_toArray, List.getElem?_cons_succ, List.getElem?_cons_zero]
    (apply lexg_pure (by rfl); (focus (intro w; go_simp; (try with_reducible rfl); done)); simp only [Act.put, List.setIfInBounds_toArray, List.set_cons_zero, List.set_cons_succ])
    (apply lexg_pure (by rfl); (focus (intro w; go_simp; (try with_reducible rfl); done)); simp only [Act.put, List.setIfInBounds_toArray, List.set_cons_zero, List.set_cons_succ])
    (apply lexg_pure (by rfl); (focus (intro w; go_simp; (try with_reducible rfl); done)); simp only [Act.put, List.setIfInBounds_toArray, List.set_cons_zero, List.set_cons_succ])
    (apply lexg_take (by rfl); (focus (intro w hw; (try dsimp only at hw); go_simp; (try with_reducible rfl); done)); simp only [Act.put, List.setIfInBounds_toArray, List.set_cons_zero, List.set_cons_succ])
    (apply lexg_pure (by rfl); (focus (intro w; go_simp; (try with_reducible rfl); done)); simp only [Act.put, List.setIfInBounds_toArray, List.set_cons_zero, List.set_cons_succ])
    (apply lexg_take (by rfl); (focus (intro w hw; (try dsimp only at hw); go_simp; (try with_reducible rfl); done)); simp only [Act.put, List.setIfInBounds_toArray, List.set_cons_zero, List.set_cons_succ])
    (apply lexg_take (by rfl); (focus (intro w hw; (try dsimp only at hw); go_simp; (try with_reducible rfl); done)); simp only [Act.put, List.setIfInBounds_toArray, List.set_cons_zero, List.set_cons_succ])
    (apply lexg_pure (by rfl); (focus (intro w; go_simp; (try with_reducible rfl); done)); simp only [Act.put, List.setIfInBounds_toArray, List.set_cons_zero, List.set_cons_succ])
    (apply lexg_pure (by rfl); (focus (intro w; go_simp; (try with_reducible rfl); done)); simp only [Act.put, List.setIfInBounds_toArray, List.set_cons_zero, List.set_cons_succ])
    (apply lexg_pure (by rfl); (focus (intro w; go_simp; (try with_reducible rfl); done)); simp only [Act.put, List.setIfInBounds_toArray, List.set_cons_zero, List.set_cons_succ])
    (refine lexg_eff (by rfl) ?_; go_simp; refine lexg_both (by (first | exact r0.drew | exact (r0.alloc (Nat.le_refl _) _).drew)) (fun hS1 => ?_))
    (refine lexg_eff (by rfl) ?_; go_simp; refine lexg_both (by (first | exact r0.drew | exact (r0.alloc (Nat.le_refl _) _).drew)) (fun hS1 => ?_))
    (apply lexg_pure (by rfl); (focus (intro w; go_simp; (try with_reducible rfl); done)); simp only [Act.put, List.setIfInBounds_toArray, List.set_cons_zero, List.set_cons_succ])
    refine lexg_nil (fun _ => wpAnyG_done (by kernel_rfl) ?_ _)
    obtain ⟨w1, hw1⟩ : ∃ w1, (w0.alloc (.cells #[.int .i64 id, .int .i64 vol, .int .i64 ep, .slice A me.length c, .slice B jo.length d] 47)).drew = w1 := ⟨_, rfl⟩
    rw [hw1] at E HB1

    rw [hw1]
    obtain ⟨E1, E2, E3⟩ := E.out
    have f0 := E3.cell 0
    have f1 := E3.cell 1
    have f2 := E3.cell 2
    have f3 := E3.cell 3
    have f4 := E3.cell 4
    have g0 := E2.cell 0
    have g1 := E2.cell 1
    have g2 := E2.cell 2
    have g3 := E2.cell 3
    have g4 := E2.cell 4
    have p2 := E1.cell 2
    have z2 := E2.frozen
    simp only [List.getElem?_cons_succ, List.getElem?_cons_zero] at f0 f1 f2 f3 f4 g0 g1 g2 g3 g4 p2
    have HW1 := hide hw1
    have HW0 := hide hw0
    clear E1 E2 E3 hw1 hw0 c2 x1 l2
    go_wp2
    refine bodyPost_ret (v := .tuple #[.agg #[.int .i64 id, .int .i64 vol, .int .i64 ep, .slice A me.length c, .slice B jo.length d], .int .i64 7]) (by simp [results, Tryz.results86, go_sem, *]) rfl ?_
    exact ⟨⟨⟨id, vol, ep, me, jo⟩, A, c, B, d⟩, by rw [HZ.out]; rfl, HIN.out, HSA.out, HSB.out, by repeat (first | (with_reducible exact HB1.out) | (with_reducible refine Below.setCell ?_ (by simp <;> omega) _))⟩
  | true =>
    by_cases hep : ep = b0
    · have HZ : Hid (errOf (S.at_ a0 b0) = 0) := hide (by simp [HAT.out, hep, errOf])
      have hne : (ep != b0) = false := by simp [hep]
      have HEP := hide hep
      clear hep
      unfold Cmd.val Cmd.cells
      go_enter Tryz.func86, Tryz.ntmps86
      go_wp2_with fail
      refine region_lexg (fun w' => Below w0.heap.size w0 w') [] 0 [(2, 0), (2, 1), (2, 2), (0, 3), (2, 4), (0, 5), (0, 6), (2, 7), (2, 8), (2, 9), (1, 10), (1, 11), (2, 12)] #[true, true, true, true, true, true, true, true, true, true, true, true, true] (by kernel_rfl) (by kernel_rfl) (by decide) (by kernel_rfl) (by kernel_rfl) (fun _ _ _ _ _ h => h) (by (first | exact r0.drew | exact (r0.alloc (Nat.le_refl _) _).drew)) (fun hS0 => ?_)
      simp only [List.map_cons, List.map_nil, List.getElem?_toArray, List.getElem?_cons_succ, List.getElem?_cons_zero]
      (apply lexg_pure (by rfl); (focus (intro w; go_simp; (try with_reducible rfl); done)); simp only [Act.put, List.setIfInBounds_toArray, List.set_cons_zero, List.set_cons_succ])
      (apply lexg_pure (by rfl); (focus (intro w; go_simp; (try with_reducible rfl); done)); simp only [Act.put, List.setIfInBounds_toArray, List.set_cons_zero, List.set_cons_succ])
      (apply lexg_pure (by rfl); (focus (intro w; go_simp; (try with_reducible rfl); done)); simp only [Act.put, List.setIfInBounds_toArray, List.set_cons_zero, List.set_cons_succ])
      (apply lexg_take (by rfl); (focus (intro w hw; (try dsimp only at hw); go_simp; (try with_reducible rfl); done)); simp only [Act.put, List.setIfInBounds_toArray, List.set_cons_zero, List.set_cons_succ])
      (apply lexg_pure (by rfl); (focus (intro w; go_simp; (try with_reducible rfl); done)); simp only [Act.put, List.setIfInBounds_toArray, List.set_cons_zero, List.set_cons_succ])
      (apply lexg_take (by rfl); (focus (intro w hw; (try dsimp only at hw); go_simp; (try with_reducible rfl); done)); simp only [Act.put, List.setIfInBounds_toArray, List.set_cons_zero, List.set_cons_succ])
      (apply lexg_take (by rfl); (focus (intro w hw; (try dsimp only at hw); go_simp; (try with_reducible rfl); done)); simp only [Act.put, List.setIfInBounds_toArray, List.set_cons_zero, List.set_cons_succ])
      (apply lexg_pure (by rfl); (focus (intro w; go_simp; (try with_reducible rfl); done)); simp only [Act.put, List.setIfInBounds_toArray, List.set_cons_zero, List.set_cons_succ])
      (apply lexg_pure (by rfl); (focus (intro w; go_simp; (try with_reducible rfl); done)); simp only [Act.put, List.setIfInBounds_toArray, List.set_cons_zero, List.set_cons_succ])
      (apply lexg_pure (by rfl); (focus (intro w; go_simp; (try with_reducible rfl); done)); simp only [Act.put, List.setIfInBounds_toArray, List.set_cons_zero, List.set_cons_succ])
      (refine lexg_eff (by rfl) ?_; go_simp; refine lexg_both (by (first | exact r0.drew | exact (r0.alloc (Nat.le_refl _) _).drew)) (fun hS1 => ?_))
      (refine lexg_eff (by rfl) ?_; go_simp; refine lexg_both (by (first | exact r0.drew | exact (r0.alloc (Nat.le_refl _) _).drew)) (fun hS1 => ?_))
      (apply lexg_pure (by rfl); (focus (intro w; go_simp; (try with_reducible rfl); done)); simp only [Act.put, List.setIfInBounds_toArray, List.set_cons_zero, List.set_cons_succ])
      refine lexg_nil (fun _ => wpAnyG_done (by kernel_rfl) ?_ _)
      obtain ⟨w1, hw1⟩ : ∃ w1, (w0.alloc (.cells #[.int .i64 id, .int .i64 vol, .int .i64 ep, .slice A me.length c, .slice B jo.length d] 47)).drew = w1 := ⟨_, rfl⟩
      rw [hw1] at E HB1

      rw [hw1]
      obtain ⟨E1, E2, E3⟩ := E.out
      have f0 := E3.cell 0
      have f1 := E3.cell 1
      have f2 := E3.cell 2
      have f3 := E3.cell 3
      have f4 := E3.cell 4
      have g0 := E2.cell 0
      have g1 := E2.cell 1
      have g2 := E2.cell 2
      have g3 := E2.cell 3
      have g4 := E2.cell 4
      have p2 := E1.cell 2
      have z2 := E2.frozen
      simp only [List.getElem?_cons_succ, List.getElem?_cons_zero] at f0 f1 f2 f3 f4 g0 g1 g2 g3 g4 p2
      have HW1 := hide hw1
      have HW0 := hide hw0
      clear E1 E2 E3 hw1 hw0 c2 x1 l2
      go_wp2
      refine bodyPost_ret (v := .tuple #[.agg #[.int .i64 id, .int .i64 vol, .int .i64 ep, .slice A me.length c, .slice B jo.length d], .int .i64 0]) (by simp [results, Tryz.results86, go_sem, *]) rfl ?_
      exact ⟨⟨⟨id, vol, ep, me, jo⟩, A, c, B, d⟩, by rw [HZ.out]; rfl, HIN.out, HSA.out, HSB.out, by repeat (first | (with_reducible exact HB1.out) | (with_reducible refine Below.setCell ?_ (by simp <;> omega) _))⟩
    · have HZ : Hid (errOf (S.at_ a0 b0) = 10) := hide (by simp [HAT.out, hep, errOf])
      have hne : (ep != b0) = true := by simp [hep]
      have HEP := hide hep
      clear hep
      unfold Cmd.val Cmd.cells
      go_enter Tryz.func86, Tryz.ntmps86
      go_wp2_with fail
      refine region_lexg (fun w' => Below w0.heap.size w0 w') [] 0 [(2, 0), (2, 1), (2, 2), (0, 3), (2, 4), (0, 5), (0, 6), (2, 7), (2, 8), (2, 9), (1, 10), (1, 11), (2, 12)] #[true, true, true, true, true, true, true, true, true, true, true, true, true] (by kernel_rfl) (by kernel_rfl) (by decide) (by kernel_rfl) (by kernel_rfl) (fun _ _ _ _ _ h => h) (by (first | exact r0.drew | exact (r0.alloc (Nat.le_refl _) _).drew)) (fun hS0 => ?_)
      simp only [List.map_cons, List.map_nil, List.getElem?_toArray, List.getElem?_cons_succ, List.getElem?_cons_zero]
      (apply lexg_pure (by rfl); (focus (intro w; go_simp; (try with_reducible rfl); done)); simp only [Act.put, List.setIfInBounds_toArray, List.set_cons_zero, List.set_cons_succ])
      (apply lexg_pure (by rfl); (focus (intro w; go_simp; (try with_reducible rfl); done)); simp only [Act.put, List.setIfInBounds_toArray, List.set_cons_zero, List.set_cons_succ])
      (apply lexg_pure (by rfl); (focus (intro w; go_simp; (try with_reducible rfl); done)); simp only [Act.put, List.setIfInBounds_toArray, List.set_cons_zero, List.set_cons_succ])
      (apply lexg_take (by rfl); (focus (intro w hw; (try dsimp only at hw); go_simp; (try with_reducible rfl); done)); simp only [Act.put, List.setIfInBounds_toArray, List.set_cons_zero, List.set_cons_succ])
      (apply lexg_pure (by rfl); (focus (intro w; go_simp; (try with_reducible rfl); done)); simp only [Act.put, List.setIfInBounds_toArray, List.set_cons_zero, List.set_cons_succ])
      (apply lexg_take (by rfl); (focus (intro w hw; (try dsimp only at hw); go_simp; (try with_reducible rfl); done)); simp only [Act.put, List.setIfInBounds_toArray, List.set_cons_zero, List.set_cons_succ])
      (apply lexg_take (by rfl); (focus (intro w hw; (try dsimp only at hw); go_simp; (try with_reducible rfl); done)); simp only [Act.put, List.setIfInBounds_toArray, List.set_cons_zero, List.set_cons_succ])
      (apply lexg_pure (by rfl); (focus (intro w; go_simp; (try with_reducible rfl); done)); simp only [Act.put, List.setIfInBounds_toArray, List.set_cons_zero, List.set_cons_succ])
      (apply lexg_pure (by rfl); (focus (intro w; go_simp; (try with_reducible rfl); done)); simp only [Act.put, List.setIfInBounds_toArray, List.set_cons_zero, List.set_cons_succ])
      (apply lexg_pure (by rfl); (focus (intro w; go_simp; (try with_reducible rfl); done)); simp only [Act.put, List.setIfInBounds_toArray, List.set_cons_zero, List.set_cons_succ])
      (refine lexg_eff (by rfl) ?_; go_simp; refine lexg_both (by (first | exact r0.drew | exact (r0.alloc (Nat.le_refl _) _).drew)) (fun hS1 => ?_))
      (refine lexg_eff (by rfl) ?_; go_simp; refine lexg_both (by (first | exact r0.drew | exact (r0.alloc (Nat.le_refl _) _).drew)) (fun hS1 => ?_))
      (apply lexg_pure (by rfl); (focus (intro w; go_simp; (try with_reducible rfl); done)); simp only [Act.put, List.setIfInBounds_toArray, List.set_cons_zero, List.set_cons_succ])
      refine lexg_nil (fun _ => wpAnyG_done (by kernel_rfl) ?_ _)
      obtain ⟨w1, hw1⟩ : ∃ w1, (w0.alloc (.cells #[.int .i64 id, .int .i64 vol, .int .i64 ep, .slice A me.length c, .slice B jo.length d] 47)).drew = w1 := ⟨_, rfl⟩
      rw [hw1] at E HB1

      rw [hw1]
      obtain ⟨E1, E2, E3⟩ := E.out
      have f0 := E3.cell 0
      have f1 := E3.cell 1
      have f2 := E3.cell 2
      have f3 := E3.cell 3
      have f4 := E3.cell 4
      have g0 := E2.cell 0
      have g1 := E2.cell 1
      have g2 := E2.cell 2
      have g3 := E2.cell 3
      have g4 := E2.cell 4
      have p2 := E1.cell 2
      have z2 := E2.frozen
      simp only [List.getElem?_cons_succ, List.getElem?_cons_zero] at f0 f1 f2 f3 f4 g0 g1 g2 g3 g4 p2
      have HW1 := hide hw1
      have HW0 := hide hw0
      clear E1 E2 E3 hw1 hw0 c2 x1 l2
      go_wp2
      refine bodyPost_ret (v := .tuple #[.agg #[.int .i64 id, .int .i64 vol, .int .i64 ep, .slice A me.length c, .slice B jo.length d], .int .i64 10]) (by simp [results, Tryz.results86, go_sem, *]) rfl ?_
      exact ⟨⟨⟨id, vol, ep, me, jo⟩, A, c, B, d⟩, by rw [HZ.out]; rfl, HIN.out, HSA.out, HSB.out, by repeat (first | (with_reducible exact HB1.out) | (with_reducible refine Below.setCell ?_ (by simp <;> omega) _))⟩
section
variable {w w' : World} {no : List Nat} {b m1 m2 m3 : Nat} {S : Vst} {V : List VoM} {C : List CkM} {x : VoM} {y : CkM}
theorem VM.setV (h : VM w no b m1 m2 m3 S V C) (ht : Tab VoM.key VoM.val w' m2 (ins VoM.key x V)) (hc : Chg [m2] w w') (hs : Sl w no x.A x.c x.v.ch) : VM w' no b m1 m2 m3 { S with vs := ins Vo.id x.v S.vs } (ins VoM.key x V) C :=
  h.put2 ht hc (fun z hz => by
    rcases (mem_ins h.t2.rise).1 hz with rfl | ⟨hz, _⟩
    · exact Or.inr hs
    · exact Or.inl hz) (by rw [← h.eV]; exact ins_map VoM.v Vo.id x V)
theorem VM.setC (h : VM w no b m1 m2 m3 S V C) (ht : Tab CkM.key CkM.val w' m3 (ins CkM.key y C)) (hc : Chg [m3] w w') (hs : Sl w no y.A y.c y.k.me ∧ Sl w no y.B y.d y.k.jo) : VM w' no b m1 m2 m3 { S with cs := ins Ck.id y.k S.cs } V (ins CkM.key y C) :=
  h.put3 ht hc (fun z hz => by
    rcases (mem_ins h.t3.rise).1 hz with rfl | ⟨hz, _⟩
    · exact Or.inr hs
    · exact Or.inl hz) (by rw [← h.eC]; exact ins_map CkM.k Ck.id y C)
theorem VM.outV (h : VM w no b m1 m2 m3 S V C) {k : Int} (ht : Tab VoM.key VoM.val w' m2 (out VoM.key V k)) (hc : Chg [m2] w w') : VM w' no b m1 m2 m3 { S with vs := out Vo.id S.vs k } (out VoM.key V k) C :=
  h.put2 ht hc (fun z hz => Or.inl (mem_out.1 hz).1) (by rw [← h.eV]; exact out_map VoM.v Vo.id k V)
theorem VM.outC (h : VM w no b m1 m2 m3 S V C) {k : Int} (ht : Tab CkM.key CkM.val w' m3 (out CkM.key C k)) (hc : Chg [m3] w w') : VM w' no b m1 m2 m3 { S with cs := out Ck.id S.cs k } V (out CkM.key C k) :=
  h.put3 ht hc (fun z hz => Or.inl (mem_out.1 hz).1) (by rw [← h.eC]; exact out_map CkM.k Ck.id k C)
theorem VM.lenC (h : VM w no b m1 m2 m3 S V C) : C.length = S.cs.length := by have := congrArg List.length h.eC; rwa [List.length_map] at this
theorem VM.lenV (h : VM w no b m1 m2 m3 S V C) : V.length = S.vs.length := by have := congrArg List.length h.eV; rwa [List.length_map] at this
end
set_option maxHeartbeats 2000000 in
set_option maxRecDepth 100000 in
theorem vturn_calls (w : World) (no : List Nat) (b m1 m2 m3 : Nat) (S : Vst) (V : List VoM) (C : List CkM) (y : CkM) (h : VM w no b m1 m2 m3 S V C) (h1 : Sl w no y.A y.c y.k.me) (h2 : Sl w no y.B y.d y.k.jo) (hid : i64ok y.k.id) (he : 0 ≤ y.k.ep) (he2 : y.k.ep ≤ 1000000) (hl : S.cs.length < 1000000) :
    Calls Tryz.prog 88 #[.pointer (some ⟨b, 0, none⟩), y.val] w fun e w' => Stp w w' no b m1 m2 m3 (S.turn y.k, 0) e := by
  obtain ⟨⟨id, vol, ep, me, jo⟩, A, c, B, d⟩ := y
  simp only [] at h1 h2 hid he he2
  unfold CkM.val CkM.cells
  simp only []
  obtain ⟨w0, hw0⟩ : ∃ w0, w.alloc (.cells #[.int .i64 id, .int .i64 vol, .int .i64 ep, .slice A me.length c, .slice B jo.length d] 47) = w0 := ⟨_, rfl⟩
  have hb0 : Below w.heap.size w w0 := hw0 ▸ (Below.refl w.heap.size w).alloc (Nat.le_refl _) _
  have d0 : Blk w0 w.heap.size 47 [.int .i64 id, .int .i64 vol, .int .i64 ep, .slice A me.length c, .slice B jo.length d] := hw0 ▸ Blk.new rfl
  have e2 : w0.cell? ⟨w.heap.size, 2, none⟩ = some (.int .i64 ep) := d0.cell 2
  have z2 : w0.frozen? ⟨w.heap.size, 2, none⟩ = false := d0.frozen 2
  have hwrap : IntKind.i64.wrap (ep + 1) = ep + 1 := IntWalk.i64_in _ (by omega)
  have d1 := d0.set 2 (.int .i64 (ep + 1))
  have hb1 : Below w.heap.size w (w0.setCell ⟨w.heap.size, 2, none⟩ (.int .i64 (ep + 1))) := hb0.setCell (Nat.le_refl _) _
  obtain ⟨w1, hw1⟩ : ∃ w1, w0.setCell ⟨w.heap.size, 2, none⟩ (.int .i64 (ep + 1)) = w1 := ⟨_, rfl⟩
  rw [hw1] at d1 hb1
  have vm1 := h.below hb1
  have r1 := Below.refl w1.heap.size w1
  have c2 := vm1.blk.rule 2 _ rfl
  have f0 := d1.rule 0 _ rfl
  have f1 := d1.rule 1 _ rfl
  have f2 := d1.rule 2 _ rfl
  have f3 := d1.rule 3 _ rfl
  have f4 := d1.rule 4 _ rfl
  have HV := hide (vm1.below r1.drew)
  have HLC := hide (show C.length < 1000000 by rw [h.lenC]; exact hl)
  have HSS := hide (And.intro ((h1.below hb1).below r1.drew) ((h2.below hb1).below r1.drew))
  have HB1 := hide (hb1.trans (r1.drew.mono hb1.size))
  have HID := hide hid
  clear vm1 h h1 h2 hid hl d0 d1 hb0 hb1
  go_enter Tryz.func88, Tryz.ntmps88
  go_wp2_with fail
  refine region_lexg (fun w' => Below w1.heap.size w1 w') [7] 0 [(2, 0), (2, 1), (2, 2), (0, 3), (2, 4), (0, 5), (0, 6), (3, 7)] #[true, true, true, true, true, true, true, true] (by kernel_rfl) (by kernel_rfl) (by decide) (by kernel_rfl) (by kernel_rfl) (fun _ _ _ _ _ h => h) (by (exact r1.drew)) (fun hS0 => ?_)
  simp only [List.map_cons, List.map_nil, List.getElem?_toArray, List.getElem?_cons_succ, List.getElem?_cons_zero]
  (apply lexg_pure (by rfl); (focus (intro w; go_simp; (try with_reducible rfl); done)); simp only [Act.put, List.setIfInBounds_toArray, List.set_cons_zero, List.set_cons_succ])
  (apply lexg_pure (by rfl); (focus (intro w; go_simp; (try with_reducible rfl); done)); simp only [Act.put, List.setIfInBounds_toArray, List.set_cons_zero, List.set_cons_succ])
  (apply lexg_pure (by rfl); (focus (intro w; go_simp; (try with_reducible rfl); done)); simp only [Act.put, List.setIfInBounds_toArray, List.set_cons_zero, List.set_cons_succ])
  (apply lexg_take (by rfl); (focus (intro w hw; (try dsimp only at hw); go_simp; (try with_reducible rfl); done)); simp only [Act.put, List.setIfInBounds_toArray, List.set_cons_zero, List.set_cons_succ])
  (apply lexg_pure (by rfl); (focus (intro w; go_simp; (try with_reducible rfl); done)); simp only [Act.put, List.setIfInBounds_toArray, List.set_cons_zero, List.set_cons_succ])
  (apply lexg_take (by rfl); (focus (intro w hw; (try dsimp only at hw); go_simp; (try with_reducible rfl); done)); simp only [Act.put, List.setIfInBounds_toArray, List.set_cons_zero, List.set_cons_succ])
  (apply lexg_take (by rfl); (focus (intro w hw; (try dsimp only at hw); go_simp; (try with_reducible rfl); done)); simp only [Act.put, List.setIfInBounds_toArray, List.set_cons_zero, List.set_cons_succ])
  (refine lexg_effN (by rfl) ?_; (refine Tab.wp_put (key := CkM.key) (val := CkM.val) _ _ _ (⟨⟨id, vol, ep + 1, me, jo⟩, A, c, B, d⟩ : CkM) rfl Tryz.underlying62 rfl rfl rfl HV.out.t3 HID.out HLC.out ?_; intro w3 ht3 hch3); simp only [Act.put])
  refine lexg_nil (fun _ => wpAnyG_done (by kernel_rfl) ?_ _)
  go_wp2
  go_ret
  exact ⟨rfl, ((Chg.of_below (L := [b, m1, m2, m3]) HB1.out)).trans hch3 (by simp), V, _, HV.out.setC (y := ⟨⟨id, vol, ep + 1, me, jo⟩, A, c, B, d⟩) ht3 hch3 HSS.out⟩
set_option maxHeartbeats 2000000 in
set_option maxRecDepth 100000 in
theorem vserver_calls (w : World) (no : List Nat) (b m1 m2 m3 : Nat) (S : Vst) (V : List VoM) (C : List CkM) (q : Cmd) (h : VM w no b m1 m2 m3 S V C) (hq : q.ok) (hl : S.sv.length < 1000000) :
    Calls Tryz.prog 54 #[.pointer (some ⟨b, 0, none⟩), q.val] w fun e w' => Stp w w' no b m1 m2 m3 (S.server q) e := by
  obtain ⟨k0, a0, b0, c0, ⟨qr, qw, ql, qb⟩⟩ := q
  have hqa : i64ok a0 := hq.a
  obtain ⟨w0, hw0⟩ : ∃ w0, w.alloc (.cells #[.int .i64 k0, .int .i64 a0, .int .i64 b0, .int .i64 c0, .int .i64 qr, .int .i64 qw, .int .i64 ql, .int .i64 qb] 38) = w0 := ⟨_, rfl⟩
  have hb0 : Below w.heap.size w w0 := hw0 ▸ (Below.refl w.heap.size w).alloc (Nat.le_refl _) _
  have d1 : Blk w0 w.heap.size 38 [.int .i64 k0, .int .i64 a0, .int .i64 b0, .int .i64 c0, .int .i64 qr, .int .i64 qw, .int .i64 ql, .int .i64 qb] := hw0 ▸ Blk.new rfl
  have x1 : ∀ w', Below w0.heap.size w0 w' → w'.cell? ⟨w.heap.size, 1, none⟩ = some (.int .i64 a0) := d1.rule 1 _ rfl
  have x2 : ∀ w', Below w0.heap.size w0 w' → w'.cell? ⟨w.heap.size, 2, none⟩ = some (.int .i64 b0) := d1.rule 2 _ rfl
  have y1 : w0.cell? ⟨w.heap.size, 1, none⟩ = some (.int .i64 a0) := d1.cell 1
  have y2 : w0.cell? ⟨w.heap.size, 2, none⟩ = some (.int .i64 b0) := d1.cell 2
  have r0 := Below.refl w0.heap.size w0
  have vm0 := h.below hb0
  have c0r := vm0.blk.rule 0 _ rfl
  have HV := hide (vm0.below r0.drew)
  have HB0 := hide (hb0.trans (r0.drew.mono hb0.size))
  have HB := hide hb0
  have HH := hide h
  have HL := hide hl
  have HA := hide hqa
  clear h hq hqa hl vm0 d1 hb0
  unfold Cmd.val Cmd.cells
  simp only []
  cases h1 : within a0 0 15 with
  | false =>
    have HE : Hid (S.server ⟨k0, a0, b0, c0, ⟨qr, qw, ql, qb⟩⟩ = (S, 1)) := hide (by
      unfold Vst.server
      simp only [within, decide_eq_false_iff_not] at h1
      exact if_neg (fun h => h1 ⟨h.1, h.2.1⟩))
    go_enter Tryz.func54, Tryz.ntmps54
    go_wp2_with (go_at_call 84; with_reducible refine (vwithin_calls _ _ _ _).mono ?_; rintro e w' ⟨rfl, rfl⟩)
    go_ret
    rw [HE.out]
    exact HH.out.stay HB.out rfl
  | true =>
    cases h2 : within b0 1 64 with
    | false =>
      have HE : Hid (S.server ⟨k0, a0, b0, c0, ⟨qr, qw, ql, qb⟩⟩ = (S, 1)) := hide (by
        unfold Vst.server
        simp only [within, decide_eq_false_iff_not] at h2
        exact if_neg (fun h => h2 ⟨h.2.2.1, h.2.2.2⟩))
      go_enter Tryz.func54, Tryz.ntmps54
      go_wp2_with (go_at_call 84; with_reducible refine (vwithin_calls _ _ _ _).mono ?_; rintro e w' ⟨rfl, rfl⟩)
      go_ret
      rw [HE.out]
      exact HH.out.stay HB.out rfl
    | true =>
      have HE : Hid (S.server ⟨k0, a0, b0, c0, ⟨qr, qw, ql, qb⟩⟩ = ({ S with sv := ins Prod.fst (a0, b0) S.sv }, 0)) := hide (by
        unfold Vst.server
        simp only [within, decide_eq_true_eq] at h1 h2
        exact if_pos ⟨h1.1, h1.2, h2.1, h2.2⟩)
      go_enter Tryz.func54, Tryz.ntmps54
      go_wp2_with (go_at_call 84; with_reducible refine (vwithin_calls _ _ _ _).mono ?_; rintro e w' ⟨rfl, rfl⟩)
      refine region_lexg (fun w' => Below w0.heap.size w0 w') [8] 0 [(2, 0), (2, 1), (2, 2), (0, 3), (2, 4), (0, 5), (2, 6), (0, 7), (3, 8)] #[true, true, true, true, true, true, true, true, true] (by kernel_rfl) (by kernel_rfl) (by decide) (by kernel_rfl) (by kernel_rfl) (fun _ _ _ _ _ h => h) (by (exact r0.drew)) (fun hS0 => ?_)
      simp only [List.map_cons, List.map_nil, List.getElem?_toArray, List.getElem?_cons_succ, List.getElem?_cons_zero]
      (apply lexg_pure (by rfl); (focus (intro w; go_simp; (try with_reducible rfl); done)); simp only [Act.put, List.setIfInBounds_toArray, List.set_cons_zero, List.set_cons_succ])
      (apply lexg_pure (by rfl); (focus (intro w; go_simp; (try with_reducible rfl); done)); simp only [Act.put, List.setIfInBounds_toArray, List.set_cons_zero, List.set_cons_succ])
      (apply lexg_pure (by rfl); (focus (intro w; go_simp; (try with_reducible rfl); done)); simp only [Act.put, List.setIfInBounds_toArray, List.set_cons_zero, List.set_cons_succ])
      (apply lexg_take (by rfl); (focus (intro w hw; (try dsimp only at hw); go_simp; (try with_reducible rfl); done)); simp only [Act.put, List.setIfInBounds_toArray, List.set_cons_zero, List.set_cons_succ])
      (apply lexg_pure (by rfl); (focus (intro w; go_simp; (try with_reducible rfl); done)); simp only [Act.put, List.setIfInBounds_toArray, List.set_cons_zero, List.set_cons_succ])
      (apply lexg_take (by rfl); (focus (intro w hw; (try dsimp only at hw); go_simp; (try with_reducible rfl); done)); simp only [Act.put, List.setIfInBounds_toArray, List.set_cons_zero, List.set_cons_succ])
      (apply lexg_pure (by rfl); (focus (intro w; go_simp; (try with_reducible rfl); done)); simp only [Act.put, List.setIfInBounds_toArray, List.set_cons_zero, List.set_cons_succ])
      (apply lexg_take (by rfl); (focus (intro w hw; (try dsimp only at hw); go_simp; (try with_reducible rfl); done)); simp only [Act.put, List.setIfInBounds_toArray, List.set_cons_zero, List.set_cons_succ])
      (refine lexg_effN (by rfl) ?_; (refine Tab.wp_put (key := Prod.fst) (val := svVal) _ _ _ ((a0, b0) : Int × Int) rfl Tryz.underlying60 rfl rfl rfl HV.out.t1 HA.out HL.out ?_; intro w3 ht3 hch3); simp only [Act.put])
      refine lexg_nil (fun _ => wpAnyG_done (by kernel_rfl) ?_ _)
      go_wp2
      go_ret
      rw [HE.out]
      exact ⟨rfl, ((Chg.of_below (L := [b, m1, m2, m3]) HB0.out)).trans hch3 (by simp), V, C, HV.out.put1 ht3 hch3⟩
end Go.Proofs.YtcgecalbgkkinaaGreat
