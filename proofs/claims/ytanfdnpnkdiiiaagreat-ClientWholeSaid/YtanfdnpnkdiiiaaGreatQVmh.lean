/- One text of: Vmh. -/
import Derived.Test.YtanfdnpnkdiiiaaGreatQVmg
import Derived.Test.YtanfdnpnkdiiiaaGreatQVin
namespace Go.Proofs.YtanfdnpnkdiiiaaGreat
open Go.RowKit Go.Proofs Go.Maps
set_option linter.unusedVariables false
set_option linter.unusedSimpArgs false

/-- what State.Chunk hands back -/
def ChOut (w w' : World) (e : Ending) (f : Option Ck) : Prop :=
  ∃ y : CkM, e = .returned (.tuple #[y.val, .bool f.isSome]) ∧ (f = some y.k ∨ (f = none ∧ y.k = zCk.k)) ∧ MadeI w w' y.A y.c y.k.me ∧ MadeI w w' y.B y.d y.k.jo ∧ y.k.me.length ≤ 1024 ∧ y.k.jo.length ≤ 1024 ∧ Below w.heap.size w w'
set_option maxHeartbeats 4000000 in
set_option maxRecDepth 100000 in
theorem vchunk_calls (w : World) (no : List Nat) (b m1 m2 m3 : Nat) (S : Vst) (V : List VoM) (C : List CkM) (id : Int) (h : VM w no b m1 m2 m3 S V C) (hid : i64ok id) :
    Calls Tryz.prog 33 #[.pointer (some ⟨b, 0, none⟩), .int .i64 id] w fun e w' => ChOut w w' e (fd Ck.id S.cs id) := by
  obtain ⟨y, l1, _, hy, hsA, hsB⟩ := h.lookC hid
  have hy2 : fd Ck.id S.cs id = some y.k ∨ (fd Ck.id S.cs id = none ∧ y.k = zCk.k) := hy.imp And.right (fun h => ⟨h.2.1, by rw [h.2.2]⟩)
  have HY := hide hy2
  have HSA := hide hsA
  have HSB := hide hsB
  obtain ⟨⟨i, vol, ep, me, jo⟩, A, c, B, d⟩ := y
  unfold CkM.val CkM.cells at l1
  simp only [] at l1
  obtain ⟨w0, hw0⟩ : ∃ w0, w.alloc (.cells #[.int .i64 0, .int .i64 0, .int .i64 0, .slice none 0 0, .slice none 0 0] 89) = w0 := ⟨_, rfl⟩
  have hb0 : Below w.heap.size w w0 := hw0 ▸ (Below.refl w.heap.size w).alloc (Nat.le_refl _) _
  have c1 := h.blk.rule 2 _ rfl w0 hb0
  have l2 := l1 w0 hb0
  have hs0 : w0.heap.size = w.heap.size + 1 := by rw [← hw0]; simp
  have hq0 : Blk w0 w.heap.size 89 [.int .i64 0, .int .i64 0, .int .i64 0, .slice none 0 0, .slice none 0 0] := hw0 ▸ Blk.new rfl
  have hb1 := hb0.alloc hb0.size (.cells #[.int .i64 i, .int .i64 vol, .int .i64 ep, .slice A me.length c, .slice B jo.length d] 89)
  have hbl := Blk.new (w := w0) (b := w.heap.size + 1) (cs := [.int .i64 i, .int .i64 vol, .int .i64 ep, .slice A me.length c, .slice B jo.length d]) (t := 89) hs0
  have hbr := hq0.alloc (.cells #[.int .i64 i, .int .i64 vol, .int .i64 ep, .slice A me.length c, .slice B jo.length d] 89)
  obtain ⟨w1, hw1⟩ : ∃ w1, w0.alloc (.cells #[.int .i64 i, .int .i64 vol, .int .i64 ep, .slice A me.length c, .slice B jo.length d] 89) = w1 := ⟨_, rfl⟩
  rw [hw1] at hb1 hbl hbr
  have hs1 : w1.heap.size = w.heap.size + 2 := by rw [← hw1]; simp [hs0]
  have HS1 := hide hs1
  have HBL := hide hbl
  have HBR := hide hbr
  have HB1 := hide hb1
  have HW1 := hide hw1
  have r1 := Below.refl w1.heap.size w1
  have u3 : ∀ w', Below w1.heap.size w1 w' → w'.cell? ⟨w.heap.size + 1, 3, none⟩ = some (.slice A me.length c) := hbl.rule 3 _ rfl
  have u4 : ∀ w', Below w1.heap.size w1 w' → w'.cell? ⟨w.heap.size + 1, 4, none⟩ = some (.slice B jo.length d) := hbl.rule 4 _ rfl
  have z3 : ∀ w', Below w1.heap.size w1 w' → w'.frozen? ⟨w.heap.size + 1, 3, none⟩ = false := fun w' hb => (HBL.out.below hb).frozen 3
  have z4 : ∀ w', Below w1.heap.size w1 w' → w'.frozen? ⟨w.heap.size + 1, 4, none⟩ = false := fun w' hb => (HBL.out.below hb).frozen 4
  have HWM : Hid (∀ w', Below w1.heap.size w1 w' → Calls Tryz.prog 54 #[.slice A me.length c] w' fun e w'' => ∃ A' c', e = .returned (.slice A' me.length c') ∧ MadeI w1 w'' A' c' me ∧ Below w1.heap.size w1 w'') := hide (fun w' hb =>
    (cloneI_calls _ me.length c me no w' rfl (HSA.out.below (HB1.out.trans (hb.mono HB1.out.size)))).mono fun e w'' ⟨A', c', he, hm, hb2⟩ => ⟨A', c', he, hm.made.back hb.size, hb.trans (hb2.mono hb.size)⟩)
  have HWJ : Hid (∀ w', Below w1.heap.size w1 w' → Calls Tryz.prog 54 #[.slice B jo.length d] w' fun e w'' => ∃ A' c', e = .returned (.slice A' jo.length c') ∧ MadeI w1 w'' A' c' jo ∧ Below w1.heap.size w1 w'' ∧ Below w'.heap.size w' w'') := hide (fun w' hb =>
    (cloneI_calls _ jo.length d jo no w' rfl (HSB.out.below (HB1.out.trans (hb.mono HB1.out.size)))).mono fun e w'' ⟨A', c', he, hm, hb2⟩ => ⟨A', c', he, hm.made.back hb.size, hb.trans (hb2.mono hb.size), hb2⟩)
  clear hy hy2 hsA hsB h l1 hb1 hbl hbr hw1 hs1
  go_enter Tryz.func33, Tryz.ntmps33
  go_wp2_with fail
  rw [show w0.alloc (.cells #[.int .i64 i, .int .i64 vol, .int .i64 ep, .slice A me.length c, .slice B jo.length d] 89) = w1 from HW1.out]
  have HW0 := hide hw0
  clear hw0 hs0 hq0 c1 l2 hb0
  refine region_lexg (fun w' => Below w1.heap.size w1 w') [7] 0 [(2, 0), (0, 1), (2, 3), (0, 4), (1, 2), (2, 6), (1, 5), (3, 7), (2, 8), (3, 9)] #[true, true, true, true, true, true, true, true, true, true] (by kernel_rfl) (by kernel_rfl) (by decide) (by kernel_rfl) (by kernel_rfl) (fun _ _ _ _ _ h => h) (by (first | exact r1.drew | assumption)) (fun hS0 => ?_)
  simp only [List.map_cons, List.map_nil, List.getElem?_toArray, List.getElem?_cons_succ, List.getElem?_cons_zero]
  (apply lexg_pure (by rfl); (focus (intro w; go_simp; (try with_reducible rfl); done)); simp only [Act.put, List.setIfInBounds_toArray, List.set_cons_zero, List.set_cons_succ])
  (apply lexg_take (by rfl); (focus (intro w hw; (try dsimp only at hw); go_simp; (try with_reducible rfl); done)); simp only [Act.put, List.setIfInBounds_toArray, List.set_cons_zero, List.set_cons_succ])
  (apply lexg_pure (by rfl); (focus (intro w; go_simp; (try with_reducible rfl); done)); simp only [Act.put, List.setIfInBounds_toArray, List.set_cons_zero, List.set_cons_succ])
  (apply lexg_take (by rfl); (focus (intro w hw; (try dsimp only at hw); go_simp; (try with_reducible rfl); done)); simp only [Act.put, List.setIfInBounds_toArray, List.set_cons_zero, List.set_cons_succ])
  (refine lexg_eff (by rfl) ?_; go_simp; (first
            | (go_at_call 54; with_reducible refine (HWM.out _ r1.drew).mono ?_; rintro e w4 ⟨A4, c4, rfl, hm4, hb4⟩; have HM4 := hide hm4; clear hm4)
            | (go_at_call 54; with_reducible refine (HWJ.out _ hb4).mono ?_; rintro e w5 ⟨A5, c5, rfl, hm5, hb5, hb5'⟩; have HM5 := hide (And.intro hm5 hb5'); clear hm5 hb5')); refine lexg_both (by (first | exact r1.drew | assumption)) (fun hS1 => ?_))
  (apply lexg_pure (by rfl); (focus (intro w; go_simp; (try with_reducible rfl); done)); simp only [Act.put, List.setIfInBounds_toArray, List.set_cons_zero, List.set_cons_succ])
  (refine lexg_eff (by rfl) ?_; go_simp; (first
            | (go_at_call 54; with_reducible refine (HWM.out _ r1.drew).mono ?_; rintro e w4 ⟨A4, c4, rfl, hm4, hb4⟩; have HM4 := hide hm4; clear hm4)
            | (go_at_call 54; with_reducible refine (HWJ.out _ hb4).mono ?_; rintro e w5 ⟨A5, c5, rfl, hm5, hb5, hb5'⟩; have HM5 := hide (And.intro hm5 hb5'); clear hm5 hb5')); refine lexg_both (by (first | exact r1.drew | assumption)) (fun hS1 => ?_))
  (refine lexg_effN (by rfl) ?_; go_simp)
  (apply lexg_pure (by rfl); (focus (intro w; go_simp; (try with_reducible rfl); done)); simp only [Act.put, List.setIfInBounds_toArray, List.set_cons_zero, List.set_cons_succ])
  (refine lexg_effN (by rfl) ?_; go_simp)
  refine lexg_nil (fun _ => wpAnyG_done (by kernel_rfl) ?_ _)
  rename_i hunm
  clear hunm
  have D6 := ((HBL.out.below hb5).set 3 (.slice A4 me.length c4)).set 4 (.slice A5 jo.length c5)
  have hc6 : Chg [w.heap.size + 1] w5 ((w5.setCell ⟨w.heap.size + 1, 3, none⟩ (.slice A4 me.length c4)).setCell ⟨w.heap.size + 1, 4, none⟩ (.slice A5 jo.length c5)) := ((Chg.refl _ _).setCell (Or.inl (by simp)) _).setCell (Or.inl (by simp)) _
  have R6 := (HBR.out.below hb5).chg hc6 (by simp)
  have hb15 := HB1.out.trans (hb5.mono HB1.out.size)
  have hb6 := Chg.onto hb15 hb15.size hc6 (fun x hx => by rw [List.mem_singleton.1 hx]; omega)
  have hs1 := HS1.out
  have M4 := (HM4.out.below HM5.out.2).chg hc6 (fun x hx => by rw [List.mem_singleton.1 hx]; omega)
  have M5 := HM5.out.1.chg hc6 (fun x hx => by rw [List.mem_singleton.1 hx]; omega)
  obtain ⟨w6, hw6⟩ : ∃ w6, (w5.setCell ⟨w.heap.size + 1, 3, none⟩ (.slice A4 me.length c4)).setCell ⟨w.heap.size + 1, 4, none⟩ (.slice A5 jo.length c5) = w6 := ⟨_, rfl⟩
  rw [hw6] at D6 R6 hb6 M4 M5
  rw [hw6]
  simp only [List.set_cons_zero, List.set_cons_succ] at D6
  have e0 := D6.cell 0
  have e1 := D6.cell 1
  have e2 := D6.cell 2
  have e3 := D6.cell 3
  have e4 := D6.cell 4
  have y0 := R6.cell 0
  have y1 := R6.cell 1
  have y2 := R6.cell 2
  have y3 := R6.cell 3
  have y4 := R6.cell 4
  have z1 := R6.frozen
  simp only [List.getElem?_cons_succ, List.getElem?_cons_zero] at e0 e1 e2 e3 e4 y0 y1 y2 y3 y4
  have HB6 := hide hb6
  have HM := hide (And.intro M4 M5)
  have HW6 := hide hw6
  clear D6 R6 hb6 M4 M5 hc6 hb15 hw6 hs1 u3 u4 z3 z4 hb4 hb5 r1 hS1
  go_wp2
  refine bodyPost_ret (v := .tuple #[.agg #[.int .i64 i, .int .i64 vol, .int .i64 ep, .slice A4 me.length c4, .slice A5 jo.length c5], .bool (fd Ck.id S.cs id).isSome]) (by simp [results, Tryz.results33, go_sem, *]) rfl ?_
  refine ⟨⟨⟨i, vol, ep, me, jo⟩, A4, c4, A5, c5⟩, rfl, HY.out, (?_ : MadeI w _ A4 c4 me), (?_ : MadeI w _ A5 c5 jo), HSA.out.ln, HSB.out.ln, by repeat (first | (with_reducible exact HB6.out) | (with_reducible refine Below.setCell ?_ (by simp <;> omega) _))⟩
  · refine MadeI.back (w0 := w1) (MadeI.chg (L := [w.heap.size]) HM.out.1 (by repeat (first | (with_reducible exact Chg.refl _ _) | (with_reducible refine Chg.setCell ?_ (Or.inl (by simp)) _))) (fun x hx => by rw [List.mem_singleton.1 hx, HS1.out]; omega)) (by rw [HS1.out]; omega)
  · refine MadeI.back (w0 := w1) (MadeI.chg (L := [w.heap.size]) HM.out.2 (by repeat (first | (with_reducible exact Chg.refl _ _) | (with_reducible refine Chg.setCell ?_ (Or.inl (by simp)) _))) (fun x hx => by rw [List.mem_singleton.1 hx, HS1.out]; omega)) (by rw [HS1.out]; omega)
section
variable {w w' : World} {b n : Nat} {S : Vst}
theorem VS.ok (h : VS w b S n) : VOk S n := h.1
theorem VS.volume (h : VS w b S n) {id : Int} (hid : i64ok id) : Calls Tryz.prog 25 #[.pointer (some ⟨b, 0, none⟩), .int .i64 id] w fun e w' => VolOut w w' e (fd Vo.id S.vs id) := by
  obtain ⟨h0, no, m1, m2, m3, V, C, h⟩ := h
  exact vvolume_calls w no b m1 m2 m3 S V C id h hid
theorem VS.chunk (h : VS w b S n) {id : Int} (hid : i64ok id) : Calls Tryz.prog 33 #[.pointer (some ⟨b, 0, none⟩), .int .i64 id] w fun e w' => ChOut w w' e (fd Ck.id S.cs id) := by
  obtain ⟨h0, no, m1, m2, m3, V, C, h⟩ := h
  exact vchunk_calls w no b m1 m2 m3 S V C id h hid
theorem VS.volumes (h : VS w b S n) (hn : n ≤ 1001) : Calls Tryz.prog 49 #[.pointer (some ⟨b, 0, none⟩)] w fun e w' => ∃ A c, e = .returned (.slice A S.vs.length c) ∧ OwnI w w' A c (S.vs.map Vo.id) ∧ Below w.heap.size w w' := by
  have hl := h.1.lens hn
  obtain ⟨h0, no, m1, m2, m3, V, C, h⟩ := h
  exact volumes_calls w no b m1 m2 m3 S V C h (by omega)
theorem VS.chunks (h : VS w b S n) (hn : n ≤ 1001) : Calls Tryz.prog 52 #[.pointer (some ⟨b, 0, none⟩)] w fun e w' => ∃ A c, e = .returned (.slice A S.cs.length c) ∧ OwnI w w' A c (S.cs.map Ck.id) ∧ Below w.heap.size w w' := by
  have hl := h.1.lens hn
  obtain ⟨h0, no, m1, m2, m3, V, C, h⟩ := h
  exact chunks_calls w no b m1 m2 m3 S V C h (by omega)
theorem VS.policies (h : VS w b S n) (hn : n ≤ 1001) (s : Int) : Calls Tryz.prog 69 #[.pointer (some ⟨b, 0, none⟩), .int .i64 s] w fun e w' => ∃ A c, e = .returned (.slice A (S.polOf s).length c) ∧ Reads w' w'.heap.size 4 A (S.polOf s).length (polCells (S.polOf s)) ∧
    (∀ g, A.map Addr.block = some g → w.heap.size ≤ g) ∧ Below w.heap.size w w' := by
  have hl := h.1.lens hn
  have hch : ∀ v ∈ S.vs, ∀ k ∈ v.ch, i64ok k := fun v hv => (h.1.vsa v hv).2.2.2.2.2.2.2
  obtain ⟨h0, no, m1, m2, m3, V, C, h⟩ := h
  refine (policies_calls w no b m1 m2 m3 S V C s h (by omega) hch).mono fun e w' ⟨A, c, he, ho, hg, hb⟩ => ⟨A, c, he, ?_, hg, hb⟩
  obtain ⟨A2, c2, e2, h1, h2, h3, h4, h5⟩ := own_view ho
  cases e2
  exact h5 _ (fun g hg => own_lt ho hg)
theorem VS.new (w : World) : Calls Tryz.prog 21 #[] w fun e w' => ∃ b, e = .returned (.pointer (some ⟨b, 0, none⟩)) ∧ VS w' b ⟨[], [], [], 1⟩ 0 ∧ Below w.heap.size w w' ∧ w.heap.size ≤ b := by
  refine (vnew_calls w).mono fun e w' ⟨no, b, m1, m2, m3, he, hv, hb, hno⟩ => ⟨b, he, ⟨VOk.start, no, m1, m2, m3, [], [], hv⟩, hb, hno b hv.ib⟩
end
end Go.Proofs.YtanfdnpnkdiiiaaGreat
