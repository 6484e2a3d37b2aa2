/- The walks through State.clone and State.Volume. -/
import Derived.Test.YtcgecalbgkkinaaGreatVm3
namespace Go.Proofs.YtcgecalbgkkinaaGreat
open Go.RowKit Go.Proofs Go.Maps
set_option linter.unusedVariables false
set_option linter.unusedSimpArgs false

set_option maxHeartbeats 2000000 in
theorem vclone_calls (w : World) (no : List Nat) (b m1 m2 m3 : Nat) (S : Vst) (V : List VoM) (C : List CkM) (h : VM w no b m1 m2 m3 S V C) :
    Calls Tryz.prog 24 #[.pointer (some ⟨b, 0, none⟩)] w fun e w' => ∃ nb n1 n2 n3, e = .returned (.pointer (some ⟨nb, 0, none⟩)) ∧ VM w' (nb :: n1 :: n2 :: n3 :: no) nb n1 n2 n3 S V C ∧ Below w.heap.size w w' ∧
      w.heap.size ≤ nb ∧ w.heap.size ≤ n1 ∧ w.heap.size ≤ n2 ∧ w.heap.size ≤ n3 := by
  have c0 := h.blk.rule 0 _ rfl
  have c1 := h.blk.rule 1 _ rfl
  have c2 := h.blk.rule 2 _ rfl
  have c3 := h.blk.rule 3 _ rfl
  have r0 := Below.refl w.heap.size w
  have k1 : ∀ w', Below w.heap.size w w' → Calls Tryz.prog 62 #[.map (some m1)] w' fun e w'' => e = .returned (.map (some w'.heap.size)) ∧ Tab Prod.fst svVal w'' w'.heap.size S.sv ∧ Below w'.heap.size w' w'' ∧ w'.heap.size < w''.heap.size := fun w' hb => Tab.clone YtcgecalbgkkinaaGreat.cloneInt (h.t1.below hb)
  have k2 : ∀ w', Below w.heap.size w w' → Calls Tryz.prog 63 #[.map (some m2)] w' fun e w'' => e = .returned (.map (some w'.heap.size)) ∧ Tab VoM.key VoM.val w'' w'.heap.size V ∧ Below w'.heap.size w' w'' ∧ w'.heap.size < w''.heap.size := fun w' hb => Tab.clone YtcgecalbgkkinaaGreat.cloneVolume (h.t2.below hb)
  have k3 : ∀ w', Below w.heap.size w w' → Calls Tryz.prog 64 #[.map (some m3)] w' fun e w'' => e = .returned (.map (some w'.heap.size)) ∧ Tab CkM.key CkM.val w'' w'.heap.size C ∧ Below w'.heap.size w' w'' ∧ w'.heap.size < w''.heap.size := fun w' hb => Tab.clone YtcgecalbgkkinaaGreat.cloneChunk (h.t3.below hb)
  have HK1 := hide k1
  have HK2 := hide k2
  have HK3 := hide k3
  have H := hide h
  clear k1 k2 k3 h
  go_enter Tryz.func24, Tryz.ntmps24
  go_wp2_with fail
  refine region_lexg (fun w' => Below w.heap.size w w') [] 0 [(2, 0), (2, 1), (2, 2), (0, 3), (2, 5), (2, 6), (2, 7), (0, 8), (2, 10), (2, 11), (2, 12), (0, 13), (2, 15), (2, 16), (2, 17), (0, 18), (1, 4), (1, 9), (1, 14), (2, 19), (1, 20), (2, 21)] #[true, true, true, true, true, true, true, true, true, true, true, true, true, true, true, true, true, true, true, true, true, true] (by kernel_rfl) (by kernel_rfl) (by decide) (by kernel_rfl) (by kernel_rfl) (fun _ _ _ _ _ h => h) (by (first | exact r0.drew | assumption | exact B3.alloc B3.size _)) (fun hS0 => ?_)
  simp only [List.map_cons, List.map_nil, List.getElem?_toArray, List.getElem?_cons_succ, List.getElem?_cons_zero]
  (apply lexg_pure (by rfl); (focus (intro w; go_simp; (try with_reducible rfl); done)); simp only [Act.put, List.setIfInBounds_toArray, List.set_cons_zero, List.set_cons_succ])
  (apply lexg_pure (by rfl); (focus (intro w; go_simp; (try with_reducible rfl); done)); simp only [Act.put, List.setIfInBounds_toArray, List.set_cons_zero, List.set_cons_succ])
  (apply lexg_pure (by rfl); (focus (intro w; go_simp; (try with_reducible rfl); done)); simp only [Act.put, List.setIfInBounds_toArray, List.set_cons_zero, List.set_cons_succ])
  (apply lexg_take (by rfl); (focus (intro w hw; (try dsimp only at hw); go_simp; (try with_reducible rfl); done)); simp only [Act.put, List.setIfInBounds_toArray, List.set_cons_zero, List.set_cons_succ])
  (apply lexg_pure (by rfl); (focus (intro w; go_simp; (try with_reducible rfl); done)); simp only [Act.put, List.setIfInBounds_toArray, List.set_cons_zero, List.set_cons_succ])
  (apply lexg_pure (by rfl); (focus (intro w; go_simp; (try with_reducible rfl); done)); simp only [Act.put, List.setIfInBounds_toArray, List.set_cons_zero, List.set_cons_succ])
  (apply lexg_pure (by rfl); (focus (intro w; go_simp; (try with_reducible rfl); done)); simp only [Act.put, List.setIfInBounds_toArray, List.set_cons_zero, List.set_cons_succ])
  (apply lexg_take (by rfl); (focus (intro w hw; (try dsimp only at hw); go_simp; (try with_reducible rfl); done)); simp only [Act.put, List.setIfInBounds_toArray, List.set_cons_zero, List.set_cons_succ])
  (apply lexg_pure (by rfl); (focus (intro w; go_simp; (try with_reducible rfl); done)); simp only [Act.put, List.setIfInBounds_toArray, List.set_cons_zero, List.set_cons_succ])
  (apply lexg_pure (by rfl); (focus (intro w; go_simp; (try with_reducible rfl); done)); simp only [Act.put, List.setIfInBounds_toArray, List.set_cons_zero, List.set_cons_succ])
  (apply lexg_pure (by rfl); (focus (intro w; go_simp; (try with_reducible rfl); done)); simp only [Act.put, List.setIfInBounds_toArray, List.set_cons_zero, List.set_cons_succ])
  (apply lexg_take (by rfl); (focus (intro w hw; (try dsimp only at hw); go_simp; (try with_reducible rfl); done)); simp only [Act.put, List.setIfInBounds_toArray, List.set_cons_zero, List.set_cons_succ])
  (apply lexg_pure (by rfl); (focus (intro w; go_simp; (try with_reducible rfl); done)); simp only [Act.put, List.setIfInBounds_toArray, List.set_cons_zero, List.set_cons_succ])
  (apply lexg_pure (by rfl); (focus (intro w; go_simp; (try with_reducible rfl); done)); simp only [Act.put, List.setIfInBounds_toArray, List.set_cons_zero, List.set_cons_succ])
  (apply lexg_pure (by rfl); (focus (intro w; go_simp; (try with_reducible rfl); done)); simp only [Act.put, List.setIfInBounds_toArray, List.set_cons_zero, List.set_cons_succ])
  (apply lexg_take (by rfl); (focus (intro w hw; (try dsimp only at hw); go_simp; (try with_reducible rfl); done)); simp only [Act.put, List.setIfInBounds_toArray, List.set_cons_zero, List.set_cons_succ])
  (refine lexg_eff (by rfl) ?_; go_simp; (first
            | (go_at_call 62; refine (HK1.out _ (by assumption)).mono ?_; rintro e w1 ⟨rfl, t1, hb1, hl1⟩; have B1 : Below w.heap.size w w1 := r0.drew.trans (hb1.mono r0.drew.size); have T1 := hide (And.intro t1 (And.intro hl1 hb1)); clear t1 hb1 hl1)
            | (go_at_call 63; refine (HK2.out _ (by assumption)).mono ?_; rintro e w2 ⟨rfl, t2, hb2, hl2⟩; have B2 : Below w.heap.size w w2 := B1.trans (hb2.mono B1.size); have T2 := hide (And.intro t2 (And.intro hl2 hb2)); clear t2 hb2 hl2)
            | (go_at_call 64; refine (HK3.out _ (by assumption)).mono ?_; rintro e w3 ⟨rfl, t3, hb3, hl3⟩; have B3 : Below w.heap.size w w3 := B2.trans (hb3.mono B2.size); have T3 := hide (And.intro t3 (And.intro hl3 hb3)); clear t3 hb3 hl3)); refine lexg_both (by (first | exact r0.drew | assumption | exact B3.alloc B3.size _)) (fun hS1 => ?_))
  (refine lexg_eff (by rfl) ?_; go_simp; (first
            | (go_at_call 62; refine (HK1.out _ (by assumption)).mono ?_; rintro e w1 ⟨rfl, t1, hb1, hl1⟩; have B1 : Below w.heap.size w w1 := r0.drew.trans (hb1.mono r0.drew.size); have T1 := hide (And.intro t1 (And.intro hl1 hb1)); clear t1 hb1 hl1)
            | (go_at_call 63; refine (HK2.out _ (by assumption)).mono ?_; rintro e w2 ⟨rfl, t2, hb2, hl2⟩; have B2 : Below w.heap.size w w2 := B1.trans (hb2.mono B1.size); have T2 := hide (And.intro t2 (And.intro hl2 hb2)); clear t2 hb2 hl2)
            | (go_at_call 64; refine (HK3.out _ (by assumption)).mono ?_; rintro e w3 ⟨rfl, t3, hb3, hl3⟩; have B3 : Below w.heap.size w w3 := B2.trans (hb3.mono B2.size); have T3 := hide (And.intro t3 (And.intro hl3 hb3)); clear t3 hb3 hl3)); refine lexg_both (by (first | exact r0.drew | assumption | exact B3.alloc B3.size _)) (fun hS1 => ?_))
  (refine lexg_eff (by rfl) ?_; go_simp; (first
            | (go_at_call 62; refine (HK1.out _ (by assumption)).mono ?_; rintro e w1 ⟨rfl, t1, hb1, hl1⟩; have B1 : Below w.heap.size w w1 := r0.drew.trans (hb1.mono r0.drew.size); have T1 := hide (And.intro t1 (And.intro hl1 hb1)); clear t1 hb1 hl1)
            | (go_at_call 63; refine (HK2.out _ (by assumption)).mono ?_; rintro e w2 ⟨rfl, t2, hb2, hl2⟩; have B2 : Below w.heap.size w w2 := B1.trans (hb2.mono B1.size); have T2 := hide (And.intro t2 (And.intro hl2 hb2)); clear t2 hb2 hl2)
            | (go_at_call 64; refine (HK3.out _ (by assumption)).mono ?_; rintro e w3 ⟨rfl, t3, hb3, hl3⟩; have B3 : Below w.heap.size w w3 := B2.trans (hb3.mono B2.size); have T3 := hide (And.intro t3 (And.intro hl3 hb3)); clear t3 hb3 hl3)); refine lexg_both (by (first | exact r0.drew | assumption | exact B3.alloc B3.size _)) (fun hS1 => ?_))
  (apply lexg_pure (by rfl); (focus (intro w; go_simp; (try with_reducible rfl); done)); simp only [Act.put, List.setIfInBounds_toArray, List.set_cons_zero, List.set_cons_succ])
  (refine lexg_eff (by rfl) ?_; go_simp; refine lexg_both (by (first | exact r0.drew | assumption | exact B3.alloc B3.size _)) (fun hS1 => ?_))
  (apply lexg_pure (by rfl); (focus (intro w; go_simp; (try with_reducible rfl); done)); simp only [Act.put, List.setIfInBounds_toArray, List.set_cons_zero, List.set_cons_succ])
  refine lexg_nil (fun _ => wpAnyG_done (by kernel_rfl) ?_ _)
  go_wp2
  go_ret
  have B4 := B3.alloc B3.size (.cells #[.map (some w.heap.size), .map (some w1.heap.size), .map (some w2.heap.size), .int .i64 S.nx] 64)
  have q1 : w.heap.size < w1.heap.size := T1.out.2.1
  have q2 := T2.out.2.1
  have q3 := T3.out.2.1
  have H4 := H.out.below B4
  have qa : ∀ (w : World) (o : Obj), Below w.heap.size w (w.alloc o) := fun w o => (Below.refl _ _).alloc (Nat.le_refl _) _
  have hpl : ∀ x ∈ w3.heap.size :: w.heap.size :: w1.heap.size :: w2.heap.size :: no, x ∈ no ∨ w.heap.size ≤ x := by
    intro x hx
    simp at hx
    rcases hx with rfl | rfl | rfl | rfl | hx
    · exact Or.inr (by omega)
    · exact Or.inr (by omega)
    · exact Or.inr (by omega)
    · exact Or.inr (by omega)
    · exact Or.inl hx
  refine ⟨w3.heap.size, w.heap.size, w1.heap.size, w2.heap.size, rfl, ⟨Blk.new rfl, ?_, ?_, ?_, H4.eV, H4.eC, ?_, ?_, by simp, by simp, by simp, by simp, ?_, by omega⟩, B4, by omega, by omega, by omega, by omega⟩
  · exact ((T1.out.1.below T2.out.2.2).below T3.out.2.2).below (qa _ _)
  · exact (T2.out.1.below T3.out.2.2).below (qa _ _)
  · exact T3.out.1.below (qa _ _)
  · exact fun x hx => ((H.out.sV x hx).plus hpl).below B4
  · exact fun x hx => ⟨((H.out.sC x hx).1.plus hpl).below B4, ((H.out.sC x hx).2.plus hpl).below B4⟩
  · intro x hx
    simp at hx ⊢
    rcases hx with rfl | rfl | rfl | rfl | hx
    · omega
    · omega
    · omega
    · omega
    · have := H.out.lt x hx
      omega
section
variable {w : World} {no : List Nat} {b m1 m2 m3 : Nat} {S : Vst} {V : List VoM} {C : List CkM}
theorem VM.lookV (h : VM w no b m1 m2 m3 S V C) {id : Int} (hid : i64ok id) : ∃ y : VoM,
    (∀ w', Below w.heap.size w w' → (Instr.lookup 61 (.map (some m2)) (.int .i64 id) true).run Tryz.prog w' = .ok (.tuple #[y.val, .bool (fd Vo.id S.vs id).isSome]) w') ∧
    (∀ w', Below w.heap.size w w' → (Instr.lookup 61 (.map (some m2)) (.int .i64 id) false).run Tryz.prog w' = .ok y.val w') ∧
    ((fd VoM.key V id = some y ∧ fd Vo.id S.vs id = some y.v) ∨ (fd VoM.key V id = none ∧ fd Vo.id S.vs id = none ∧ y = zVo)) ∧ Sl w no y.A y.c y.v.ch := by
  have hz := Tryz.zeroValue43
  have e := h.fdV id
  cases hf : fd VoM.key V id with
  | some y =>
    rw [hf] at e
    refine ⟨y, fun w' hb => ?_, fun w' hb => ?_, Or.inl ⟨rfl, e⟩, h.sV y (fd_some hf).1⟩
    · have := (h.t2.below hb).look_ok hid Tryz.underlying61 (hz w')
      rw [hf] at this
      rw [e]
      exact this
    · have := (h.t2.below hb).look hid Tryz.underlying61 (hz w')
      rw [hf] at this
      exact this
  | none =>
    rw [hf] at e
    refine ⟨zVo, fun w' hb => ?_, fun w' hb => ?_, Or.inr ⟨rfl, e, rfl⟩, Sl.nil _ _ _⟩
    · have := (h.t2.below hb).look_ok hid Tryz.underlying61 (hz w')
      rw [hf] at this
      rw [e]
      exact this
    · have := (h.t2.below hb).look hid Tryz.underlying61 (hz w')
      rw [hf] at this
      exact this
theorem VM.lookC (h : VM w no b m1 m2 m3 S V C) {id : Int} (hid : i64ok id) : ∃ y : CkM,
    (∀ w', Below w.heap.size w w' → (Instr.lookup 62 (.map (some m3)) (.int .i64 id) true).run Tryz.prog w' = .ok (.tuple #[y.val, .bool (fd Ck.id S.cs id).isSome]) w') ∧
    (∀ w', Below w.heap.size w w' → (Instr.lookup 62 (.map (some m3)) (.int .i64 id) false).run Tryz.prog w' = .ok y.val w') ∧
    ((fd CkM.key C id = some y ∧ fd Ck.id S.cs id = some y.k) ∨ (fd CkM.key C id = none ∧ fd Ck.id S.cs id = none ∧ y = zCk)) ∧ Sl w no y.A y.c y.k.me ∧ Sl w no y.B y.d y.k.jo := by
  have hz := Tryz.zeroValue47
  have e := h.fdC id
  cases hf : fd CkM.key C id with
  | some y =>
    rw [hf] at e
    refine ⟨y, fun w' hb => ?_, fun w' hb => ?_, Or.inl ⟨rfl, e⟩, h.sC y (fd_some hf).1⟩
    · have := (h.t3.below hb).look_ok hid Tryz.underlying62 (hz w')
      rw [hf] at this
      rw [e]
      exact this
    · have := (h.t3.below hb).look hid Tryz.underlying62 (hz w')
      rw [hf] at this
      exact this
  | none =>
    rw [hf] at e
    refine ⟨zCk, fun w' hb => ?_, fun w' hb => ?_, Or.inr ⟨rfl, e, rfl⟩, Sl.nil _ _ _, Sl.nil _ _ _⟩
    · have := (h.t3.below hb).look_ok hid Tryz.underlying62 (hz w')
      rw [hf] at this
      rw [e]
      exact this
    · have := (h.t3.below hb).look hid Tryz.underlying62 (hz w')
      rw [hf] at this
      exact this
end
/-- what State.Volume hands back -/
def VolOut (w w' : World) (e : Ending) (f : Option Vo) : Prop :=
  ∃ y : VoM, e = .returned (.tuple #[y.val, .bool f.isSome]) ∧ (f = some y.v ∨ (f = none ∧ y.v = zVo.v)) ∧ OwnI w w' y.A y.c y.v.ch ∧ y.v.ch.length ≤ 1024 ∧ Below w.heap.size w w'
set_option maxHeartbeats 2000000 in
theorem vvolume_calls (w : World) (no : List Nat) (b m1 m2 m3 : Nat) (S : Vst) (V : List VoM) (C : List CkM) (id : Int) (h : VM w no b m1 m2 m3 S V C) (hid : i64ok id) :
    Calls Tryz.prog 13 #[.pointer (some ⟨b, 0, none⟩), .int .i64 id] w fun e w' => VolOut w w' e (fd Vo.id S.vs id) := by
  obtain ⟨y, l1, _, hy, hsl⟩ := h.lookV hid
  have hy2 : fd Vo.id S.vs id = some y.v ∨ (fd Vo.id S.vs id = none ∧ y.v = zVo.v) := hy.imp And.right (fun h => ⟨h.2.1, by rw [h.2.2]⟩)
  have HY := hide hy2
  have HS := hide hsl
  obtain ⟨⟨i, bl, ⟨pr, pw, pl, pb⟩, ver, ch⟩, A, c⟩ := y
  unfold VoM.val VoM.cells at l1
  simp only [] at l1
  obtain ⟨w0, hw0⟩ : ∃ w0, w.alloc (.cells #[.int .i64 0, .int .i64 0, .int .i64 0, .int .i64 0, .int .i64 0, .int .i64 0, .int .i64 0, .slice none 0 0] 43) = w0 := ⟨_, rfl⟩
  have hb0 : Below w.heap.size w w0 := hw0 ▸ (Below.refl w.heap.size w).alloc (Nat.le_refl _) _
  have c1 := h.blk.rule 1 _ rfl w0 hb0
  have l2 := l1 w0 hb0
  have hs0 : w0.heap.size = w.heap.size + 1 := by rw [← hw0]; simp
  have hq0 : w0.heap[w.heap.size]? = some (.cells #[.int .i64 0, .int .i64 0, .int .i64 0, .int .i64 0, .int .i64 0, .int .i64 0, .int .i64 0, .slice none 0 0] 43 (0, 0)) := by rw [← hw0]; exact heap_alloc_new w _
  clear hy hy2 hsl h l1
  go_enter Tryz.func13, Tryz.ntmps13
  go_wp2_with fail
  have hb1 := hb0.alloc hb0.size (.cells #[.int .i64 i, .int .i64 bl, .int .i64 pr, .int .i64 pw, .int .i64 pl, .int .i64 pb, .int .i64 ver, .slice A ch.length c] 43)
  have hbl := Blk.new (w := w0) (b := w.heap.size + 1) (cs := [.int .i64 i, .int .i64 bl, .int .i64 pr, .int .i64 pw, .int .i64 pl, .int .i64 pb, .int .i64 ver, .slice A ch.length c]) (t := 43) hs0
  have hbr : Blk (w0.alloc (.cells #[.int .i64 i, .int .i64 bl, .int .i64 pr, .int .i64 pw, .int .i64 pl, .int .i64 pb, .int .i64 ver, .slice A ch.length c] 43)) w.heap.size 43 [.int .i64 0, .int .i64 0, .int .i64 0, .int .i64 0, .int .i64 0, .int .i64 0, .int .i64 0, .slice none 0 0] := Blk.alloc hq0 _
  refine (cloneI_calls A _ c ch no _ rfl (HS.out.below hb1)).mono ?_
  rintro e w2 ⟨A2, c2, rfl, ho, hb2⟩
  have hbl2 := hbl.below hb2
  have hbr2 := hbr.below hb2
  have e0 := hbl2.cell 0
  have e1 := hbl2.cell 1
  have e2 := hbl2.cell 2
  have e3 := hbl2.cell 3
  have e4 := hbl2.cell 4
  have e5 := hbl2.cell 5
  have e6 := hbl2.cell 6
  have e7 := hbl2.cell 7
  have y0 := hbr2.cell 0
  have y1 := hbr2.cell 1
  have y2 := hbr2.cell 2
  have y3 := hbr2.cell 3
  have y4 := hbr2.cell 4
  have y5 := hbr2.cell 5
  have y6 := hbr2.cell 6
  have y7 := hbr2.cell 7
  have z0 := hbl2.frozen
  have z1 := hbr2.frozen
  simp only [List.getElem?_cons_succ, List.getElem?_cons_zero] at e0 e1 e2 e3 e4 e5 e6 e7 y0 y1 y2 y3 y4 y5 y6 y7
  have HO := hide (show OwnI w w2 A2 c2 ch ∧ ∀ g, A2.map Addr.block = some g → w.heap.size + 2 ≤ g from ⟨ho.back hb1, fun g hg => by have := ho.2 g hg; simp [hs0] at this; omega⟩)
  have hB2 := hb1.trans (hb2.mono hb1.size)
  have HB2 := hide hB2
  clear ho hb1 hbl hbr hb2 hbl2 hbr2 hw0 hb0 c1 l2 hs0 hq0 hB2
  go_wp2
  refine bodyPost_ret (v := .tuple #[.agg #[.int .i64 i, .int .i64 bl, .int .i64 pr, .int .i64 pw, .int .i64 pl, .int .i64 pb, .int .i64 ver, .slice A2 ch.length c2], .bool (fd Vo.id S.vs id).isSome]) (by simp [results, Tryz.results13, go_sem, *]) rfl ?_
  refine ⟨⟨⟨i, bl, ⟨pr, pw, pl, pb⟩, ver, ch⟩, A2, c2⟩, rfl, HY.out, ⟨own_chg (L := [w.heap.size, w.heap.size + 1]) HO.out.1.1 (by repeat (first | (with_reducible refine Chg.setCell ?_ (by simp) _) | (with_reducible exact Chg.refl _ _))) (fun g hg => ?_), HO.out.1.2⟩, HS.out.ln, by repeat (first | (with_reducible exact HB2.out) | (with_reducible refine Below.setCell ?_ (by simp <;> omega) _))⟩
  rw [ownBlock_slice] at hg
  have := HO.out.2 g hg
  simp
  omega
end Go.Proofs.YtcgecalbgkkinaaGreat
