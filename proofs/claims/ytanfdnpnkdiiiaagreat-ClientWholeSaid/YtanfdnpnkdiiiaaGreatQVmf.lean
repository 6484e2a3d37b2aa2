/- One text of: Vmf. -/
import Derived.Test.YtanfdnpnkdiiiaaGreatQVme
namespace Go.Proofs.YtanfdnpnkdiiiaaGreat
open Go.RowKit Go.Proofs Go.Maps
set_option linter.unusedVariables false
set_option linter.unusedSimpArgs false

theorem MadeI.chg {w w' w'' : World} {A : Option Addr} {c : Nat} {l : List Int} {L : List Nat} (h : MadeI w w' A c l) (hc : Chg L w' w'') (hL : ∀ x ∈ L, x < w.heap.size) : MadeI w w'' A c l :=
  ⟨h.le, ⟨h.rd.1, fun hn => by
    obtain ⟨b, o, e, hb, hcell⟩ := h.rd.2 hn
    have hnb : b ∉ L := fun hx => by
      have h1 := hL b hx
      have h2 := (h.ap _ e).2.1
      simp only [] at h2
      omega
    exact ⟨b, o, e, Nat.lt_of_lt_of_le hb hc.size, fun j u hu => (hc.cell (p := ⟨b, o + j, Option.none⟩) hb hnb).trans (hcell j u hu)⟩⟩,
    fun a ha => ⟨(h.ap a ha).1, (h.ap a ha).2.1, Nat.lt_of_lt_of_le (h.ap a ha).2.2 hc.size⟩⟩
theorem at_err {S : Vst} {a b n : Int} (h : S.at_ a b = .error n) : n = 7 ∨ n = 10 := by
  unfold Vst.at_ at h
  split at h
  · injection h with h; exact Or.inl h.symm
  · split at h
    · cases h
    · injection h with h; exact Or.inr h.symm
theorem at_fd {S : Vst} {a b : Int} {k : Ck} (h : S.at_ a b = .ok k) : fd Ck.id S.cs a = some k := by
  unfold Vst.at_ at h
  split at h
  · cases h
  · split at h
    · injection h with h; subst h; assumption
    · cases h
set_option maxHeartbeats 4000000 in
set_option maxRecDepth 100000 in
theorem vdrop_calls (w : World) (no : List Nat) (b m1 m2 m3 : Nat) (S : Vst) (V : List VoM) (C : List CkM) (q : Cmd) (h : VM w no b m1 m2 m3 S V C) (hq : q.ok) (hl : S.cs.length < 1000000) (hc : ∀ c ∈ S.cs, 0 ≤ c.ep ∧ c.ep ≤ 1000000) :
    Calls Tryz.prog 62 #[.pointer (some ⟨b, 0, none⟩), q.val] w fun e w' => Stp w w' no b m1 m2 m3 (S.drop q) e := by
  have HN := hide (And.intro hl hc)
  clear hl hc
  obtain ⟨k0, a0, b0, c0, ⟨qr, qw, ql, qb⟩⟩ := q
  obtain ⟨w0, hw0⟩ : ∃ w0, w.alloc (.cells #[.int .i64 k0, .int .i64 a0, .int .i64 b0, .int .i64 c0, .int .i64 qr, .int .i64 qw, .int .i64 ql, .int .i64 qb] 68) = w0 := ⟨_, rfl⟩
  have hb0 : Below w.heap.size w w0 := hw0 ▸ (Below.refl w.heap.size w).alloc (Nat.le_refl _) _
  have d1 : Blk w0 w.heap.size 68 [.int .i64 k0, .int .i64 a0, .int .i64 b0, .int .i64 c0, .int .i64 qr, .int .i64 qw, .int .i64 ql, .int .i64 qb] := hw0 ▸ Blk.new rfl
  have hs0 : Hid (w0.heap.size = w.heap.size + 1) := hide (by rw [← hw0]; simp)
  have hat := fun w' (hb : Below w0.heap.size w0 w') => vat_calls w' no b m1 m2 m3 S V C ⟨k0, a0, b0, c0, ⟨qr, qw, ql, qb⟩⟩ (h.below (hb0.trans (hb.mono hb0.size))) hq
  simp only [Cmd.val, Cmd.cells] at hat
  have HC0 := hide hq.c
  have HB0 := hide hb0
  have HD := hide d1
  have H := hide h
  have hqc := hide hq.c
  have hqa := hide hq.a
  clear hq h hb0 d1
  unfold Cmd.val Cmd.cells
  simp only []
  cases hr : S.at_ a0 b0 with
  | error n =>
    have HE : Hid (S.drop ⟨k0, a0, b0, c0, ⟨qr, qw, ql, qb⟩⟩ = (S, n)) := hide (by
      unfold Vst.drop
      simp only [hr])
    have hn : (n != 0) = true := by rcases at_err hr with rfl | rfl <;> rfl
    have HAT := hide (hat w0 (Below.refl _ _))
    simp only [hr, errOf] at HAT
    have y0 := HD.out.cell 0
    have y1 := HD.out.cell 1
    have y2 := HD.out.cell 2
    have y3 := HD.out.cell 3
    have y4 := HD.out.cell 4
    have y5 := HD.out.cell 5
    have y6 := HD.out.cell 6
    have y7 := HD.out.cell 7
    simp only [List.getElem?_cons_succ, List.getElem?_cons_zero] at y0 y1 y2 y3 y4 y5 y6 y7
    clear hr hat
    go_enter Tryz.func62, Tryz.ntmps62
    go_wp2_with fail
    refine HAT.out.mono ?_
    rintro e w1 ⟨y, rfl, hok, hsA, hsB, hb1⟩
    obtain ⟨⟨id, vol, ep, me, jo⟩, A, c, B, d⟩ := y
    simp only [CkM.val, CkM.cells]
    simp only [] at hsA hsB hok
    have HBW := hide (HB0.out.trans (hb1.mono HB0.out.size))
    have E := hide (HD.out.below hb1)
    have HSA := hide (hsA.below hb1)
    have HSB := hide (hsB.below hb1)
    have HOK := hide hok
    have hlt1 : w.heap.size < w1.heap.size := E.out.lt
    have e3 : w1.cell? ⟨w.heap.size, 3, none⟩ = some (.int .i64 c0) := E.out.cell 3
    clear hsA hsB hb1 y0 y1 y2 y3 y4 y5 y6 y7 hok
    go_wp2
    go_ret
    rw [HE.out]
    exact H.out.stay (HBW.out.alloc HBW.out.size _) rfl
  | ok k =>
    have HAT := hide (hat w0 (Below.refl _ _))
    simp only [hr, errOf] at HAT
    have y0 := HD.out.cell 0
    have y1 := HD.out.cell 1
    have y2 := HD.out.cell 2
    have y3 := HD.out.cell 3
    have y4 := HD.out.cell 4
    have y5 := HD.out.cell 5
    have y6 := HD.out.cell 6
    have y7 := HD.out.cell 7
    simp only [List.getElem?_cons_succ, List.getElem?_cons_zero] at y0 y1 y2 y3 y4 y5 y6 y7
    have HR := hide hr
    clear hr hat
    go_enter Tryz.func62, Tryz.ntmps62
    go_wp2_with fail
    refine HAT.out.mono ?_
    rintro e w1 ⟨y, rfl, hok, hsA, hsB, hb1⟩
    obtain ⟨⟨id, vol, ep, me, jo⟩, A, c, B, d⟩ := y
    simp only [CkM.val, CkM.cells]
    simp only [] at hsA hsB hok
    have HBW := hide (HB0.out.trans (hb1.mono HB0.out.size))
    have E := hide (HD.out.below hb1)
    have HSA := hide (hsA.below hb1)
    have HSB := hide (hsB.below hb1)
    have HOK := hide hok
    have hlt1 : w.heap.size < w1.heap.size := E.out.lt
    have e3 : w1.cell? ⟨w.heap.size, 3, none⟩ = some (.int .i64 c0) := E.out.cell 3
    clear hsA hsB hb1 y0 y1 y2 y3 y4 y5 y6 y7 hok
    have hky := (HOK.out k rfl).1
    subst hky
    have d2 : Blk (w1.alloc (.cells #[.int .i64 id, .int .i64 vol, .int .i64 ep, .slice A me.length c, .slice B jo.length d] 89)) w1.heap.size 89 [.int .i64 id, .int .i64 vol, .int .i64 ep, .slice A me.length c, .slice B jo.length d] := Blk.new rfl
    have q2 := (Below.refl w1.heap.size w1).alloc (Nat.le_refl _) (.cells #[.int .i64 id, .int .i64 vol, .int .i64 ep, .slice A me.length c, .slice B jo.length d] 89)
    have d1' := E.out.below q2
    have hb2 := HBW.out.trans (q2.mono HBW.out.size)
    have sA2 := HSA.out.below q2
    have sB2 := HSB.out.below q2
    obtain ⟨w2, hw2⟩ : ∃ w2, w1.alloc (.cells #[.int .i64 id, .int .i64 vol, .int .i64 ep, .slice A me.length c, .slice B jo.length d] 89) = w2 := ⟨_, rfl⟩
    rw [hw2] at d2 d1' hb2 sA2 sB2
    have HSA2 := hide sA2
    have HSB2 := hide sB2
    have HB2 := hide hb2
    have HD1 := hide d1'
    have HD2 := hide d2
    have HW2 := hide hw2
    have HWB := hide (show w.heap.size ≤ w1.heap.size from HBW.out.size)
    clear d2 d1' hb2 sA2 sB2 hw2 q2
    go_wp2_with fail
    rw [show w1.alloc (.cells #[.int .i64 id, .int .i64 vol, .int .i64 ep, .slice A me.length c, .slice B jo.length d] 89) = w2 from HW2.out]
    refine (vhas_calls ⟨⟨id, vol, ep, me, jo⟩, A, c, B, d⟩ c0 no w2 HSA2.out HSB2.out).mono ?_
    rintro e w3 ⟨rfl, hb3⟩
    have HB3 := hide (HB2.out.trans (hb3.mono HB2.out.size))
    have HD13 := hide (HD1.out.below hb3)
    have HD23 := hide (HD2.out.below hb3)
    have HSA3 := hide (HSA2.out.below hb3)
    have HSB3 := hide (HSB2.out.below hb3)
    clear hb3 hlt1 e3
    cases hhas : (⟨id, vol, ep, me, jo⟩ : Ck).has c0 with
    | false =>
      have HE : Hid (S.drop ⟨k0, a0, b0, c0, ⟨qr, qw, ql, qb⟩⟩ = (S, 1)) := hide (by
        unfold Vst.drop
        simp only [HR.out, hhas]
        rfl)
      have HHAS := hide hhas
      clear hhas
      go_wp2
      go_ret
      rw [HE.out]
      exact H.out.stay HB3.out rfl
    | true =>
      have HHAS := hide hhas
      clear hhas
      have r3 := Below.refl w3.heap.size w3
      by_cases hone : me = [c0]
      · have HE : Hid (S.drop ⟨k0, a0, b0, c0, ⟨qr, qw, ql, qb⟩⟩ = (S, 9)) := hide (by
          unfold Vst.drop
          simp only [HR.out, HHAS.out]
          simp [hone])
        obtain ⟨bA, oA, eA, hbA, hcell⟩ := HSA3.out.rd.2 (by simp [hone])
        have g0 : ∀ w', Below w3.heap.size w3 w' → w'.cell? ⟨bA, oA, none⟩ = some (.int .i64 c0) := fun w' hb => (hb.cell (p := ⟨bA, oA, none⟩) hbA).trans (hcell 0 _ (by simp [hone]))
        have x3 : ∀ w', Below w3.heap.size w3 w' → w'.cell? ⟨w.heap.size, 3, none⟩ = some (.int .i64 c0) := HD13.out.rule 3 _ rfl
        have u0 : ∀ w', Below w3.heap.size w3 w' → w'.cell? ⟨w1.heap.size, 0, none⟩ = some (.int .i64 id) := HD23.out.rule 0 _ rfl
        have u1 : ∀ w', Below w3.heap.size w3 w' → w'.cell? ⟨w1.heap.size, 1, none⟩ = some (.int .i64 vol) := HD23.out.rule 1 _ rfl
        have u2 : ∀ w', Below w3.heap.size w3 w' → w'.cell? ⟨w1.heap.size, 2, none⟩ = some (.int .i64 ep) := HD23.out.rule 2 _ rfl
        have u3 := HD23.out.rule 3 _ rfl
        have u4 := HD23.out.rule 4 _ rfl
        subst eA
        have hl1 : ((me.length : Int) == 1) = true := by simp [hone]
        have hln : 0 < me.length := by simp [hone]
        have i0 : (0 : Int) < me.length := by omega
        have HB3D := hide (HB3.out.trans (r3.drew.mono HB3.out.size))
        clear hcell hbA hone
        go_wp2_with fail
        refine region_lexg (fun w' => Below w3.heap.size w3 w') [] 0 [(2, 0), (0, 1), (2, 2), (2, 3), (2, 4), (2, 5), (0, 6), (2, 7), (0, 8), (2, 9), (0, 10), (2, 11), (2, 12), (2, 13)] #[true, true, true, true, true, true, true, true, true, true, true, true, true, true] (by kernel_rfl) (by kernel_rfl) (by decide) (by kernel_rfl) (by kernel_rfl) (fun _ _ _ _ _ h => h) (by (exact r3.drew)) (fun hS0 => ?_)
        simp only [List.map_cons, List.map_nil, List.getElem?_toArray, List.getElem?_cons_succ, List.getElem?_cons_zero]
        (apply lexg_pure (by rfl); (focus (intro w; go_simp; (try with_reducible rfl); done)); simp only [Act.put, List.setIfInBounds_toArray, List.set_cons_zero, List.set_cons_succ])
        (apply lexg_take (by rfl); (focus (intro w hw; (try dsimp only at hw); go_simp; (try with_reducible rfl); done)); simp only [Act.put, List.setIfInBounds_toArray, List.set_cons_zero, List.set_cons_succ])
        (apply lexg_pure (by rfl); (focus (intro w; go_simp; (try with_reducible rfl); done)); simp only [Act.put, List.setIfInBounds_toArray, List.set_cons_zero, List.set_cons_succ])
        (apply lexg_pure (by rfl); (focus (intro w; go_simp; (try with_reducible rfl); done)); simp only [Act.put, List.setIfInBounds_toArray, List.set_cons_zero, List.set_cons_succ])
        (apply lexg_pure (by rfl); (focus (intro w; go_simp; (try with_reducible rfl); done)); simp only [Act.put, List.setIfInBounds_toArray, List.set_cons_zero, List.set_cons_succ])
        first | (apply lexg_pure (by rfl); (focus (intro w; go_simp; (try with_reducible rfl); done)); simp only [Act.put, List.setIfInBounds_toArray, List.set_cons_zero, List.set_cons_succ]) | (refine lexg_skipP (by rfl) ?_; simp only [Act.put, List.setIfInBounds_toArray, List.set_cons_zero, List.set_cons_succ])
        first | (apply lexg_take (by rfl); (focus (intro w hw; (try dsimp only at hw); go_simp; (try with_reducible rfl); done)); simp only [Act.put, List.setIfInBounds_toArray, List.set_cons_zero, List.set_cons_succ]) | (refine lexg_skip (by rfl) ?_; simp only [Act.put, List.setIfInBounds_toArray, List.set_cons_zero, List.set_cons_succ])
        first | (apply lexg_pure (by rfl); (focus (intro w; go_simp; (try with_reducible rfl); done)); simp only [Act.put, List.setIfInBounds_toArray, List.set_cons_zero, List.set_cons_succ]) | (refine lexg_skipP (by rfl) ?_; simp only [Act.put, List.setIfInBounds_toArray, List.set_cons_zero, List.set_cons_succ])
        first | (apply lexg_take (by rfl); (focus (intro w hw; (try dsimp only at hw); go_simp; (try with_reducible rfl); done)); simp only [Act.put, List.setIfInBounds_toArray, List.set_cons_zero, List.set_cons_succ]) | (refine lexg_skip (by rfl) ?_; simp only [Act.put, List.setIfInBounds_toArray, List.set_cons_zero, List.set_cons_succ])
        first | (apply lexg_pure (by rfl); (focus (intro w; go_simp; (try with_reducible rfl); done)); simp only [Act.put, List.setIfInBounds_toArray, List.set_cons_zero, List.set_cons_succ]) | (refine lexg_skipP (by rfl) ?_; simp only [Act.put, List.setIfInBounds_toArray, List.set_cons_zero, List.set_cons_succ])
        first | (apply lexg_take (by rfl); (focus (intro w hw; (try dsimp only at hw); go_simp; (try with_reducible rfl); done)); simp only [Act.put, List.setIfInBounds_toArray, List.set_cons_zero, List.set_cons_succ]) | (refine lexg_skip (by rfl) ?_; simp only [Act.put, List.setIfInBounds_toArray, List.set_cons_zero, List.set_cons_succ])
        first | (apply lexg_pure (by rfl); (focus (intro w; go_simp; (try with_reducible rfl); done)); simp only [Act.put, List.setIfInBounds_toArray, List.set_cons_zero, List.set_cons_succ]) | (refine lexg_skipP (by rfl) ?_; simp only [Act.put, List.setIfInBounds_toArray, List.set_cons_zero, List.set_cons_succ])
        (apply lexg_pure (by rfl); (focus (intro w; go_simp; (try with_reducible rfl); done)); simp only [Act.put, List.setIfInBounds_toArray, List.set_cons_zero, List.set_cons_succ])
        (apply lexg_pure (by rfl); (focus (intro w; go_simp; (try with_reducible rfl); done)); simp only [Act.put, List.setIfInBounds_toArray, List.set_cons_zero, List.set_cons_succ])
        refine lexg_nil (fun _ => wpAnyG_done (by kernel_rfl) ?_ _)
        go_wp2
        go_ret
        rw [HE.out]
        exact H.out.stay HB3D.out rfl
      · have HE : Hid (S.drop ⟨k0, a0, b0, c0, ⟨qr, qw, ql, qb⟩⟩ = (S.turn ⟨id, vol, ep, wout me c0, wout jo c0⟩, 0)) := hide (by
          unfold Vst.drop
          simp only [HR.out, HHAS.out]
          simp [hone])
        by_cases hl1 : me.length = 1
        · obtain ⟨z, hme⟩ : ∃ z, me = [z] := List.length_eq_one_iff.1 hl1
          have hz : (z == c0) = false := by
            have : z ≠ c0 := fun e => hone (by rw [hme, e])
            simpa using this
          obtain ⟨bA, oA, eA, hbA, hcell⟩ := HSA3.out.rd.2 (by omega)
          have g0 : ∀ w', Below w3.heap.size w3 w' → w'.cell? ⟨bA, oA, none⟩ = some (.int .i64 z) := fun w' hb => (hb.cell (p := ⟨bA, oA, none⟩) hbA).trans (hcell 0 _ (by simp [hme]))
          have x3 : ∀ w', Below w3.heap.size w3 w' → w'.cell? ⟨w.heap.size, 3, none⟩ = some (.int .i64 c0) := HD13.out.rule 3 _ rfl
          have u0 : ∀ w', Below w3.heap.size w3 w' → w'.cell? ⟨w1.heap.size, 0, none⟩ = some (.int .i64 id) := HD23.out.rule 0 _ rfl
          have u1 : ∀ w', Below w3.heap.size w3 w' → w'.cell? ⟨w1.heap.size, 1, none⟩ = some (.int .i64 vol) := HD23.out.rule 1 _ rfl
          have u2 : ∀ w', Below w3.heap.size w3 w' → w'.cell? ⟨w1.heap.size, 2, none⟩ = some (.int .i64 ep) := HD23.out.rule 2 _ rfl
          have u3 := HD23.out.rule 3 _ rfl
          have u4 := HD23.out.rule 4 _ rfl
          subst eA
          have hl1' : ((me.length : Int) == 1) = true := by simp [hme]
          have hln : 0 < me.length := by omega
          have i0 : (0 : Int) < me.length := by omega
          clear hcell hbA hone hl1 hme
          go_wp2_with fail
          refine region_lexg (fun w' => Below w3.heap.size w3 w') [] 0 [(2, 0), (0, 1), (2, 2), (2, 3), (2, 4), (2, 5), (0, 6), (2, 7), (0, 8), (2, 9), (0, 10), (2, 11), (2, 12), (2, 13)] #[true, true, true, true, true, true, true, true, true, true, true, true, true, true] (by kernel_rfl) (by kernel_rfl) (by decide) (by kernel_rfl) (by kernel_rfl) (fun _ _ _ _ _ h => h) (by (exact r3.drew)) (fun hS0 => ?_)
          simp only [List.map_cons, List.map_nil, List.getElem?_toArray, List.getElem?_cons_succ, List.getElem?_cons_zero]
          (apply lexg_pure (by rfl); (focus (intro w; go_simp; (try with_reducible rfl); done)); simp only [Act.put, List.setIfInBounds_toArray, List.set_cons_zero, List.set_cons_succ])
          (apply lexg_take (by rfl); (focus (intro w hw; (try dsimp only at hw); go_simp; (try with_reducible rfl); done)); simp only [Act.put, List.setIfInBounds_toArray, List.set_cons_zero, List.set_cons_succ])
          (apply lexg_pure (by rfl); (focus (intro w; go_simp; (try with_reducible rfl); done)); simp only [Act.put, List.setIfInBounds_toArray, List.set_cons_zero, List.set_cons_succ])
          (apply lexg_pure (by rfl); (focus (intro w; go_simp; (try with_reducible rfl); done)); simp only [Act.put, List.setIfInBounds_toArray, List.set_cons_zero, List.set_cons_succ])
          (apply lexg_pure (by rfl); (focus (intro w; go_simp; (try with_reducible rfl); done)); simp only [Act.put, List.setIfInBounds_toArray, List.set_cons_zero, List.set_cons_succ])
          first | (apply lexg_pure (by rfl); (focus (intro w; go_simp; (try with_reducible rfl); done)); simp only [Act.put, List.setIfInBounds_toArray, List.set_cons_zero, List.set_cons_succ]) | (refine lexg_skipP (by rfl) ?_; simp only [Act.put, List.setIfInBounds_toArray, List.set_cons_zero, List.set_cons_succ])
          first | (apply lexg_take (by rfl); (focus (intro w hw; (try dsimp only at hw); go_simp; (try with_reducible rfl); done)); simp only [Act.put, List.setIfInBounds_toArray, List.set_cons_zero, List.set_cons_succ]) | (refine lexg_skip (by rfl) ?_; simp only [Act.put, List.setIfInBounds_toArray, List.set_cons_zero, List.set_cons_succ])
          first | (apply lexg_pure (by rfl); (focus (intro w; go_simp; (try with_reducible rfl); done)); simp only [Act.put, List.setIfInBounds_toArray, List.set_cons_zero, List.set_cons_succ]) | (refine lexg_skipP (by rfl) ?_; simp only [Act.put, List.setIfInBounds_toArray, List.set_cons_zero, List.set_cons_succ])
          first | (apply lexg_take (by rfl); (focus (intro w hw; (try dsimp only at hw); go_simp; (try with_reducible rfl); done)); simp only [Act.put, List.setIfInBounds_toArray, List.set_cons_zero, List.set_cons_succ]) | (refine lexg_skip (by rfl) ?_; simp only [Act.put, List.setIfInBounds_toArray, List.set_cons_zero, List.set_cons_succ])
          first | (apply lexg_pure (by rfl); (focus (intro w; go_simp; (try with_reducible rfl); done)); simp only [Act.put, List.setIfInBounds_toArray, List.set_cons_zero, List.set_cons_succ]) | (refine lexg_skipP (by rfl) ?_; simp only [Act.put, List.setIfInBounds_toArray, List.set_cons_zero, List.set_cons_succ])
          first | (apply lexg_take (by rfl); (focus (intro w hw; (try dsimp only at hw); go_simp; (try with_reducible rfl); done)); simp only [Act.put, List.setIfInBounds_toArray, List.set_cons_zero, List.set_cons_succ]) | (refine lexg_skip (by rfl) ?_; simp only [Act.put, List.setIfInBounds_toArray, List.set_cons_zero, List.set_cons_succ])
          first | (apply lexg_pure (by rfl); (focus (intro w; go_simp; (try with_reducible rfl); done)); simp only [Act.put, List.setIfInBounds_toArray, List.set_cons_zero, List.set_cons_succ]) | (refine lexg_skipP (by rfl) ?_; simp only [Act.put, List.setIfInBounds_toArray, List.set_cons_zero, List.set_cons_succ])
          (apply lexg_pure (by rfl); (focus (intro w; go_simp; (try with_reducible rfl); done)); simp only [Act.put, List.setIfInBounds_toArray, List.set_cons_zero, List.set_cons_succ])
          (apply lexg_pure (by rfl); (focus (intro w; go_simp; (try with_reducible rfl); done)); simp only [Act.put, List.setIfInBounds_toArray, List.set_cons_zero, List.set_cons_succ])
          refine lexg_nil (fun _ => wpAnyG_done (by kernel_rfl) ?_ _)
          clear g0 hl1' i0 hz hln
          rename_i hunm
          clear hunm hS0
          have z3 : ∀ w', Below w3.heap.size w3 w' → w'.frozen? ⟨w1.heap.size, 3, none⟩ = false := fun w' hb => (HD23.out.below hb).frozen 3
          have z4 : ∀ w', Below w3.heap.size w3 w' → w'.frozen? ⟨w1.heap.size, 4, none⟩ = false := fun w' hb => (HD23.out.below hb).frozen 4
          have HWM : Hid (∀ w', Below w3.heap.size w3 w' → Calls Tryz.prog 83 #[.slice (some ⟨bA, oA, none⟩) me.length c, .int .i64 c0] w' fun e w'' => ∃ A' c', e = .returned (.slice A' (wout me c0).length c') ∧ MadeI w3 w'' A' c' (wout me c0) ∧ Below w3.heap.size w3 w'') := hide (fun w' hb =>
            (without_calls _ c me no c0 w' (HSA3.out.below hb)).mono fun e w'' ⟨A', c', he, hm, hb2⟩ => ⟨A', c', he, hm.back hb.size, hb.trans (hb2.mono hb.size)⟩)
          have HWJ : Hid (∀ w', Below w3.heap.size w3 w' → Calls Tryz.prog 83 #[.slice B jo.length d, .int .i64 c0] w' fun e w'' => ∃ A' c', e = .returned (.slice A' (wout jo c0).length c') ∧ MadeI w3 w'' A' c' (wout jo c0) ∧ Below w3.heap.size w3 w'' ∧ Below w'.heap.size w' w'') := hide (fun w' hb =>
            (without_calls _ d jo no c0 w' (HSB3.out.below hb)).mono fun e w'' ⟨A', c', he, hm, hb2⟩ => ⟨A', c', he, hm.back hb.size, hb.trans (hb2.mono hb.size), hb2⟩)
          have r3d := r3.drew
          go_wp2_with fail
          refine region_lexg (fun w' => Below w3.heap.size w3 w') [11] 0 [(2, 0), (0, 1), (2, 2), (0, 3), (2, 5), (0, 6), (2, 7), (0, 8), (1, 4), (2, 10), (1, 9), (3, 11), (2, 12), (3, 13)] #[true, true, true, true, true, true, true, true, true, true, true, true, true, true] (by kernel_rfl) (by kernel_rfl) (by decide) (by kernel_rfl) (by kernel_rfl) (fun _ _ _ _ _ h => h) (by (first | exact r3.drew.drew | assumption)) (fun hS0 => ?_)
          simp only [List.map_cons, List.map_nil, List.getElem?_toArray, List.getElem?_cons_succ, List.getElem?_cons_zero]
          (apply lexg_pure (by rfl); (focus (intro w; go_simp; (try with_reducible rfl); done)); simp only [Act.put, List.setIfInBounds_toArray, List.set_cons_zero, List.set_cons_succ])
          (apply lexg_take (by rfl); (focus (intro w hw; (try dsimp only at hw); go_simp; (try with_reducible rfl); done)); simp only [Act.put, List.setIfInBounds_toArray, List.set_cons_zero, List.set_cons_succ])
          (apply lexg_pure (by rfl); (focus (intro w; go_simp; (try with_reducible rfl); done)); simp only [Act.put, List.setIfInBounds_toArray, List.set_cons_zero, List.set_cons_succ])
          (apply lexg_take (by rfl); (focus (intro w hw; (try dsimp only at hw); go_simp; (try with_reducible rfl); done)); simp only [Act.put, List.setIfInBounds_toArray, List.set_cons_zero, List.set_cons_succ])
          (apply lexg_pure (by rfl); (focus (intro w; go_simp; (try with_reducible rfl); done)); simp only [Act.put, List.setIfInBounds_toArray, List.set_cons_zero, List.set_cons_succ])
          (apply lexg_take (by rfl); (focus (intro w hw; (try dsimp only at hw); go_simp; (try with_reducible rfl); done)); simp only [Act.put, List.setIfInBounds_toArray, List.set_cons_zero, List.set_cons_succ])
          (apply lexg_pure (by rfl); (focus (intro w; go_simp; (try with_reducible rfl); done)); simp only [Act.put, List.setIfInBounds_toArray, List.set_cons_zero, List.set_cons_succ])
          (apply lexg_take (by rfl); (focus (intro w hw; (try dsimp only at hw); go_simp; (try with_reducible rfl); done)); simp only [Act.put, List.setIfInBounds_toArray, List.set_cons_zero, List.set_cons_succ])
          (refine lexg_eff (by rfl) ?_; go_simp; (first
                            | (go_at_call 83; with_reducible refine (HWM.out _ r3.drew.drew).mono ?_; rintro e w4 ⟨A4, c4, rfl, hm4, hb4⟩; have HM4 := hide hm4; clear hm4)
                            | (go_at_call 83; with_reducible refine (HWJ.out _ hb4).mono ?_; rintro e w5 ⟨A5, c5, rfl, hm5, hb5, hb5'⟩; have HM5 := hide (And.intro hm5 hb5'); clear hm5 hb5')); refine lexg_both (by (first | exact r3.drew.drew | assumption)) (fun hS1 => ?_))
          (apply lexg_pure (by rfl); (focus (intro w; go_simp; (try with_reducible rfl); done)); simp only [Act.put, List.setIfInBounds_toArray, List.set_cons_zero, List.set_cons_succ])
          (refine lexg_eff (by rfl) ?_; go_simp; (first
                            | (go_at_call 83; with_reducible refine (HWM.out _ r3.drew.drew).mono ?_; rintro e w4 ⟨A4, c4, rfl, hm4, hb4⟩; have HM4 := hide hm4; clear hm4)
                            | (go_at_call 83; with_reducible refine (HWJ.out _ hb4).mono ?_; rintro e w5 ⟨A5, c5, rfl, hm5, hb5, hb5'⟩; have HM5 := hide (And.intro hm5 hb5'); clear hm5 hb5')); refine lexg_both (by (first | exact r3.drew.drew | assumption)) (fun hS1 => ?_))
          (refine lexg_effN (by rfl) ?_; go_simp)
          (apply lexg_pure (by rfl); (focus (intro w; go_simp; (try with_reducible rfl); done)); simp only [Act.put, List.setIfInBounds_toArray, List.set_cons_zero, List.set_cons_succ])
          (refine lexg_effN (by rfl) ?_; go_simp)
          refine lexg_nil (fun _ => wpAnyG_done (by kernel_rfl) ?_ _)
          rename_i hunm
          clear hunm
          have hid := (fd_some (at_fd HR.out)).2
          have hin := HN.out.2 _ (fd_some (at_fd HR.out)).1
          simp only [] at hid hin
          have hw13 : w1.heap.size < w3.heap.size := HD23.out.lt
          have D6 := ((HD23.out.below hb5).set 3 (.slice A4 (wout me c0).length c4)).set 4 (.slice A5 (wout jo c0).length c5)
          have hc6 : Chg [w1.heap.size] w5 ((w5.setCell ⟨w1.heap.size, 3, none⟩ (.slice A4 (wout me c0).length c4)).setCell ⟨w1.heap.size, 4, none⟩ (.slice A5 (wout jo c0).length c5)) := ((Chg.refl _ _).setCell (Or.inl (by simp)) _).setCell (Or.inl (by simp)) _
          have hb35 := HB3.out.trans (hb5.mono HB3.out.size)
          have hb6 := Chg.onto hb35 hb35.size hc6 (fun x hx => by rw [List.mem_singleton.1 hx]; exact HWB.out)
          have M4 := (HM4.out.below HM5.out.2).chg hc6 (fun x hx => by rw [List.mem_singleton.1 hx]; exact hw13)
          have M5 := HM5.out.1.chg hc6 (fun x hx => by rw [List.mem_singleton.1 hx]; exact hw13)
          obtain ⟨w6, hw6⟩ : ∃ w6, (w5.setCell ⟨w1.heap.size, 3, none⟩ (.slice A4 (wout me c0).length c4)).setCell ⟨w1.heap.size, 4, none⟩ (.slice A5 (wout jo c0).length c5) = w6 := ⟨_, rfl⟩
          rw [hw6] at D6 hb6 M4 M5
          rw [hw6]
          simp only [List.set_cons_zero, List.set_cons_succ] at D6
          have hnl : ∀ x ∈ no, x < w3.heap.size := fun x hx => Nat.lt_of_lt_of_le (H.out.lt x hx) HB3.out.size
          have hT := vturn_calls w6 no b m1 m2 m3 S V C ⟨⟨id, vol, ep, (wout me c0), (wout jo c0)⟩, A4, c4, A5, c5⟩ (H.out.below hb6) (M4.sl (by have := List.length_filter_le (fun k => k != c0) me; have := HSA3.out.ln; unfold wout; omega) hnl) (M5.sl (by have := List.length_filter_le (fun k => k != c0) jo; have := HSB3.out.ln; unfold wout; omega) hnl) (by simp only []; rw [hid]; exact hqa.out) hin.1 hin.2 HN.out.1
          simp only [CkM.val, CkM.cells, List.length_append, List.length_singleton] at hT
          have HT := hide hT
          have HB6 := hide hb6
          have u0 := D6.cell 0
          have u1 := D6.cell 1
          have u2 := D6.cell 2
          have u3 := D6.cell 3
          have u4 := D6.cell 4
          simp only [List.getElem?_cons_succ, List.getElem?_cons_zero] at u0 u1 u2 u3 u4
          have HW6 := hide hw6
          clear hT hb6 D6 hc6 hb35 M4 M5 hw6 hnl hid hin hw13
          go_wp2_with fail
          refine HT.out.mono ?_
          rintro e w7 ⟨rfl, hcg, hvm⟩
          have HF := hide (And.intro hcg hvm)
          clear hcg hvm
          go_wp2
          go_ret
          rw [HE.out]
          exact ⟨rfl, (Chg.of_below (L := [b, m1, m2, m3]) HB6.out).trans HF.out.1 (fun x hx => Or.inl hx), HF.out.2⟩
        · have hl1' : ((me.length : Int) == 1) = false := by
            have : (me.length : Int) ≠ 1 := by omega
            simpa using this
          have x3 : ∀ w', Below w3.heap.size w3 w' → w'.cell? ⟨w.heap.size, 3, none⟩ = some (.int .i64 c0) := HD13.out.rule 3 _ rfl
          have u0 : ∀ w', Below w3.heap.size w3 w' → w'.cell? ⟨w1.heap.size, 0, none⟩ = some (.int .i64 id) := HD23.out.rule 0 _ rfl
          have u1 : ∀ w', Below w3.heap.size w3 w' → w'.cell? ⟨w1.heap.size, 1, none⟩ = some (.int .i64 vol) := HD23.out.rule 1 _ rfl
          have u2 : ∀ w', Below w3.heap.size w3 w' → w'.cell? ⟨w1.heap.size, 2, none⟩ = some (.int .i64 ep) := HD23.out.rule 2 _ rfl
          have u3 := HD23.out.rule 3 _ rfl
          have u4 := HD23.out.rule 4 _ rfl
          clear hone hl1
          go_wp2_with fail
          refine region_lexg (fun w' => Below w3.heap.size w3 w') [] 0 [(2, 0), (0, 1), (2, 2), (2, 3), (2, 4), (2, 5), (0, 6), (2, 7), (0, 8), (2, 9), (0, 10), (2, 11), (2, 12), (2, 13)] #[true, true, true, true, true, true, true, true, true, true, true, true, true, true] (by kernel_rfl) (by kernel_rfl) (by decide) (by kernel_rfl) (by kernel_rfl) (fun _ _ _ _ _ h => h) (by (exact r3.drew)) (fun hS0 => ?_)
          simp only [List.map_cons, List.map_nil, List.getElem?_toArray, List.getElem?_cons_succ, List.getElem?_cons_zero]
          (apply lexg_pure (by rfl); (focus (intro w; go_simp; (try with_reducible rfl); done)); simp only [Act.put, List.setIfInBounds_toArray, List.set_cons_zero, List.set_cons_succ])
          (apply lexg_take (by rfl); (focus (intro w hw; (try dsimp only at hw); go_simp; (try with_reducible rfl); done)); simp only [Act.put, List.setIfInBounds_toArray, List.set_cons_zero, List.set_cons_succ])
          (apply lexg_pure (by rfl); (focus (intro w; go_simp; (try with_reducible rfl); done)); simp only [Act.put, List.setIfInBounds_toArray, List.set_cons_zero, List.set_cons_succ])
          (apply lexg_pure (by rfl); (focus (intro w; go_simp; (try with_reducible rfl); done)); simp only [Act.put, List.setIfInBounds_toArray, List.set_cons_zero, List.set_cons_succ])
          (apply lexg_pure (by rfl); (focus (intro w; go_simp; (try with_reducible rfl); done)); simp only [Act.put, List.setIfInBounds_toArray, List.set_cons_zero, List.set_cons_succ])
          first | (apply lexg_pure (by rfl); (focus (intro w; go_simp; (try with_reducible rfl); done)); simp only [Act.put, List.setIfInBounds_toArray, List.set_cons_zero, List.set_cons_succ]) | (refine lexg_skipP (by rfl) ?_; simp only [Act.put, List.setIfInBounds_toArray, List.set_cons_zero, List.set_cons_succ])
          first | (apply lexg_take (by rfl); (focus (intro w hw; (try dsimp only at hw); go_simp; (try with_reducible rfl); done)); simp only [Act.put, List.setIfInBounds_toArray, List.set_cons_zero, List.set_cons_succ]) | (refine lexg_skip (by rfl) ?_; simp only [Act.put, List.setIfInBounds_toArray, List.set_cons_zero, List.set_cons_succ])
          first | (apply lexg_pure (by rfl); (focus (intro w; go_simp; (try with_reducible rfl); done)); simp only [Act.put, List.setIfInBounds_toArray, List.set_cons_zero, List.set_cons_succ]) | (refine lexg_skipP (by rfl) ?_; simp only [Act.put, List.setIfInBounds_toArray, List.set_cons_zero, List.set_cons_succ])
          first | (apply lexg_take (by rfl); (focus (intro w hw; (try dsimp only at hw); go_simp; (try with_reducible rfl); done)); simp only [Act.put, List.setIfInBounds_toArray, List.set_cons_zero, List.set_cons_succ]) | (refine lexg_skip (by rfl) ?_; simp only [Act.put, List.setIfInBounds_toArray, List.set_cons_zero, List.set_cons_succ])
          first | (apply lexg_pure (by rfl); (focus (intro w; go_simp; (try with_reducible rfl); done)); simp only [Act.put, List.setIfInBounds_toArray, List.set_cons_zero, List.set_cons_succ]) | (refine lexg_skipP (by rfl) ?_; simp only [Act.put, List.setIfInBounds_toArray, List.set_cons_zero, List.set_cons_succ])
          first | (apply lexg_take (by rfl); (focus (intro w hw; (try dsimp only at hw); go_simp; (try with_reducible rfl); done)); simp only [Act.put, List.setIfInBounds_toArray, List.set_cons_zero, List.set_cons_succ]) | (refine lexg_skip (by rfl) ?_; simp only [Act.put, List.setIfInBounds_toArray, List.set_cons_zero, List.set_cons_succ])
          first | (apply lexg_pure (by rfl); (focus (intro w; go_simp; (try with_reducible rfl); done)); simp only [Act.put, List.setIfInBounds_toArray, List.set_cons_zero, List.set_cons_succ]) | (refine lexg_skipP (by rfl) ?_; simp only [Act.put, List.setIfInBounds_toArray, List.set_cons_zero, List.set_cons_succ])
          (apply lexg_pure (by rfl); (focus (intro w; go_simp; (try with_reducible rfl); done)); simp only [Act.put, List.setIfInBounds_toArray, List.set_cons_zero, List.set_cons_succ])
          (apply lexg_pure (by rfl); (focus (intro w; go_simp; (try with_reducible rfl); done)); simp only [Act.put, List.setIfInBounds_toArray, List.set_cons_zero, List.set_cons_succ])
          refine lexg_nil (fun _ => wpAnyG_done (by kernel_rfl) ?_ _)
          clear hl1'
          rename_i hunm
          clear hunm hS0
          have z3 : ∀ w', Below w3.heap.size w3 w' → w'.frozen? ⟨w1.heap.size, 3, none⟩ = false := fun w' hb => (HD23.out.below hb).frozen 3
          have z4 : ∀ w', Below w3.heap.size w3 w' → w'.frozen? ⟨w1.heap.size, 4, none⟩ = false := fun w' hb => (HD23.out.below hb).frozen 4
          have HWM : Hid (∀ w', Below w3.heap.size w3 w' → Calls Tryz.prog 83 #[.slice A me.length c, .int .i64 c0] w' fun e w'' => ∃ A' c', e = .returned (.slice A' (wout me c0).length c') ∧ MadeI w3 w'' A' c' (wout me c0) ∧ Below w3.heap.size w3 w'') := hide (fun w' hb =>
            (without_calls _ c me no c0 w' (HSA3.out.below hb)).mono fun e w'' ⟨A', c', he, hm, hb2⟩ => ⟨A', c', he, hm.back hb.size, hb.trans (hb2.mono hb.size)⟩)
          have HWJ : Hid (∀ w', Below w3.heap.size w3 w' → Calls Tryz.prog 83 #[.slice B jo.length d, .int .i64 c0] w' fun e w'' => ∃ A' c', e = .returned (.slice A' (wout jo c0).length c') ∧ MadeI w3 w'' A' c' (wout jo c0) ∧ Below w3.heap.size w3 w'' ∧ Below w'.heap.size w' w'') := hide (fun w' hb =>
            (without_calls _ d jo no c0 w' (HSB3.out.below hb)).mono fun e w'' ⟨A', c', he, hm, hb2⟩ => ⟨A', c', he, hm.back hb.size, hb.trans (hb2.mono hb.size), hb2⟩)
          have r3d := r3.drew
          go_wp2_with fail
          refine region_lexg (fun w' => Below w3.heap.size w3 w') [11] 0 [(2, 0), (0, 1), (2, 2), (0, 3), (2, 5), (0, 6), (2, 7), (0, 8), (1, 4), (2, 10), (1, 9), (3, 11), (2, 12), (3, 13)] #[true, true, true, true, true, true, true, true, true, true, true, true, true, true] (by kernel_rfl) (by kernel_rfl) (by decide) (by kernel_rfl) (by kernel_rfl) (fun _ _ _ _ _ h => h) (by (first | exact r3.drew.drew | assumption)) (fun hS0 => ?_)
          simp only [List.map_cons, List.map_nil, List.getElem?_toArray, List.getElem?_cons_succ, List.getElem?_cons_zero]
          (apply lexg_pure (by rfl); (focus (intro w; go_simp; (try with_reducible rfl); done)); simp only [Act.put, List.setIfInBounds_toArray, List.set_cons_zero, List.set_cons_succ])
          (apply lexg_take (by rfl); (focus (intro w hw; (try dsimp only at hw); go_simp; (try with_reducible rfl); done)); simp only [Act.put, List.setIfInBounds_toArray, List.set_cons_zero, List.set_cons_succ])
          (apply lexg_pure (by rfl); (focus (intro w; go_simp; (try with_reducible rfl); done)); simp only [Act.put, List.setIfInBounds_toArray, List.set_cons_zero, List.set_cons_succ])
          (apply lexg_take (by rfl); (focus (intro w hw; (try dsimp only at hw); go_simp; (try with_reducible rfl); done)); simp only [Act.put, List.setIfInBounds_toArray, List.set_cons_zero, List.set_cons_succ])
          (apply lexg_pure (by rfl); (focus (intro w; go_simp; (try with_reducible rfl); done)); simp only [Act.put, List.setIfInBounds_toArray, List.set_cons_zero, List.set_cons_succ])
          (apply lexg_take (by rfl); (focus (intro w hw; (try dsimp only at hw); go_simp; (try with_reducible rfl); done)); simp only [Act.put, List.setIfInBounds_toArray, List.set_cons_zero, List.set_cons_succ])
          (apply lexg_pure (by rfl); (focus (intro w; go_simp; (try with_reducible rfl); done)); simp only [Act.put, List.setIfInBounds_toArray, List.set_cons_zero, List.set_cons_succ])
          (apply lexg_take (by rfl); (focus (intro w hw; (try dsimp only at hw); go_simp; (try with_reducible rfl); done)); simp only [Act.put, List.setIfInBounds_toArray, List.set_cons_zero, List.set_cons_succ])
          (refine lexg_eff (by rfl) ?_; go_simp; (first
                            | (go_at_call 83; with_reducible refine (HWM.out _ r3.drew.drew).mono ?_; rintro e w4 ⟨A4, c4, rfl, hm4, hb4⟩; have HM4 := hide hm4; clear hm4)
                            | (go_at_call 83; with_reducible refine (HWJ.out _ hb4).mono ?_; rintro e w5 ⟨A5, c5, rfl, hm5, hb5, hb5'⟩; have HM5 := hide (And.intro hm5 hb5'); clear hm5 hb5')); refine lexg_both (by (first | exact r3.drew.drew | assumption)) (fun hS1 => ?_))
          (apply lexg_pure (by rfl); (focus (intro w; go_simp; (try with_reducible rfl); done)); simp only [Act.put, List.setIfInBounds_toArray, List.set_cons_zero, List.set_cons_succ])
          (refine lexg_eff (by rfl) ?_; go_simp; (first
                            | (go_at_call 83; with_reducible refine (HWM.out _ r3.drew.drew).mono ?_; rintro e w4 ⟨A4, c4, rfl, hm4, hb4⟩; have HM4 := hide hm4; clear hm4)
                            | (go_at_call 83; with_reducible refine (HWJ.out _ hb4).mono ?_; rintro e w5 ⟨A5, c5, rfl, hm5, hb5, hb5'⟩; have HM5 := hide (And.intro hm5 hb5'); clear hm5 hb5')); refine lexg_both (by (first | exact r3.drew.drew | assumption)) (fun hS1 => ?_))
          (refine lexg_effN (by rfl) ?_; go_simp)
          (apply lexg_pure (by rfl); (focus (intro w; go_simp; (try with_reducible rfl); done)); simp only [Act.put, List.setIfInBounds_toArray, List.set_cons_zero, List.set_cons_succ])
          (refine lexg_effN (by rfl) ?_; go_simp)
          refine lexg_nil (fun _ => wpAnyG_done (by kernel_rfl) ?_ _)
          rename_i hunm
          clear hunm
          have hid := (fd_some (at_fd HR.out)).2
          have hin := HN.out.2 _ (fd_some (at_fd HR.out)).1
          simp only [] at hid hin
          have hw13 : w1.heap.size < w3.heap.size := HD23.out.lt
          have D6 := ((HD23.out.below hb5).set 3 (.slice A4 (wout me c0).length c4)).set 4 (.slice A5 (wout jo c0).length c5)
          have hc6 : Chg [w1.heap.size] w5 ((w5.setCell ⟨w1.heap.size, 3, none⟩ (.slice A4 (wout me c0).length c4)).setCell ⟨w1.heap.size, 4, none⟩ (.slice A5 (wout jo c0).length c5)) := ((Chg.refl _ _).setCell (Or.inl (by simp)) _).setCell (Or.inl (by simp)) _
          have hb35 := HB3.out.trans (hb5.mono HB3.out.size)
          have hb6 := Chg.onto hb35 hb35.size hc6 (fun x hx => by rw [List.mem_singleton.1 hx]; exact HWB.out)
          have M4 := (HM4.out.below HM5.out.2).chg hc6 (fun x hx => by rw [List.mem_singleton.1 hx]; exact hw13)
          have M5 := HM5.out.1.chg hc6 (fun x hx => by rw [List.mem_singleton.1 hx]; exact hw13)
          obtain ⟨w6, hw6⟩ : ∃ w6, (w5.setCell ⟨w1.heap.size, 3, none⟩ (.slice A4 (wout me c0).length c4)).setCell ⟨w1.heap.size, 4, none⟩ (.slice A5 (wout jo c0).length c5) = w6 := ⟨_, rfl⟩
          rw [hw6] at D6 hb6 M4 M5
          rw [hw6]
          simp only [List.set_cons_zero, List.set_cons_succ] at D6
          have hnl : ∀ x ∈ no, x < w3.heap.size := fun x hx => Nat.lt_of_lt_of_le (H.out.lt x hx) HB3.out.size
          have hT := vturn_calls w6 no b m1 m2 m3 S V C ⟨⟨id, vol, ep, (wout me c0), (wout jo c0)⟩, A4, c4, A5, c5⟩ (H.out.below hb6) (M4.sl (by have := List.length_filter_le (fun k => k != c0) me; have := HSA3.out.ln; unfold wout; omega) hnl) (M5.sl (by have := List.length_filter_le (fun k => k != c0) jo; have := HSB3.out.ln; unfold wout; omega) hnl) (by simp only []; rw [hid]; exact hqa.out) hin.1 hin.2 HN.out.1
          simp only [CkM.val, CkM.cells, List.length_append, List.length_singleton] at hT
          have HT := hide hT
          have HB6 := hide hb6
          have u0 := D6.cell 0
          have u1 := D6.cell 1
          have u2 := D6.cell 2
          have u3 := D6.cell 3
          have u4 := D6.cell 4
          simp only [List.getElem?_cons_succ, List.getElem?_cons_zero] at u0 u1 u2 u3 u4
          have HW6 := hide hw6
          clear hT hb6 D6 hc6 hb35 M4 M5 hw6 hnl hid hin hw13
          go_wp2_with fail
          refine HT.out.mono ?_
          rintro e w7 ⟨rfl, hcg, hvm⟩
          have HF := hide (And.intro hcg hvm)
          clear hcg hvm
          go_wp2
          go_ret
          rw [HE.out]
          exact ⟨rfl, (Chg.of_below (L := [b, m1, m2, m3]) HB6.out).trans HF.out.1 (fun x hx => Or.inl hx), HF.out.2⟩
theorem OwnI.push {w3 w w5 : World} {A : Option Addr} {c g cap : Nat} {l : List Int} {x : Int} (h : OwnI w3 w A c l) (hown : w5.ownsRow 0 3 1 (.slice (some ⟨g, 0, none⟩) (l.length + 1) cap) (l.length + 1) (l.map (Value.int .i64) ++ [.int .i64 x]))
    (hor : A.map Addr.block = some g ∨ w3.heap.size ≤ g) : MadeI w3 w5 (some ⟨g, 0, none⟩) cap (l ++ [x]) := by
  have hO : OwnI w3 w5 (some ⟨g, 0, none⟩) cap (l ++ [x]) := by
    refine ⟨?_, fun g' hg' => ?_⟩
    · rw [List.length_append, List.length_singleton, List.map_append]
      exact hown
    · obtain rfl : g = g' := by simpa using hg'
      rcases hor with h1 | h1
      · exact h.2 g h1
      · exact h1
  exact hO.made
set_option maxHeartbeats 4000000 in
set_option maxRecDepth 100000 in
theorem vpromote_calls (w : World) (no : List Nat) (b m1 m2 m3 : Nat) (S : Vst) (V : List VoM) (C : List CkM) (q : Cmd) (h : VM w no b m1 m2 m3 S V C) (hq : q.ok) (hl : S.cs.length < 1000000) (hc : ∀ c ∈ S.cs, 0 ≤ c.ep ∧ c.ep ≤ 1000000) (hm : ∀ c ∈ S.cs, c.me.length ≤ 100) :
    Calls Tryz.prog 64 #[.pointer (some ⟨b, 0, none⟩), q.val] w fun e w' => Stp w w' no b m1 m2 m3 (S.promote q) e := by
  obtain ⟨i0, hi, hz0, hz1, hz2⟩ := info_parts Tryz.infoI3
  have HN := hide (And.intro hl hc)
  have HM := hide hm
  clear hl hc hm
  obtain ⟨k0, a0, b0, c0, ⟨qr, qw, ql, qb⟩⟩ := q
  obtain ⟨w0, hw0⟩ : ∃ w0, w.alloc (.cells #[.int .i64 k0, .int .i64 a0, .int .i64 b0, .int .i64 c0, .int .i64 qr, .int .i64 qw, .int .i64 ql, .int .i64 qb] 68) = w0 := ⟨_, rfl⟩
  have hb0 : Below w.heap.size w w0 := hw0 ▸ (Below.refl w.heap.size w).alloc (Nat.le_refl _) _
  have d1 : Blk w0 w.heap.size 68 [.int .i64 k0, .int .i64 a0, .int .i64 b0, .int .i64 c0, .int .i64 qr, .int .i64 qw, .int .i64 ql, .int .i64 qb] := hw0 ▸ Blk.new rfl
  have hs0 : Hid (w0.heap.size = w.heap.size + 1) := hide (by rw [← hw0]; simp)
  have hat := fun w' (hb : Below w0.heap.size w0 w') => vat_calls w' no b m1 m2 m3 S V C ⟨k0, a0, b0, c0, ⟨qr, qw, ql, qb⟩⟩ (h.below (hb0.trans (hb.mono hb0.size))) hq
  simp only [Cmd.val, Cmd.cells] at hat
  have HC0 := hide hq.c
  have HB0 := hide hb0
  have HD := hide d1
  have H := hide h
  have hqc := hide hq.c
  have hqa := hide hq.a
  clear hq h hb0 d1
  unfold Cmd.val Cmd.cells
  simp only []
  cases hr : S.at_ a0 b0 with
  | error n =>
    have HE : Hid (S.promote ⟨k0, a0, b0, c0, ⟨qr, qw, ql, qb⟩⟩ = (S, n)) := hide (by
      unfold Vst.promote
      simp only [hr])
    have hn : (n != 0) = true := by rcases at_err hr with rfl | rfl <;> rfl
    have HAT := hide (hat w0 (Below.refl _ _))
    simp only [hr, errOf] at HAT
    have y0 := HD.out.cell 0
    have y1 := HD.out.cell 1
    have y2 := HD.out.cell 2
    have y3 := HD.out.cell 3
    have y4 := HD.out.cell 4
    have y5 := HD.out.cell 5
    have y6 := HD.out.cell 6
    have y7 := HD.out.cell 7
    simp only [List.getElem?_cons_succ, List.getElem?_cons_zero] at y0 y1 y2 y3 y4 y5 y6 y7
    clear hr hat
    go_enter Tryz.func64, Tryz.ntmps64
    go_wp2_with fail
    refine HAT.out.mono ?_
    rintro e w1 ⟨y, rfl, hok, hsA, hsB, hb1⟩
    obtain ⟨⟨id, vol, ep, me, jo⟩, A, c, B, d⟩ := y
    simp only [CkM.val, CkM.cells]
    simp only [] at hsA hsB hok
    have HBW := hide (HB0.out.trans (hb1.mono HB0.out.size))
    have E := hide (HD.out.below hb1)
    have HSA := hide (hsA.below hb1)
    have HSB := hide (hsB.below hb1)
    have HOK := hide hok
    have hlt1 : w.heap.size < w1.heap.size := E.out.lt
    have e3 : w1.cell? ⟨w.heap.size, 3, none⟩ = some (.int .i64 c0) := E.out.cell 3
    clear hsA hsB hb1 y0 y1 y2 y3 y4 y5 y6 y7 hok
    go_wp2
    go_ret
    rw [HE.out]
    exact H.out.stay (HBW.out.alloc HBW.out.size _) rfl
  | ok k =>
    have HAT := hide (hat w0 (Below.refl _ _))
    simp only [hr, errOf] at HAT
    have y0 := HD.out.cell 0
    have y1 := HD.out.cell 1
    have y2 := HD.out.cell 2
    have y3 := HD.out.cell 3
    have y4 := HD.out.cell 4
    have y5 := HD.out.cell 5
    have y6 := HD.out.cell 6
    have y7 := HD.out.cell 7
    simp only [List.getElem?_cons_succ, List.getElem?_cons_zero] at y0 y1 y2 y3 y4 y5 y6 y7
    have HR := hide hr
    clear hr hat
    go_enter Tryz.func64, Tryz.ntmps64
    go_wp2_with fail
    refine HAT.out.mono ?_
    rintro e w1 ⟨y, rfl, hok, hsA, hsB, hb1⟩
    obtain ⟨⟨id, vol, ep, me, jo⟩, A, c, B, d⟩ := y
    simp only [CkM.val, CkM.cells]
    simp only [] at hsA hsB hok
    have HBW := hide (HB0.out.trans (hb1.mono HB0.out.size))
    have E := hide (HD.out.below hb1)
    have HSA := hide (hsA.below hb1)
    have HSB := hide (hsB.below hb1)
    have HOK := hide hok
    have hlt1 : w.heap.size < w1.heap.size := E.out.lt
    have e3 : w1.cell? ⟨w.heap.size, 3, none⟩ = some (.int .i64 c0) := E.out.cell 3
    clear hsA hsB hb1 y0 y1 y2 y3 y4 y5 y6 y7 hok
    have hky := (HOK.out k rfl).1
    subst hky
    have HME : Hid (me.length ≤ 100) := hide (HM.out _ (fd_some (at_fd HR.out)).1)
    have d2 : Blk (w1.alloc (.cells #[.int .i64 id, .int .i64 vol, .int .i64 ep, .slice A me.length c, .slice B jo.length d] 89)) w1.heap.size 89 [.int .i64 id, .int .i64 vol, .int .i64 ep, .slice A me.length c, .slice B jo.length d] := Blk.new rfl
    have q2 := (Below.refl w1.heap.size w1).alloc (Nat.le_refl _) (.cells #[.int .i64 id, .int .i64 vol, .int .i64 ep, .slice A me.length c, .slice B jo.length d] 89)
    have d1' := E.out.below q2
    have hb2 := HBW.out.trans (q2.mono HBW.out.size)
    have sA2 := HSA.out.below q2
    have sB2 := HSB.out.below q2
    obtain ⟨w2, hw2⟩ : ∃ w2, w1.alloc (.cells #[.int .i64 id, .int .i64 vol, .int .i64 ep, .slice A me.length c, .slice B jo.length d] 89) = w2 := ⟨_, rfl⟩
    rw [hw2] at d2 d1' hb2 sA2 sB2
    have HSA2 := hide sA2
    have HSB2 := hide sB2
    have HB2 := hide hb2
    have HD1 := hide d1'
    have HD2 := hide d2
    have HW2 := hide hw2
    have HWB := hide (show w.heap.size ≤ w1.heap.size from HBW.out.size)
    clear d2 d1' hb2 sA2 sB2 hw2 q2
    go_wp2_with fail
    rw [show w1.alloc (.cells #[.int .i64 id, .int .i64 vol, .int .i64 ep, .slice A me.length c, .slice B jo.length d] 89) = w2 from HW2.out]
    refine (contains_calls B jo.length d jo c0 w2 rfl (by have := HSB2.out.ln; omega) HSB2.out.rd).mono ?_
    rintro e w3 ⟨rfl, nq, hw3⟩
    have hb3 : Below w2.heap.size w2 w3 := hw3 ▸ below_drewN (Below.refl _ _) nq
    have HB3 := hide (HB2.out.trans (hb3.mono HB2.out.size))
    have HD13 := hide (HD1.out.below hb3)
    have HD23 := hide (HD2.out.below hb3)
    have HSA3 := hide (HSA2.out.below hb3)
    have HSB3 := hide (HSB2.out.below hb3)
    clear hb3 hlt1 e3
    have HW3 := hide hw3
    clear hw3
    cases hhas : jo.contains c0 with
    | false =>
      have HE : Hid (S.promote ⟨k0, a0, b0, c0, ⟨qr, qw, ql, qb⟩⟩ = (S, 1)) := hide (by
        unfold Vst.promote
        simp only [HR.out, hhas]
        rfl)
      have HHAS := hide hhas
      clear hhas
      go_wp2
      go_ret
      rw [HE.out]
      exact H.out.stay HB3.out rfl
    | true =>
      have HE : Hid (S.promote ⟨k0, a0, b0, c0, ⟨qr, qw, ql, qb⟩⟩ = (S.turn ⟨id, vol, ep, me ++ [c0], wout jo c0⟩, 0)) := hide (by
        unfold Vst.promote
        simp only [HR.out, hhas]
        rfl)
      have HHAS := hide hhas
      clear hhas
      have r3 := Below.refl w3.heap.size w3
      have x3 : ∀ w', Below w3.heap.size w3 w' → w'.cell? ⟨w.heap.size, 3, none⟩ = some (.int .i64 c0) := HD13.out.rule 3 _ rfl
      have u0 : ∀ w', Below w3.heap.size w3 w' → w'.cell? ⟨w1.heap.size, 0, none⟩ = some (.int .i64 id) := HD23.out.rule 0 _ rfl
      have u1 : ∀ w', Below w3.heap.size w3 w' → w'.cell? ⟨w1.heap.size, 1, none⟩ = some (.int .i64 vol) := HD23.out.rule 1 _ rfl
      have u2 : ∀ w', Below w3.heap.size w3 w' → w'.cell? ⟨w1.heap.size, 2, none⟩ = some (.int .i64 ep) := HD23.out.rule 2 _ rfl
      have u3 := HD23.out.rule 3 _ rfl
      have u4 := HD23.out.rule 4 _ rfl
      have z3 : ∀ w', Below w3.heap.size w3 w' → w'.frozen? ⟨w1.heap.size, 3, none⟩ = false := fun w' hb => (HD23.out.below hb).frozen 3
      have z4 : ∀ w', Below w3.heap.size w3 w' → w'.frozen? ⟨w1.heap.size, 4, none⟩ = false := fun w' hb => (HD23.out.below hb).frozen 4
      have HCM : Hid (∀ w', Below w3.heap.size w3 w' → Calls Tryz.prog 54 #[.slice A me.length c] w' fun e w'' => ∃ A' c', e = .returned (.slice A' me.length c') ∧ OwnI w3 w'' A' c' me ∧ Below w3.heap.size w3 w'' ∧ Below w'.heap.size w' w'') := hide (fun w' hb =>
        (cloneI_calls _ me.length c me no w' rfl (HSA3.out.below hb)).mono fun e w'' ⟨A', c', he, hm, hb2⟩ => ⟨A', c', he, hm.back hb, hb.trans (hb2.mono hb.size), hb2⟩)
      have HWJ : Hid (∀ w', Below w3.heap.size w3 w' → Calls Tryz.prog 83 #[.slice B jo.length d, .int .i64 c0] w' fun e w'' => ∃ A' c', e = .returned (.slice A' (wout jo c0).length c') ∧ MadeI w3 w'' A' c' (wout jo c0) ∧ Below w3.heap.size w3 w'' ∧ Below w'.heap.size w' w'') := hide (fun w' hb =>
        (without_calls _ d jo no c0 w' (HSB3.out.below hb)).mono fun e w'' ⟨A', c', he, hm, hb2⟩ => ⟨A', c', he, hm.back hb.size, hb.trans (hb2.mono hb.size), hb2⟩)
      go_wp2_with fail
      refine region_lexg (fun w' => Below w3.heap.size w3 w') [13] 8 [(2, 0), (0, 1), (2, 3), (0, 4), (2, 7), (0, 8), (2, 9), (0, 10)] #[true, true, false, true, true, false, false, true, true, true, true, false, false, false, false, false] (by kernel_rfl) (by kernel_rfl) (by decide) (by kernel_rfl) (by kernel_rfl) (fun _ _ _ _ _ h => h) (by (first | exact r3.drew | exact (r3.alloc (Nat.le_refl _) _).drew | exact HB4A.out | assumption)) (fun hS0 => ?_)
      simp only [List.map_cons, List.map_nil, List.getElem?_toArray, List.getElem?_cons_succ, List.getElem?_cons_zero]
      (apply lexg_pure (by rfl); (focus (intro w; go_simp; (try with_reducible rfl); done)); simp only [Act.put, List.setIfInBounds_toArray, List.set_cons_zero, List.set_cons_succ])
      (apply lexg_take (by rfl); (focus (intro w hw; (try dsimp only at hw); go_simp; (try with_reducible rfl); done)); simp only [Act.put, List.setIfInBounds_toArray, List.set_cons_zero, List.set_cons_succ])
      (apply lexg_pure (by rfl); (focus (intro w; go_simp; (try with_reducible rfl); done)); simp only [Act.put, List.setIfInBounds_toArray, List.set_cons_zero, List.set_cons_succ])
      (apply lexg_take (by rfl); (focus (intro w hw; (try dsimp only at hw); go_simp; (try with_reducible rfl); done)); simp only [Act.put, List.setIfInBounds_toArray, List.set_cons_zero, List.set_cons_succ])
      (apply lexg_pure (by rfl); (focus (intro w; go_simp; (try with_reducible rfl); done)); simp only [Act.put, List.setIfInBounds_toArray, List.set_cons_zero, List.set_cons_succ])
      (apply lexg_take (by rfl); (focus (intro w hw; (try dsimp only at hw); go_simp; (try with_reducible rfl); done)); simp only [Act.put, List.setIfInBounds_toArray, List.set_cons_zero, List.set_cons_succ])
      (apply lexg_pure (by rfl); (focus (intro w; go_simp; (try with_reducible rfl); done)); simp only [Act.put, List.setIfInBounds_toArray, List.set_cons_zero, List.set_cons_succ])
      (apply lexg_take (by rfl); (focus (intro w hw; (try dsimp only at hw); go_simp; (try with_reducible rfl); done)); simp only [Act.put, List.setIfInBounds_toArray, List.set_cons_zero, List.set_cons_succ])
      refine lexg_nil (fun hS2 => ?_)
      refine lexg_fork2 (i := 2) (j := 5) (by kernel_rfl) (by kernel_rfl : _ = #[true, true, true, true, true, false, false, true, true, true, true, false, false, false, false, false]) (by kernel_rfl : _ = #[true, true, false, true, true, true, false, true, true, true, true, false, false, false, false, false]) ?_ ?_
      focus
        apply lexg_act (by simp only [List.getElem?_toArray, List.getElem?_cons_succ, List.getElem?_cons_zero]; rfl) (by rfl)
        go_simp
        (first
                    | (go_at_call 54; with_reducible refine (HCM.out _ (by first | exact r3.drew | exact (r3.alloc (Nat.le_refl _) _).drew)).mono ?_; rintro e w4 ⟨A4, c4, rfl, hm4, hb4, hb4'⟩; have HM4 := hide (And.intro hm4 hb4'); clear hb4'; have HB4A := hide (hb4.alloc hb4.size (.cells #[.int .i64 c0] 3)); clear hm4)
                    | (go_at_call 83; with_reducible refine (HWJ.out _ hb45).mono ?_; rintro e w5 ⟨A5, c5, rfl, hm5, hb5, hb5'⟩; have HM5 := hide (And.intro hm5 hb5'); clear hm5 hb5'))
        refine lexg_both (by (first | exact r3.drew | exact (r3.alloc (Nat.le_refl _) _).drew | exact HB4A.out | assumption)) (fun hS1 => ?_)
        refine lexg_more 0 [(1, 5), (1, 6), (2, 12), (1, 11), (3, 13), (2, 14), (3, 15)] #[true, true, true, true, true, true, true, true, true, true, true, true, true, true, true, true] (by kernel_rfl) (by decide) (by kernel_rfl) (by kernel_rfl) (fun _ _ _ _ _ h => h) (fun _ => by assumption) ?_
        simp only [List.map_cons, List.map_nil, List.getElem?_toArray, List.getElem?_cons_succ, List.getElem?_cons_zero]
        (refine lexg_eff (by rfl) ?_; go_simp; refine lexg_both (by (first | exact r3.drew | exact (r3.alloc (Nat.le_refl _) _).drew | exact HB4A.out | assumption)) (fun hS1 => ?_))
        (refine lexg_eff (by rfl) ?_; (first | (refine app_wp _ _ 35 rfl 3 i0 _ 1 8 Tryz.underlying35 hi hz0 hz1 hz2 rfl (by decide) (.slice A4 me.length c4) me.length (me.map (Value.int .i64)) rfl (own_chg HM4.out.1.1 (Chg.of_below (L := []) ((Below.refl _ _).alloc (Nat.le_refl _) _)) (fun _ _ hx => by cases hx)) w4.heap.size 1 1 [.int .i64 c0] rfl (Blk.new rfl) rfl (by intro u hu; simp at hu; subst hu; rfl) (by decide) (by have := HME.out; unfold maxLen; omega) (by have := HME.out; omega) ?_; intro g2 cap2 w45 hown hch hor hlt; rw [ownBlock_slice] at hch hor; have hb45 : Below w3.heap.size w3 w45 := Chg.onto HB4A.out HB4A.out.size hch (fun x hx => HM4.out.1.2 x (by simpa using hx)); have HM45 := hide (OwnI.push HM4.out.1 hown (hor.imp (fun h => h) (fun h => by have := HB4A.out.size; omega))); clear hown hch hor hlt) | (refine app_wp _ _ 35 rfl 3 i0 _ 1 8 Tryz.underlying35 hi hz0 hz1 hz2 rfl (by decide) (.slice A4 me.length c4) me.length (me.map (Value.int .i64)) rfl HM4.out.1.1 w3.heap.size 1 1 [.int .i64 c0] rfl (Blk.below (w := (w3.alloc (.cells #[.int .i64 c0] 3)).drew) (Blk.new rfl) HM4.out.2) rfl (by intro u hu; simp at hu; subst hu; rfl) (by decide) (by have := HME.out; unfold maxLen; omega) (by have := HME.out; omega) ?_; intro g2 cap2 w45 hown hch hor hlt; rw [ownBlock_slice] at hch hor; have hb45 : Below w3.heap.size w3 w45 := Chg.onto hb4 hb4.size hch (fun x hx => HM4.out.1.2 x (by simpa using hx)); have HM45 := hide (OwnI.push HM4.out.1 hown (hor.imp (fun h => h) (fun h => by have := hb4.size; omega))); clear hown hch hor hlt)); simp only [Act.put, List.setIfInBounds_toArray, List.set_cons_zero, List.set_cons_succ]; refine lexg_both (by (first | exact r3.drew | exact (r3.alloc (Nat.le_refl _) _).drew | exact HB4A.out | assumption)) (fun hS1 => ?_))
        (apply lexg_pure (by rfl); (focus (intro w; go_simp; (try with_reducible rfl); done)); simp only [Act.put, List.setIfInBounds_toArray, List.set_cons_zero, List.set_cons_succ])
        (refine lexg_eff (by rfl) ?_; go_simp; (first
                    | (go_at_call 54; with_reducible refine (HCM.out _ (by first | exact r3.drew | exact (r3.alloc (Nat.le_refl _) _).drew)).mono ?_; rintro e w4 ⟨A4, c4, rfl, hm4, hb4, hb4'⟩; have HM4 := hide (And.intro hm4 hb4'); clear hb4'; have HB4A := hide (hb4.alloc hb4.size (.cells #[.int .i64 c0] 3)); clear hm4)
                    | (go_at_call 83; with_reducible refine (HWJ.out _ hb45).mono ?_; rintro e w5 ⟨A5, c5, rfl, hm5, hb5, hb5'⟩; have HM5 := hide (And.intro hm5 hb5'); clear hm5 hb5')); refine lexg_both (by (first | exact r3.drew | exact (r3.alloc (Nat.le_refl _) _).drew | exact HB4A.out | assumption)) (fun hS1 => ?_))
        (refine lexg_effN (by rfl) ?_; go_simp)
        (apply lexg_pure (by rfl); (focus (intro w; go_simp; (try with_reducible rfl); done)); simp only [Act.put, List.setIfInBounds_toArray, List.set_cons_zero, List.set_cons_succ])
        (refine lexg_effN (by rfl) ?_; go_simp)
        refine lexg_nil (fun _ => wpAnyG_done (by kernel_rfl) ?_ _)
      rotate_left
      focus
        apply lexg_act (by simp only [List.getElem?_toArray, List.getElem?_cons_succ, List.getElem?_cons_zero]; rfl) (by rfl)
        go_simp
        refine lexg_both (by (first | exact r3.drew | exact (r3.alloc (Nat.le_refl _) _).drew | exact HB4A.out | assumption)) (fun hS1 => ?_)
        refine lexg_more 0 [(1, 2), (1, 6), (2, 12), (1, 11), (3, 13), (2, 14), (3, 15)] #[true, true, true, true, true, true, true, true, true, true, true, true, true, true, true, true] (by kernel_rfl) (by decide) (by kernel_rfl) (by kernel_rfl) (fun _ _ _ _ _ h => h) (fun _ => by assumption) ?_
        simp only [List.map_cons, List.map_nil, List.getElem?_toArray, List.getElem?_cons_succ, List.getElem?_cons_zero]
        (refine lexg_eff (by rfl) ?_; go_simp; (first
                    | (go_at_call 54; with_reducible refine (HCM.out _ (by first | exact r3.drew | exact (r3.alloc (Nat.le_refl _) _).drew)).mono ?_; rintro e w4 ⟨A4, c4, rfl, hm4, hb4, hb4'⟩; have HM4 := hide (And.intro hm4 hb4'); clear hb4'; have HB4A := hide (hb4.alloc hb4.size (.cells #[.int .i64 c0] 3)); clear hm4)
                    | (go_at_call 83; with_reducible refine (HWJ.out _ hb45).mono ?_; rintro e w5 ⟨A5, c5, rfl, hm5, hb5, hb5'⟩; have HM5 := hide (And.intro hm5 hb5'); clear hm5 hb5')); refine lexg_both (by (first | exact r3.drew | exact (r3.alloc (Nat.le_refl _) _).drew | exact HB4A.out | assumption)) (fun hS1 => ?_))
        (refine lexg_eff (by rfl) ?_; (first | (refine app_wp _ _ 35 rfl 3 i0 _ 1 8 Tryz.underlying35 hi hz0 hz1 hz2 rfl (by decide) (.slice A4 me.length c4) me.length (me.map (Value.int .i64)) rfl (own_chg HM4.out.1.1 (Chg.of_below (L := []) ((Below.refl _ _).alloc (Nat.le_refl _) _)) (fun _ _ hx => by cases hx)) w4.heap.size 1 1 [.int .i64 c0] rfl (Blk.new rfl) rfl (by intro u hu; simp at hu; subst hu; rfl) (by decide) (by have := HME.out; unfold maxLen; omega) (by have := HME.out; omega) ?_; intro g2 cap2 w45 hown hch hor hlt; rw [ownBlock_slice] at hch hor; have hb45 : Below w3.heap.size w3 w45 := Chg.onto HB4A.out HB4A.out.size hch (fun x hx => HM4.out.1.2 x (by simpa using hx)); have HM45 := hide (OwnI.push HM4.out.1 hown (hor.imp (fun h => h) (fun h => by have := HB4A.out.size; omega))); clear hown hch hor hlt) | (refine app_wp _ _ 35 rfl 3 i0 _ 1 8 Tryz.underlying35 hi hz0 hz1 hz2 rfl (by decide) (.slice A4 me.length c4) me.length (me.map (Value.int .i64)) rfl HM4.out.1.1 w3.heap.size 1 1 [.int .i64 c0] rfl (Blk.below (w := (w3.alloc (.cells #[.int .i64 c0] 3)).drew) (Blk.new rfl) HM4.out.2) rfl (by intro u hu; simp at hu; subst hu; rfl) (by decide) (by have := HME.out; unfold maxLen; omega) (by have := HME.out; omega) ?_; intro g2 cap2 w45 hown hch hor hlt; rw [ownBlock_slice] at hch hor; have hb45 : Below w3.heap.size w3 w45 := Chg.onto hb4 hb4.size hch (fun x hx => HM4.out.1.2 x (by simpa using hx)); have HM45 := hide (OwnI.push HM4.out.1 hown (hor.imp (fun h => h) (fun h => by have := hb4.size; omega))); clear hown hch hor hlt)); simp only [Act.put, List.setIfInBounds_toArray, List.set_cons_zero, List.set_cons_succ]; refine lexg_both (by (first | exact r3.drew | exact (r3.alloc (Nat.le_refl _) _).drew | exact HB4A.out | assumption)) (fun hS1 => ?_))
        (apply lexg_pure (by rfl); (focus (intro w; go_simp; (try with_reducible rfl); done)); simp only [Act.put, List.setIfInBounds_toArray, List.set_cons_zero, List.set_cons_succ])
        (refine lexg_eff (by rfl) ?_; go_simp; (first
                    | (go_at_call 54; with_reducible refine (HCM.out _ (by first | exact r3.drew | exact (r3.alloc (Nat.le_refl _) _).drew)).mono ?_; rintro e w4 ⟨A4, c4, rfl, hm4, hb4, hb4'⟩; have HM4 := hide (And.intro hm4 hb4'); clear hb4'; have HB4A := hide (hb4.alloc hb4.size (.cells #[.int .i64 c0] 3)); clear hm4)
                    | (go_at_call 83; with_reducible refine (HWJ.out _ hb45).mono ?_; rintro e w5 ⟨A5, c5, rfl, hm5, hb5, hb5'⟩; have HM5 := hide (And.intro hm5 hb5'); clear hm5 hb5')); refine lexg_both (by (first | exact r3.drew | exact (r3.alloc (Nat.le_refl _) _).drew | exact HB4A.out | assumption)) (fun hS1 => ?_))
        (refine lexg_effN (by rfl) ?_; go_simp)
        (apply lexg_pure (by rfl); (focus (intro w; go_simp; (try with_reducible rfl); done)); simp only [Act.put, List.setIfInBounds_toArray, List.set_cons_zero, List.set_cons_succ])
        (refine lexg_effN (by rfl) ?_; go_simp)
        refine lexg_nil (fun _ => wpAnyG_done (by kernel_rfl) ?_ _)
      rotate_left
      all_goals
        rename_i hunm
        clear hunm
        have hid := (fd_some (at_fd HR.out)).2
        have hin := HN.out.2 _ (fd_some (at_fd HR.out)).1
        simp only [] at hid hin
        have hw13 : w1.heap.size < w3.heap.size := HD23.out.lt
        have D6 := ((HD23.out.below hb5).set 3 (.slice (some ⟨g2, 0, none⟩) (me.length + 1) cap2)).set 4 (.slice A5 (wout jo c0).length c5)
        have hc6 : Chg [w1.heap.size] w5 ((w5.setCell ⟨w1.heap.size, 3, none⟩ (.slice (some ⟨g2, 0, none⟩) (me.length + 1) cap2)).setCell ⟨w1.heap.size, 4, none⟩ (.slice A5 (wout jo c0).length c5)) := ((Chg.refl _ _).setCell (Or.inl (by simp)) _).setCell (Or.inl (by simp)) _
        have hb35 := HB3.out.trans (hb5.mono HB3.out.size)
        have hb6 := Chg.onto hb35 hb35.size hc6 (fun x hx => by rw [List.mem_singleton.1 hx]; exact HWB.out)
        have M4 := (HM45.out.below HM5.out.2).chg hc6 (fun x hx => by rw [List.mem_singleton.1 hx]; exact hw13)
        have M5 := HM5.out.1.chg hc6 (fun x hx => by rw [List.mem_singleton.1 hx]; exact hw13)
        obtain ⟨w6, hw6⟩ : ∃ w6, (w5.setCell ⟨w1.heap.size, 3, none⟩ (.slice (some ⟨g2, 0, none⟩) (me.length + 1) cap2)).setCell ⟨w1.heap.size, 4, none⟩ (.slice A5 (wout jo c0).length c5) = w6 := ⟨_, rfl⟩
        rw [hw6] at D6 hb6 M4 M5
        rw [hw6]
        simp only [List.set_cons_zero, List.set_cons_succ] at D6
        have hnl : ∀ x ∈ no, x < w3.heap.size := fun x hx => Nat.lt_of_lt_of_le (H.out.lt x hx) HB3.out.size
        have hT := vturn_calls w6 no b m1 m2 m3 S V C ⟨⟨id, vol, ep, (me ++ [c0]), (wout jo c0)⟩, (some ⟨g2, 0, none⟩), cap2, A5, c5⟩ (H.out.below hb6) (M4.sl (by have := HME.out; simp; omega) hnl) (M5.sl (by have := List.length_filter_le (fun k => k != c0) jo; have := HSB3.out.ln; unfold wout; omega) hnl) (by simp only []; rw [hid]; exact hqa.out) hin.1 hin.2 HN.out.1
        simp only [CkM.val, CkM.cells, List.length_append, List.length_singleton] at hT
        have HT := hide hT
        have HB6 := hide hb6
        have u0 := D6.cell 0
        have u1 := D6.cell 1
        have u2 := D6.cell 2
        have u3 := D6.cell 3
        have u4 := D6.cell 4
        simp only [List.getElem?_cons_succ, List.getElem?_cons_zero] at u0 u1 u2 u3 u4
        have HW6 := hide hw6
        clear hT hb6 D6 hc6 hb35 M4 M5 hw6 hnl hid hin hw13
        go_wp2_with fail
        refine HT.out.mono ?_
        rintro e w7 ⟨rfl, hcg, hvm⟩
        have HF := hide (And.intro hcg hvm)
        clear hcg hvm
        go_wp2
        go_ret
        rw [HE.out]
        exact ⟨rfl, (Chg.of_below (L := [b, m1, m2, m3]) HB6.out).trans HF.out.1 (fun x hx => Or.inl hx), HF.out.2⟩
set_option maxHeartbeats 4000000 in
set_option maxRecDepth 100000 in
theorem vjoin_calls (w : World) (no : List Nat) (b m1 m2 m3 : Nat) (S : Vst) (V : List VoM) (C : List CkM) (q : Cmd) (h : VM w no b m1 m2 m3 S V C) (hq : q.ok) (hl : S.cs.length < 1000000) (hc : ∀ c ∈ S.cs, 0 ≤ c.ep ∧ c.ep ≤ 1000000) :
    Calls Tryz.prog 63 #[.pointer (some ⟨b, 0, none⟩), q.val] w fun e w' => Stp w w' no b m1 m2 m3 (S.join q) e := by
  obtain ⟨i0, hi, hz0, hz1, hz2⟩ := info_parts Tryz.infoI3
  have HN := hide (And.intro hl hc)
  clear hl hc
  obtain ⟨k0, a0, b0, c0, ⟨qr, qw, ql, qb⟩⟩ := q
  obtain ⟨w0, hw0⟩ : ∃ w0, w.alloc (.cells #[.int .i64 k0, .int .i64 a0, .int .i64 b0, .int .i64 c0, .int .i64 qr, .int .i64 qw, .int .i64 ql, .int .i64 qb] 68) = w0 := ⟨_, rfl⟩
  have hb0 : Below w.heap.size w w0 := hw0 ▸ (Below.refl w.heap.size w).alloc (Nat.le_refl _) _
  have d1 : Blk w0 w.heap.size 68 [.int .i64 k0, .int .i64 a0, .int .i64 b0, .int .i64 c0, .int .i64 qr, .int .i64 qw, .int .i64 ql, .int .i64 qb] := hw0 ▸ Blk.new rfl
  have hs0 : Hid (w0.heap.size = w.heap.size + 1) := hide (by rw [← hw0]; simp)
  have hat := fun w' (hb : Below w0.heap.size w0 w') => vat_calls w' no b m1 m2 m3 S V C ⟨k0, a0, b0, c0, ⟨qr, qw, ql, qb⟩⟩ (h.below (hb0.trans (hb.mono hb0.size))) hq
  simp only [Cmd.val, Cmd.cells] at hat
  have HC0 := hide hq.c
  have HB0 := hide hb0
  have HD := hide d1
  have H := hide h
  have hqc := hide hq.c
  have hqa := hide hq.a
  clear hq h hb0 d1
  unfold Cmd.val Cmd.cells
  simp only []
  have r0 := Below.refl w0.heap.size w0
  have x3 : ∀ w', Below w0.heap.size w0 w' → w'.cell? ⟨w.heap.size, 3, none⟩ = some (.int .i64 c0) := HD.out.rule 3 _ rfl
  have cm : ∀ w', Below w0.heap.size w0 w' → w'.cell? ⟨b, 0, none⟩ = some (.map (some m1)) := (H.out.below HB0.out).blk.rule 0 _ rfl
  have l0 : ∀ w', Below w0.heap.size w0 w' → (Instr.lookup 94 (.map (some m1)) (.int .i64 c0) true).run Tryz.prog w' = .ok (.tuple #[((fd Prod.fst S.sv c0).map svVal).getD (.int .i64 0), .bool (fd Prod.fst S.sv c0).isSome]) w' := fun w' hb =>
    (((H.out.below HB0.out).below hb).t1).look_ok hqc.out Tryz.underlying94 (by simp [Tryz.zeroValue3])
  obtain ⟨zv, hzv⟩ : ∃ zv, ((fd Prod.fst S.sv c0).map svVal).getD (.int .i64 0) = zv := ⟨_, rfl⟩
  obtain ⟨t, ht⟩ : ∃ t, (fd Prod.fst S.sv c0).isSome = t := ⟨_, rfl⟩
  simp only [hzv, ht] at l0
  have HT := hide ht
  clear hzv ht
  have HBD := hide (HB0.out.trans (r0.drew.mono HB0.out.size))
  have HDD := hide (HD.out.below r0.drew)
  cases t with
  | false =>
    have HE : Hid (S.join ⟨k0, a0, b0, c0, ⟨qr, qw, ql, qb⟩⟩ = (S, 7)) := hide (by
      unfold Vst.join
      simp only []
      rw [HT.out]
      rfl)
    have HAT := hide (hat w0.drew r0.drew)
    clear hat
    go_enter Tryz.func63, Tryz.ntmps63
    go_wp2_with fail
    refine region_lexg (fun w' => Below w0.heap.size w0 w') [] 0 [(2, 0), (2, 1), (2, 2), (0, 3), (2, 4), (0, 5), (0, 6), (2, 7), (2, 8), (2, 9), (2, 10), (2, 11)] #[true, true, true, true, true, true, true, true, true, true, true, true] (by kernel_rfl) (by kernel_rfl) (by decide) (by kernel_rfl) (by kernel_rfl) (fun _ _ _ _ _ h => h) (by (exact r0.drew)) (fun hS0 => ?_)
    simp only [List.map_cons, List.map_nil, List.getElem?_toArray, List.getElem?_cons_succ, List.getElem?_cons_zero]
    (apply lexg_pure (by rfl); (focus (intro w; go_simp; (try with_reducible rfl); done)); simp only [Act.put, List.setIfInBounds_toArray, List.set_cons_zero, List.set_cons_succ])
    (apply lexg_pure (by rfl); (focus (intro w; go_simp; (try with_reducible rfl); done)); simp only [Act.put, List.setIfInBounds_toArray, List.set_cons_zero, List.set_cons_succ])
    (apply lexg_pure (by rfl); (focus (intro w; go_simp; (try with_reducible rfl); done)); simp only [Act.put, List.setIfInBounds_toArray, List.set_cons_zero, List.set_cons_succ])
    (apply lexg_take (by rfl); (focus (intro w hw; (try dsimp only at hw); go_simp; (try with_reducible rfl); done)); simp only [Act.put, List.setIfInBounds_toArray, List.set_cons_zero, List.set_cons_succ])
    (apply lexg_pure (by rfl); (focus (intro w; go_simp; (try with_reducible rfl); done)); simp only [Act.put, List.setIfInBounds_toArray, List.set_cons_zero, List.set_cons_succ])
    (apply lexg_take (by rfl); (focus (intro w hw; (try dsimp only at hw); go_simp; (try with_reducible rfl); done)); simp only [Act.put, List.setIfInBounds_toArray, List.set_cons_zero, List.set_cons_succ])
    (apply lexg_take (by rfl); (focus (intro w hw; (try dsimp only at hw); go_simp; (try with_reducible rfl); done)); simp only [Act.put, List.setIfInBounds_toArray, List.set_cons_zero, List.set_cons_succ])
    (apply lexg_pure (by rfl); (focus (intro w; go_simp; (try with_reducible rfl); done)); simp only [Act.put, List.setIfInBounds_toArray, List.set_cons_zero, List.set_cons_succ])
    (apply lexg_pure (by rfl); (focus (intro w; go_simp; (try with_reducible rfl); done)); simp only [Act.put, List.setIfInBounds_toArray, List.set_cons_zero, List.set_cons_succ])
    (apply lexg_pure (by rfl); (focus (intro w; go_simp; (try with_reducible rfl); done)); simp only [Act.put, List.setIfInBounds_toArray, List.set_cons_zero, List.set_cons_succ])
    (apply lexg_pure (by rfl); (focus (intro w; go_simp; (try with_reducible rfl); done)); simp only [Act.put, List.setIfInBounds_toArray, List.set_cons_zero, List.set_cons_succ])
    (apply lexg_pure (by rfl); (focus (intro w; go_simp; (try with_reducible rfl); done)); simp only [Act.put, List.setIfInBounds_toArray, List.set_cons_zero, List.set_cons_succ])
    refine lexg_nil (fun _ => wpAnyG_done (by kernel_rfl) ?_ _)
    rename_i hunm
    clear hunm hS0 l0 cm x3
    have E1 := HDD.out
    have y0 := E1.cell 0
    have y1 := E1.cell 1
    have y2 := E1.cell 2
    have y3 := E1.cell 3
    have y4 := E1.cell 4
    have y5 := E1.cell 5
    have y6 := E1.cell 6
    have y7 := E1.cell 7
    simp only [List.getElem?_cons_succ, List.getElem?_cons_zero] at y0 y1 y2 y3 y4 y5 y6 y7
    clear E1
    go_wp2_with fail
    refine HAT.out.mono ?_
    rintro e w1 ⟨y, rfl, hok, hsA, hsB, hb1⟩
    obtain ⟨⟨id, vol, ep, me, jo⟩, A, c, B, d⟩ := y
    simp only [CkM.val, CkM.cells]
    simp only [] at hsA hsB hok
    have HBW := hide (HBD.out.trans (hb1.mono HBD.out.size))
    have E := hide (HDD.out.below hb1)
    have HSA := hide (hsA.below hb1)
    have HSB := hide (hsB.below hb1)
    have HOK := hide hok
    have hlt1 : w.heap.size < w1.heap.size := E.out.lt
    have e3 : w1.cell? ⟨w.heap.size, 3, none⟩ = some (.int .i64 c0) := E.out.cell 3
    clear hsA hsB hb1 y0 y1 y2 y3 y4 y5 y6 y7 hok
    go_wp2
    go_ret
    rw [HE.out]
    exact H.out.stay (HBW.out.alloc HBW.out.size _) rfl
  | true =>
    cases hr : S.at_ a0 b0 with
    | error n =>
      have HE : Hid (S.join ⟨k0, a0, b0, c0, ⟨qr, qw, ql, qb⟩⟩ = (S, n)) := hide (by
        unfold Vst.join
        simp only [hr]
        rw [HT.out]
        rfl)
      have HAT := hide (hat w0.drew r0.drew)
      simp only [hr, errOf] at HAT
      clear hat
      rcases at_err hr with rfl | rfl
      · clear hr
        go_enter Tryz.func63, Tryz.ntmps63
        go_wp2_with fail
        refine region_lexg (fun w' => Below w0.heap.size w0 w') [] 0 [(2, 0), (2, 1), (2, 2), (0, 3), (2, 4), (0, 5), (0, 6), (2, 7), (2, 8), (2, 9), (2, 10), (2, 11)] #[true, true, true, true, true, true, true, true, true, true, true, true] (by kernel_rfl) (by kernel_rfl) (by decide) (by kernel_rfl) (by kernel_rfl) (fun _ _ _ _ _ h => h) (by (exact r0.drew)) (fun hS0 => ?_)
        simp only [List.map_cons, List.map_nil, List.getElem?_toArray, List.getElem?_cons_succ, List.getElem?_cons_zero]
        (apply lexg_pure (by rfl); (focus (intro w; go_simp; (try with_reducible rfl); done)); simp only [Act.put, List.setIfInBounds_toArray, List.set_cons_zero, List.set_cons_succ])
        (apply lexg_pure (by rfl); (focus (intro w; go_simp; (try with_reducible rfl); done)); simp only [Act.put, List.setIfInBounds_toArray, List.set_cons_zero, List.set_cons_succ])
        (apply lexg_pure (by rfl); (focus (intro w; go_simp; (try with_reducible rfl); done)); simp only [Act.put, List.setIfInBounds_toArray, List.set_cons_zero, List.set_cons_succ])
        (apply lexg_take (by rfl); (focus (intro w hw; (try dsimp only at hw); go_simp; (try with_reducible rfl); done)); simp only [Act.put, List.setIfInBounds_toArray, List.set_cons_zero, List.set_cons_succ])
        (apply lexg_pure (by rfl); (focus (intro w; go_simp; (try with_reducible rfl); done)); simp only [Act.put, List.setIfInBounds_toArray, List.set_cons_zero, List.set_cons_succ])
        (apply lexg_take (by rfl); (focus (intro w hw; (try dsimp only at hw); go_simp; (try with_reducible rfl); done)); simp only [Act.put, List.setIfInBounds_toArray, List.set_cons_zero, List.set_cons_succ])
        (apply lexg_take (by rfl); (focus (intro w hw; (try dsimp only at hw); go_simp; (try with_reducible rfl); done)); simp only [Act.put, List.setIfInBounds_toArray, List.set_cons_zero, List.set_cons_succ])
        (apply lexg_pure (by rfl); (focus (intro w; go_simp; (try with_reducible rfl); done)); simp only [Act.put, List.setIfInBounds_toArray, List.set_cons_zero, List.set_cons_succ])
        (apply lexg_pure (by rfl); (focus (intro w; go_simp; (try with_reducible rfl); done)); simp only [Act.put, List.setIfInBounds_toArray, List.set_cons_zero, List.set_cons_succ])
        (apply lexg_pure (by rfl); (focus (intro w; go_simp; (try with_reducible rfl); done)); simp only [Act.put, List.setIfInBounds_toArray, List.set_cons_zero, List.set_cons_succ])
        (apply lexg_pure (by rfl); (focus (intro w; go_simp; (try with_reducible rfl); done)); simp only [Act.put, List.setIfInBounds_toArray, List.set_cons_zero, List.set_cons_succ])
        (apply lexg_pure (by rfl); (focus (intro w; go_simp; (try with_reducible rfl); done)); simp only [Act.put, List.setIfInBounds_toArray, List.set_cons_zero, List.set_cons_succ])
        refine lexg_nil (fun _ => wpAnyG_done (by kernel_rfl) ?_ _)
        rename_i hunm
        clear hunm hS0 l0 cm x3
        have E1 := HDD.out
        have y0 := E1.cell 0
        have y1 := E1.cell 1
        have y2 := E1.cell 2
        have y3 := E1.cell 3
        have y4 := E1.cell 4
        have y5 := E1.cell 5
        have y6 := E1.cell 6
        have y7 := E1.cell 7
        simp only [List.getElem?_cons_succ, List.getElem?_cons_zero] at y0 y1 y2 y3 y4 y5 y6 y7
        clear E1
        go_wp2_with fail
        refine HAT.out.mono ?_
        rintro e w1 ⟨y, rfl, hok, hsA, hsB, hb1⟩
        obtain ⟨⟨id, vol, ep, me, jo⟩, A, c, B, d⟩ := y
        simp only [CkM.val, CkM.cells]
        simp only [] at hsA hsB hok
        have HBW := hide (HBD.out.trans (hb1.mono HBD.out.size))
        have E := hide (HDD.out.below hb1)
        have HSA := hide (hsA.below hb1)
        have HSB := hide (hsB.below hb1)
        have HOK := hide hok
        have hlt1 : w.heap.size < w1.heap.size := E.out.lt
        have e3 : w1.cell? ⟨w.heap.size, 3, none⟩ = some (.int .i64 c0) := E.out.cell 3
        clear hsA hsB hb1 y0 y1 y2 y3 y4 y5 y6 y7 hok
        go_wp2
        go_ret
        rw [HE.out]
        exact H.out.stay (HBW.out.alloc HBW.out.size _) rfl
      · clear hr
        go_enter Tryz.func63, Tryz.ntmps63
        go_wp2_with fail
        refine region_lexg (fun w' => Below w0.heap.size w0 w') [] 0 [(2, 0), (2, 1), (2, 2), (0, 3), (2, 4), (0, 5), (0, 6), (2, 7), (2, 8), (2, 9), (2, 10), (2, 11)] #[true, true, true, true, true, true, true, true, true, true, true, true] (by kernel_rfl) (by kernel_rfl) (by decide) (by kernel_rfl) (by kernel_rfl) (fun _ _ _ _ _ h => h) (by (exact r0.drew)) (fun hS0 => ?_)
        simp only [List.map_cons, List.map_nil, List.getElem?_toArray, List.getElem?_cons_succ, List.getElem?_cons_zero]
        (apply lexg_pure (by rfl); (focus (intro w; go_simp; (try with_reducible rfl); done)); simp only [Act.put, List.setIfInBounds_toArray, List.set_cons_zero, List.set_cons_succ])
        (apply lexg_pure (by rfl); (focus (intro w; go_simp; (try with_reducible rfl); done)); simp only [Act.put, List.setIfInBounds_toArray, List.set_cons_zero, List.set_cons_succ])
        (apply lexg_pure (by rfl); (focus (intro w; go_simp; (try with_reducible rfl); done)); simp only [Act.put, List.setIfInBounds_toArray, List.set_cons_zero, List.set_cons_succ])
        (apply lexg_take (by rfl); (focus (intro w hw; (try dsimp only at hw); go_simp; (try with_reducible rfl); done)); simp only [Act.put, List.setIfInBounds_toArray, List.set_cons_zero, List.set_cons_succ])
        (apply lexg_pure (by rfl); (focus (intro w; go_simp; (try with_reducible rfl); done)); simp only [Act.put, List.setIfInBounds_toArray, List.set_cons_zero, List.set_cons_succ])
        (apply lexg_take (by rfl); (focus (intro w hw; (try dsimp only at hw); go_simp; (try with_reducible rfl); done)); simp only [Act.put, List.setIfInBounds_toArray, List.set_cons_zero, List.set_cons_succ])
        (apply lexg_take (by rfl); (focus (intro w hw; (try dsimp only at hw); go_simp; (try with_reducible rfl); done)); simp only [Act.put, List.setIfInBounds_toArray, List.set_cons_zero, List.set_cons_succ])
        (apply lexg_pure (by rfl); (focus (intro w; go_simp; (try with_reducible rfl); done)); simp only [Act.put, List.setIfInBounds_toArray, List.set_cons_zero, List.set_cons_succ])
        (apply lexg_pure (by rfl); (focus (intro w; go_simp; (try with_reducible rfl); done)); simp only [Act.put, List.setIfInBounds_toArray, List.set_cons_zero, List.set_cons_succ])
        (apply lexg_pure (by rfl); (focus (intro w; go_simp; (try with_reducible rfl); done)); simp only [Act.put, List.setIfInBounds_toArray, List.set_cons_zero, List.set_cons_succ])
        (apply lexg_pure (by rfl); (focus (intro w; go_simp; (try with_reducible rfl); done)); simp only [Act.put, List.setIfInBounds_toArray, List.set_cons_zero, List.set_cons_succ])
        (apply lexg_pure (by rfl); (focus (intro w; go_simp; (try with_reducible rfl); done)); simp only [Act.put, List.setIfInBounds_toArray, List.set_cons_zero, List.set_cons_succ])
        refine lexg_nil (fun _ => wpAnyG_done (by kernel_rfl) ?_ _)
        rename_i hunm
        clear hunm hS0 l0 cm x3
        have E1 := HDD.out
        have y0 := E1.cell 0
        have y1 := E1.cell 1
        have y2 := E1.cell 2
        have y3 := E1.cell 3
        have y4 := E1.cell 4
        have y5 := E1.cell 5
        have y6 := E1.cell 6
        have y7 := E1.cell 7
        simp only [List.getElem?_cons_succ, List.getElem?_cons_zero] at y0 y1 y2 y3 y4 y5 y6 y7
        clear E1
        go_wp2_with fail
        refine HAT.out.mono ?_
        rintro e w1 ⟨y, rfl, hok, hsA, hsB, hb1⟩
        obtain ⟨⟨id, vol, ep, me, jo⟩, A, c, B, d⟩ := y
        simp only [CkM.val, CkM.cells]
        simp only [] at hsA hsB hok
        have HBW := hide (HBD.out.trans (hb1.mono HBD.out.size))
        have E := hide (HDD.out.below hb1)
        have HSA := hide (hsA.below hb1)
        have HSB := hide (hsB.below hb1)
        have HOK := hide hok
        have hlt1 : w.heap.size < w1.heap.size := E.out.lt
        have e3 : w1.cell? ⟨w.heap.size, 3, none⟩ = some (.int .i64 c0) := E.out.cell 3
        clear hsA hsB hb1 y0 y1 y2 y3 y4 y5 y6 y7 hok
        go_wp2
        go_ret
        rw [HE.out]
        exact H.out.stay (HBW.out.alloc HBW.out.size _) rfl
    | ok k =>
      have HAT := hide (hat w0.drew r0.drew)
      simp only [hr, errOf] at HAT
      have HR := hide hr
      clear hr hat
      go_enter Tryz.func63, Tryz.ntmps63
      go_wp2_with fail
      refine region_lexg (fun w' => Below w0.heap.size w0 w') [] 0 [(2, 0), (2, 1), (2, 2), (0, 3), (2, 4), (0, 5), (0, 6), (2, 7), (2, 8), (2, 9), (2, 10), (2, 11)] #[true, true, true, true, true, true, true, true, true, true, true, true] (by kernel_rfl) (by kernel_rfl) (by decide) (by kernel_rfl) (by kernel_rfl) (fun _ _ _ _ _ h => h) (by (exact r0.drew)) (fun hS0 => ?_)
      simp only [List.map_cons, List.map_nil, List.getElem?_toArray, List.getElem?_cons_succ, List.getElem?_cons_zero]
      (apply lexg_pure (by rfl); (focus (intro w; go_simp; (try with_reducible rfl); done)); simp only [Act.put, List.setIfInBounds_toArray, List.set_cons_zero, List.set_cons_succ])
      (apply lexg_pure (by rfl); (focus (intro w; go_simp; (try with_reducible rfl); done)); simp only [Act.put, List.setIfInBounds_toArray, List.set_cons_zero, List.set_cons_succ])
      (apply lexg_pure (by rfl); (focus (intro w; go_simp; (try with_reducible rfl); done)); simp only [Act.put, List.setIfInBounds_toArray, List.set_cons_zero, List.set_cons_succ])
      (apply lexg_take (by rfl); (focus (intro w hw; (try dsimp only at hw); go_simp; (try with_reducible rfl); done)); simp only [Act.put, List.setIfInBounds_toArray, List.set_cons_zero, List.set_cons_succ])
      (apply lexg_pure (by rfl); (focus (intro w; go_simp; (try with_reducible rfl); done)); simp only [Act.put, List.setIfInBounds_toArray, List.set_cons_zero, List.set_cons_succ])
      (apply lexg_take (by rfl); (focus (intro w hw; (try dsimp only at hw); go_simp; (try with_reducible rfl); done)); simp only [Act.put, List.setIfInBounds_toArray, List.set_cons_zero, List.set_cons_succ])
      (apply lexg_take (by rfl); (focus (intro w hw; (try dsimp only at hw); go_simp; (try with_reducible rfl); done)); simp only [Act.put, List.setIfInBounds_toArray, List.set_cons_zero, List.set_cons_succ])
      (apply lexg_pure (by rfl); (focus (intro w; go_simp; (try with_reducible rfl); done)); simp only [Act.put, List.setIfInBounds_toArray, List.set_cons_zero, List.set_cons_succ])
      (apply lexg_pure (by rfl); (focus (intro w; go_simp; (try with_reducible rfl); done)); simp only [Act.put, List.setIfInBounds_toArray, List.set_cons_zero, List.set_cons_succ])
      (apply lexg_pure (by rfl); (focus (intro w; go_simp; (try with_reducible rfl); done)); simp only [Act.put, List.setIfInBounds_toArray, List.set_cons_zero, List.set_cons_succ])
      (apply lexg_pure (by rfl); (focus (intro w; go_simp; (try with_reducible rfl); done)); simp only [Act.put, List.setIfInBounds_toArray, List.set_cons_zero, List.set_cons_succ])
      (apply lexg_pure (by rfl); (focus (intro w; go_simp; (try with_reducible rfl); done)); simp only [Act.put, List.setIfInBounds_toArray, List.set_cons_zero, List.set_cons_succ])
      refine lexg_nil (fun _ => wpAnyG_done (by kernel_rfl) ?_ _)
      rename_i hunm
      clear hunm hS0 l0 cm x3
      have E1 := HDD.out
      have y0 := E1.cell 0
      have y1 := E1.cell 1
      have y2 := E1.cell 2
      have y3 := E1.cell 3
      have y4 := E1.cell 4
      have y5 := E1.cell 5
      have y6 := E1.cell 6
      have y7 := E1.cell 7
      simp only [List.getElem?_cons_succ, List.getElem?_cons_zero] at y0 y1 y2 y3 y4 y5 y6 y7
      clear E1
      go_wp2_with fail
      refine HAT.out.mono ?_
      rintro e w1 ⟨y, rfl, hok, hsA, hsB, hb1⟩
      obtain ⟨⟨id, vol, ep, me, jo⟩, A, c, B, d⟩ := y
      simp only [CkM.val, CkM.cells]
      simp only [] at hsA hsB hok
      have HBW := hide (HBD.out.trans (hb1.mono HBD.out.size))
      have E := hide (HDD.out.below hb1)
      have HSA := hide (hsA.below hb1)
      have HSB := hide (hsB.below hb1)
      have HOK := hide hok
      have hlt1 : w.heap.size < w1.heap.size := E.out.lt
      have e3 : w1.cell? ⟨w.heap.size, 3, none⟩ = some (.int .i64 c0) := E.out.cell 3
      clear hsA hsB hb1 y0 y1 y2 y3 y4 y5 y6 y7 hok
      have hky := (HOK.out k rfl).1
      subst hky
      have HSAW := hide (H.out.sC _ (fd_some (HOK.out _ rfl).2).1).1
      have d2 : Blk (w1.alloc (.cells #[.int .i64 id, .int .i64 vol, .int .i64 ep, .slice A me.length c, .slice B jo.length d] 89)) w1.heap.size 89 [.int .i64 id, .int .i64 vol, .int .i64 ep, .slice A me.length c, .slice B jo.length d] := Blk.new rfl
      have q2 := (Below.refl w1.heap.size w1).alloc (Nat.le_refl _) (.cells #[.int .i64 id, .int .i64 vol, .int .i64 ep, .slice A me.length c, .slice B jo.length d] 89)
      have d1' := E.out.below q2
      have hb2 := HBW.out.trans (q2.mono HBW.out.size)
      have sA2 := HSA.out.below q2
      have sB2 := HSB.out.below q2
      obtain ⟨w2, hw2⟩ : ∃ w2, w1.alloc (.cells #[.int .i64 id, .int .i64 vol, .int .i64 ep, .slice A me.length c, .slice B jo.length d] 89) = w2 := ⟨_, rfl⟩
      rw [hw2] at d2 d1' hb2 sA2 sB2
      have HSA2 := hide sA2
      have HSB2 := hide sB2
      have HB2 := hide hb2
      have HD1 := hide d1'
      have HD2 := hide d2
      have HW2 := hide hw2
      have HWB := hide (show w.heap.size ≤ w1.heap.size from HBW.out.size)
      clear d2 d1' hb2 sA2 sB2 hw2 q2
      go_wp2_with fail
      rw [show w1.alloc (.cells #[.int .i64 id, .int .i64 vol, .int .i64 ep, .slice A me.length c, .slice B jo.length d] 89) = w2 from HW2.out]
      refine (vhas_calls ⟨⟨id, vol, ep, me, jo⟩, A, c, B, d⟩ c0 no w2 HSA2.out HSB2.out).mono ?_
      rintro e w3 ⟨rfl, hb3⟩
      have HB3 := hide (HB2.out.trans (hb3.mono HB2.out.size))
      have HD13 := hide (HD1.out.below hb3)
      have HD23 := hide (HD2.out.below hb3)
      have HSA3 := hide (HSA2.out.below hb3)
      have HSB3 := hide (HSB2.out.below hb3)
      clear hb3 hlt1 e3
      cases hhas : (⟨id, vol, ep, me, jo⟩ : Ck).has c0 with
      | true =>
        have HE : Hid (S.join ⟨k0, a0, b0, c0, ⟨qr, qw, ql, qb⟩⟩ = (S, 8)) := hide (by
          unfold Vst.join
          simp only [HR.out, hhas]
          rw [HT.out]
          rfl)
        have HHAS := hide hhas
        clear hhas
        go_wp2
        go_ret
        rw [HE.out]
        exact H.out.stay HB3.out rfl
      | false =>
        have v3 : w3.cell? ⟨w1.heap.size, 3, none⟩ = some (.slice A me.length c) := HD23.out.cell 3
        have v4 : w3.cell? ⟨w1.heap.size, 4, none⟩ = some (.slice B jo.length d) := HD23.out.cell 4
        have hln1 := HSA3.out.ln
        have hln2 := HSB3.out.ln
        by_cases hfull : 4 ≤ me.length + jo.length
        · have HE : Hid (S.join ⟨k0, a0, b0, c0, ⟨qr, qw, ql, qb⟩⟩ = (S, 6)) := hide (by
            unfold Vst.join
            simp only [HR.out, hhas]
            rw [HT.out]
            simp [hfull])
          have HHAS := hide hhas
          have i1 : (4 : Int) ≤ me.length + jo.length := by omega
          clear hhas hfull
          go_wp2
          go_ret
          rw [HE.out]
          exact H.out.stay HB3.out rfl
        · have HE : Hid (S.join ⟨k0, a0, b0, c0, ⟨qr, qw, ql, qb⟩⟩ = (S.turn ⟨id, vol, ep, me, jo ++ [c0]⟩, 0)) := hide (by
            unfold Vst.join
            simp only [HR.out, hhas]
            rw [HT.out]
            simp [hfull])
          have HHAS := hide hhas
          have HFU := hide hfull
          have i1 : ¬ ((4 : Int) ≤ me.length + jo.length) := by omega
          clear hhas hfull
          have r3 := Below.refl w3.heap.size w3
          have x3' : ∀ w', Below w3.heap.size w3 w' → w'.cell? ⟨w.heap.size, 3, none⟩ = some (.int .i64 c0) := HD13.out.rule 3 _ rfl
          have u4 := HD23.out.rule 4 _ rfl
          have z4 : ∀ w', Below w3.heap.size w3 w' → w'.frozen? ⟨w1.heap.size, 4, none⟩ = false := fun w' hb => (HD23.out.below hb).frozen 4
          have HCM : Hid (∀ w', Below w3.heap.size w3 w' → Calls Tryz.prog 54 #[.slice B jo.length d] w' fun e w'' => ∃ A' c', e = .returned (.slice A' jo.length c') ∧ OwnI w3 w'' A' c' jo ∧ Below w3.heap.size w3 w'' ∧ Below w'.heap.size w' w'') := hide (fun w' hb =>
            (cloneI_calls _ jo.length d jo no w' rfl (HSB3.out.below hb)).mono fun e w'' ⟨A', c', he, hm, hb2⟩ => ⟨A', c', he, hm.back hb, hb.trans (hb2.mono hb.size), hb2⟩)
          go_wp2_with fail
          refine region_lexg (fun w' => Below w3.heap.size w3 w') [8] 5 [(2, 0), (0, 1), (2, 3), (0, 4)] #[true, true, false, true, true, false, false, false, false] (by kernel_rfl) (by kernel_rfl) (by decide) (by kernel_rfl) (by kernel_rfl) (fun _ _ _ _ _ h => h) (by (first | exact r3.drew | exact (r3.alloc (Nat.le_refl _) _).drew | exact HB4A.out | assumption)) (fun hS0 => ?_)
          simp only [List.map_cons, List.map_nil, List.getElem?_toArray, List.getElem?_cons_succ, List.getElem?_cons_zero]
          (apply lexg_pure (by rfl); (focus (intro w; go_simp; (try with_reducible rfl); done)); simp only [Act.put, List.setIfInBounds_toArray, List.set_cons_zero, List.set_cons_succ])
          (apply lexg_take (by rfl); (focus (intro w hw; (try dsimp only at hw); go_simp; (try with_reducible rfl); done)); simp only [Act.put, List.setIfInBounds_toArray, List.set_cons_zero, List.set_cons_succ])
          (apply lexg_pure (by rfl); (focus (intro w; go_simp; (try with_reducible rfl); done)); simp only [Act.put, List.setIfInBounds_toArray, List.set_cons_zero, List.set_cons_succ])
          (apply lexg_take (by rfl); (focus (intro w hw; (try dsimp only at hw); go_simp; (try with_reducible rfl); done)); simp only [Act.put, List.setIfInBounds_toArray, List.set_cons_zero, List.set_cons_succ])
          refine lexg_nil (fun hS2 => ?_)
          refine lexg_fork2 (i := 2) (j := 5) (by kernel_rfl) (by kernel_rfl : _ = #[true, true, true, true, true, false, false, false, false]) (by kernel_rfl : _ = #[true, true, false, true, true, true, false, false, false]) ?_ ?_
          focus
            apply lexg_act (by simp only [List.getElem?_toArray, List.getElem?_cons_succ, List.getElem?_cons_zero]; rfl) (by rfl)
            go_simp
            ((go_at_call 54; with_reducible refine (HCM.out _ (by first | exact r3.drew | exact (r3.alloc (Nat.le_refl _) _).drew)).mono ?_; rintro e w4 ⟨A4, c4, rfl, hm4, hb4, hb4'⟩; have HM4 := hide (And.intro hm4 hb4'); clear hb4'; have HB4A := hide (hb4.alloc hb4.size (.cells #[.int .i64 c0] 3)); clear hm4))
            refine lexg_both (by (first | exact r3.drew | exact (r3.alloc (Nat.le_refl _) _).drew | exact HB4A.out | assumption)) (fun hS1 => ?_)
            refine lexg_more 0 [(1, 5), (1, 6), (2, 7), (3, 8)] #[true, true, true, true, true, true, true, true, true] (by kernel_rfl) (by decide) (by kernel_rfl) (by kernel_rfl) (fun _ _ _ _ _ h => h) (fun _ => by assumption) ?_
            simp only [List.map_cons, List.map_nil, List.getElem?_toArray, List.getElem?_cons_succ, List.getElem?_cons_zero]
            (refine lexg_eff (by rfl) ?_; go_simp; refine lexg_both (by (first | exact r3.drew | exact (r3.alloc (Nat.le_refl _) _).drew | exact HB4A.out | assumption)) (fun hS1 => ?_))
            (refine lexg_eff (by rfl) ?_; (first | (refine app_wp _ _ 35 rfl 3 i0 _ 1 8 Tryz.underlying35 hi hz0 hz1 hz2 rfl (by decide) (.slice A4 jo.length c4) jo.length (jo.map (Value.int .i64)) rfl (own_chg HM4.out.1.1 (Chg.of_below (L := []) ((Below.refl _ _).alloc (Nat.le_refl _) _)) (fun _ _ hx => by cases hx)) w4.heap.size 1 1 [.int .i64 c0] rfl (Blk.new rfl) rfl (by intro u hu; simp at hu; subst hu; rfl) (by decide) (by have := hln2; unfold maxLen; omega) (by have := hln2; omega) ?_; intro g2 cap2 w45 hown hch hor hlt; rw [ownBlock_slice] at hch hor; have hb45 : Below w3.heap.size w3 w45 := Chg.onto HB4A.out HB4A.out.size hch (fun x hx => HM4.out.1.2 x (by simpa using hx)); have HM45 := hide (OwnI.push HM4.out.1 hown (hor.imp (fun h => h) (fun h => by have := HB4A.out.size; omega))); clear hown hch hor hlt) | (refine app_wp _ _ 35 rfl 3 i0 _ 1 8 Tryz.underlying35 hi hz0 hz1 hz2 rfl (by decide) (.slice A4 jo.length c4) jo.length (jo.map (Value.int .i64)) rfl HM4.out.1.1 w3.heap.size 1 1 [.int .i64 c0] rfl (Blk.below (w := (w3.alloc (.cells #[.int .i64 c0] 3)).drew) (Blk.new rfl) HM4.out.2) rfl (by intro u hu; simp at hu; subst hu; rfl) (by decide) (by have := hln2; unfold maxLen; omega) (by have := hln2; omega) ?_; intro g2 cap2 w45 hown hch hor hlt; rw [ownBlock_slice] at hch hor; have hb45 : Below w3.heap.size w3 w45 := Chg.onto hb4 hb4.size hch (fun x hx => HM4.out.1.2 x (by simpa using hx)); have HM45 := hide (OwnI.push HM4.out.1 hown (hor.imp (fun h => h) (fun h => by have := hb4.size; omega))); clear hown hch hor hlt)); simp only [Act.put, List.setIfInBounds_toArray, List.set_cons_zero, List.set_cons_succ]; refine lexg_both (by (first | exact r3.drew | exact (r3.alloc (Nat.le_refl _) _).drew | exact HB4A.out | assumption)) (fun hS1 => ?_))
            (apply lexg_pure (by rfl); (focus (intro w; go_simp; (try with_reducible rfl); done)); simp only [Act.put, List.setIfInBounds_toArray, List.set_cons_zero, List.set_cons_succ])
            (refine lexg_effN (by rfl) ?_; go_simp)
            refine lexg_nil (fun _ => wpAnyG_done (by kernel_rfl) ?_ _)
          rotate_left
          focus
            apply lexg_act (by simp only [List.getElem?_toArray, List.getElem?_cons_succ, List.getElem?_cons_zero]; rfl) (by rfl)
            go_simp
            refine lexg_both (by (first | exact r3.drew | exact (r3.alloc (Nat.le_refl _) _).drew | exact HB4A.out | assumption)) (fun hS1 => ?_)
            refine lexg_more 0 [(1, 2), (1, 6), (2, 7), (3, 8)] #[true, true, true, true, true, true, true, true, true] (by kernel_rfl) (by decide) (by kernel_rfl) (by kernel_rfl) (fun _ _ _ _ _ h => h) (fun _ => by assumption) ?_
            simp only [List.map_cons, List.map_nil, List.getElem?_toArray, List.getElem?_cons_succ, List.getElem?_cons_zero]
            (refine lexg_eff (by rfl) ?_; go_simp; ((go_at_call 54; with_reducible refine (HCM.out _ (by first | exact r3.drew | exact (r3.alloc (Nat.le_refl _) _).drew)).mono ?_; rintro e w4 ⟨A4, c4, rfl, hm4, hb4, hb4'⟩; have HM4 := hide (And.intro hm4 hb4'); clear hb4'; have HB4A := hide (hb4.alloc hb4.size (.cells #[.int .i64 c0] 3)); clear hm4)); refine lexg_both (by (first | exact r3.drew | exact (r3.alloc (Nat.le_refl _) _).drew | exact HB4A.out | assumption)) (fun hS1 => ?_))
            (refine lexg_eff (by rfl) ?_; (first | (refine app_wp _ _ 35 rfl 3 i0 _ 1 8 Tryz.underlying35 hi hz0 hz1 hz2 rfl (by decide) (.slice A4 jo.length c4) jo.length (jo.map (Value.int .i64)) rfl (own_chg HM4.out.1.1 (Chg.of_below (L := []) ((Below.refl _ _).alloc (Nat.le_refl _) _)) (fun _ _ hx => by cases hx)) w4.heap.size 1 1 [.int .i64 c0] rfl (Blk.new rfl) rfl (by intro u hu; simp at hu; subst hu; rfl) (by decide) (by have := hln2; unfold maxLen; omega) (by have := hln2; omega) ?_; intro g2 cap2 w45 hown hch hor hlt; rw [ownBlock_slice] at hch hor; have hb45 : Below w3.heap.size w3 w45 := Chg.onto HB4A.out HB4A.out.size hch (fun x hx => HM4.out.1.2 x (by simpa using hx)); have HM45 := hide (OwnI.push HM4.out.1 hown (hor.imp (fun h => h) (fun h => by have := HB4A.out.size; omega))); clear hown hch hor hlt) | (refine app_wp _ _ 35 rfl 3 i0 _ 1 8 Tryz.underlying35 hi hz0 hz1 hz2 rfl (by decide) (.slice A4 jo.length c4) jo.length (jo.map (Value.int .i64)) rfl HM4.out.1.1 w3.heap.size 1 1 [.int .i64 c0] rfl (Blk.below (w := (w3.alloc (.cells #[.int .i64 c0] 3)).drew) (Blk.new rfl) HM4.out.2) rfl (by intro u hu; simp at hu; subst hu; rfl) (by decide) (by have := hln2; unfold maxLen; omega) (by have := hln2; omega) ?_; intro g2 cap2 w45 hown hch hor hlt; rw [ownBlock_slice] at hch hor; have hb45 : Below w3.heap.size w3 w45 := Chg.onto hb4 hb4.size hch (fun x hx => HM4.out.1.2 x (by simpa using hx)); have HM45 := hide (OwnI.push HM4.out.1 hown (hor.imp (fun h => h) (fun h => by have := hb4.size; omega))); clear hown hch hor hlt)); simp only [Act.put, List.setIfInBounds_toArray, List.set_cons_zero, List.set_cons_succ]; refine lexg_both (by (first | exact r3.drew | exact (r3.alloc (Nat.le_refl _) _).drew | exact HB4A.out | assumption)) (fun hS1 => ?_))
            (apply lexg_pure (by rfl); (focus (intro w; go_simp; (try with_reducible rfl); done)); simp only [Act.put, List.setIfInBounds_toArray, List.set_cons_zero, List.set_cons_succ])
            (refine lexg_effN (by rfl) ?_; go_simp)
            refine lexg_nil (fun _ => wpAnyG_done (by kernel_rfl) ?_ _)
          rotate_left
          all_goals
            rename_i hunm
            clear hunm
            have hid := (fd_some (at_fd HR.out)).2
            have hin := HN.out.2 _ (fd_some (at_fd HR.out)).1
            simp only [] at hid hin
            have hw13 : w1.heap.size < w3.heap.size := HD23.out.lt
            have D6 := (HD23.out.below hb45).set 4 (.slice (some ⟨g2, 0, none⟩) (jo.length + 1) cap2)
            have hc6 : Chg [w1.heap.size] w45 (w45.setCell ⟨w1.heap.size, 4, none⟩ (.slice (some ⟨g2, 0, none⟩) (jo.length + 1) cap2)) := (Chg.refl _ _).setCell (Or.inl (by simp)) _
            have hb35 := HB3.out.trans (hb45.mono HB3.out.size)
            have hb6 := Chg.onto hb35 hb35.size hc6 (fun x hx => by rw [List.mem_singleton.1 hx]; exact HWB.out)
            have M5 := HM45.out.chg hc6 (fun x hx => by rw [List.mem_singleton.1 hx]; exact hw13)
            obtain ⟨w6, hw6⟩ : ∃ w6, w45.setCell ⟨w1.heap.size, 4, none⟩ (.slice (some ⟨g2, 0, none⟩) (jo.length + 1) cap2) = w6 := ⟨_, rfl⟩
            rw [hw6] at D6 hb6 M5
            rw [hw6]
            simp only [List.set_cons_zero, List.set_cons_succ] at D6
            have hnl : ∀ x ∈ no, x < w3.heap.size := fun x hx => Nat.lt_of_lt_of_le (H.out.lt x hx) HB3.out.size
            have hT := vturn_calls w6 no b m1 m2 m3 S V C ⟨⟨id, vol, ep, me, jo ++ [c0]⟩, A, c, (some ⟨g2, 0, none⟩), cap2⟩ (H.out.below hb6) (HSAW.out.below hb6) (M5.sl (by have := HFU.out; simp; omega) hnl) (by simp only []; rw [hid]; exact hqa.out) hin.1 hin.2 HN.out.1
            simp only [CkM.val, CkM.cells, List.length_append, List.length_singleton] at hT
            have HT2 := hide hT
            have HB6 := hide hb6
            have u0 := D6.cell 0
            have u1 := D6.cell 1
            have u2 := D6.cell 2
            have u3 := D6.cell 3
            have u4 := D6.cell 4
            simp only [List.getElem?_cons_succ, List.getElem?_cons_zero] at u0 u1 u2 u3 u4
            have HW6 := hide hw6
            clear hT hb6 D6 hc6 hb35 M5 hw6 hnl hid hin hw13
            go_wp2_with fail
            refine HT2.out.mono ?_
            rintro e w7 ⟨rfl, hcg, hvm⟩
            have HF := hide (And.intro hcg hvm)
            clear hcg hvm
            go_wp2
            go_ret
            rw [HE.out]
            exact ⟨rfl, (Chg.of_below (L := [b, m1, m2, m3]) HB6.out).trans HF.out.1 (fun x hx => Or.inl hx), HF.out.2⟩
end Go.Proofs.YtanfdnpnkdiiiaaGreat
