/- The walks through sched.stand, Set. -/
import Derived.Test.YtjdkafamaoeifaaSch
namespace Go.Proofs.Ytjdkafamaoeifaa
open Go.RowKit Go.Proofs Go.Maps
set_option linter.unusedVariables false
set_option linter.unusedSimpArgs false

theorem mem_setL {L : List Ld} {x y : Ld} : y ∈ setL L x ↔ (y ∈ L ∧ y.id ≠ x.id) ∨ y = x := by
  unfold setL
  simp [List.mem_append, List.mem_filter]
theorem has_or (M : List Ld) (k : Int) : (∃ i, i < M.length ∧ (gt M i).id = k) ∨ ∀ y ∈ M, y.id ≠ k := by
  by_cases h : ∃ i, i < M.length ∧ (gt M i).id = k
  · exact Or.inl h
  · refine Or.inr fun y hy e => h ?_
    obtain ⟨i, hi, rfl⟩ := List.mem_iff_getElem.1 hy
    exact ⟨i, hi, by rw [gt_get hi]; exact e⟩
theorem outL_none {L : List Ld} {k : Int} (h : ∀ y ∈ L, y.id ≠ k) : outL L k = L := List.filter_eq_self.2 fun y hy => by simpa using h y hy
theorem hdrop_calls (p : Pl) (L : List Ld) (F : List Nat) (k : Int) (w : World) (h : HeapAt w p L F) (hids : ∀ y ∈ L, i64ok y.id) (hk : i64ok k) (hL : L.length ≤ 1000) :
    Calls Try.prog 60 #[.pointer (some ⟨p.b, p.o, none⟩), .int .i64 k] w fun e w' => ∃ b L', e = .returned (.bool b) ∧ HeapAt w' p L' F ∧ L'.Perm (outL L k) ∧ Chg F w w' := by
  rcases has_or L k with ⟨i, hi, rfl⟩ | hno
  · exact (drop_calls p L F i w h hids hi hL).mono fun e w' ⟨he, L', h1, h2, h3⟩ => ⟨true, L', he, h1, h2, h3⟩
  · refine (drop_no p L F k w h hk hno).mono fun e w' ⟨he, hw⟩ => ?_
    subst hw
    exact ⟨false, L, he, h, by rw [outL_none hno], Chg.refl _ _⟩
/-- what a heap holds behind 'stand' -/
def standL (L : List Ld) (q : List It) (id k : Int) : List Ld := if q = [] then outL L id else setL L ⟨id, k⟩
def StandOut (w : World) (ps bm : Nat) (Ms : List Fm) (LR LW : List Ld) (FR FW : List Nat) (i : Nat) (m : Fm) (e : Ending) (w' : World) : Prop :=
  e = .returned (.tuple #[]) ∧ ∃ role' LR' LW' svR mvR svW mvW FR' FW', SM w' ps bm role' Ms LR' LW' svR mvR svW mvW FR' FW' ∧ LR'.Perm (standL LR m.f.q m.f.id m.f.c.r) ∧ LW'.Perm (standL LW m.f.q m.f.id m.f.c.p) ∧
    Chg (ps :: FR ++ FW) w w' ∧ (∀ z ∈ FR', z ∈ FR ∨ w.heap.size ≤ z) ∧ (∀ z ∈ FW', z ∈ FW ∨ w.heap.size ≤ z)
set_option maxHeartbeats 4000000 in
set_option maxRecDepth 100000 in
theorem stand_calls (w : World) (ps bm : Nat) (role : Nat → Int) (Ms : List Fm) (LR LW : List Ld) (svR mvR svW mvW : Value) (FR FW : List Nat) (i : Nat) (m : Fm)
    (h : SM w ps bm role Ms LR LW svR mvR svW mvW FR FW) (hi : i < Ms.length) (hm : Ms[i] = m) (hLR : LR.length ≤ 900) (hLW : LW.length ≤ 900) (hkR : ∀ y ∈ LR, i64ok y.id) (hkW : ∀ y ∈ LW, i64ok y.id) :
    Calls Try.prog 38 #[.pointer (some ⟨ps, 0, none⟩), .int .i64 m.f.id] w (StandOut w ps bm Ms LR LW FR FW i m) := by
  have hmm : m ∈ Ms := by rw [← hm]; exact List.getElem_mem hi
  have hok : i64ok m.f.id := ⟨by have := (h.rF m hmm).1; omega, (h.rF m hmm).2.1⟩
  have lk := h.map.look hok
  have hl := look_at h.nd hi
  rw [hm] at hl
  rw [hl] at lk
  rw [show pv (some m.b) = .pointer (some ⟨m.b, 0, none⟩) from rfl] at lk
  obtain ⟨A, cap, hq, hqc, _⟩ := (h.fl m hmm).2.form
  have c0 : ∀ w', Below w.heap.size w w' → w'.cell? ⟨ps, 0, none⟩ = some (.map (some bm)) := h.blk.rule 0 _ rfl
  have m5 : ∀ w', Below w.heap.size w w' → w'.cell? ⟨m.b, 5, none⟩ = some (.int .i64 m.f.c.r) := (h.fl m hmm).1.rule 5 _ rfl
  have m6 : ∀ w', Below w.heap.size w w' → w'.cell? ⟨m.b, 6, none⟩ = some (.int .i64 m.f.c.p) := (h.fl m hmm).1.rule 6 _ rfl
  have m8 : ∀ w', Below w.heap.size w w' → w'.cell? ⟨m.b, 8, none⟩ = some (.slice A m.f.q.length cap) := by
    have := (h.fl m hmm).1.rule 8 _ rfl
    rw [hq] at this
    exact this
  have r0 := Below.refl w.heap.size w
  have d0 := c0 w r0
  have d8 := m8 w r0
  have h0 := h
  have H := hide h
  have HMM := hide hmm
  clear hq hl h hm hi
  by_cases hq0 : m.f.q = []
  · have e0 : ((m.f.q.length : Int) == 0) = true := by rw [hq0]; rfl
    have HQ := hide hq0
    clear hq0
    go_enter Try.func38, Try.ntmps38
    go_wp2_with fail
    refine (hdrop_calls (plR ps bm svW mvW) LR (ps :: FR) m.f.id w H.out.atR hkR hok (by omega)).mono ?_
    rintro e w1 ⟨b1, LR1, rfl, hA1, hp1, hc1⟩
    obtain ⟨svR1, mvR1, FR1, h1, hg1⟩ := H.out.heapR hA1 hc1 (fun z hz => Or.inl hz)
    have d1 : w1.cell? ⟨ps, 0, none⟩ = some (.map (some bm)) := h1.blk.cell 0
    have H1 := hide h1
    have C1 := hide hc1
    have P1 := hide hp1
    have G1 := hide hg1
    clear h1 hc1 hp1 hg1 hA1
    go_wp2_with fail
    refine (hdrop_calls (plW ps bm svR1 mvR1) LW (ps :: FW) m.f.id w1 H1.out.atW hkW hok (by omega)).mono ?_
    rintro e w2 ⟨b2, LW1, rfl, hA2, hp2, hc2⟩
    obtain ⟨svW2, mvW2, FW2, h2, hg2⟩ := H1.out.heapW hA2 hc2 (fun z hz => Or.inl hz)
    have H2 := hide h2
    have C2 := hide hc2
    have P2 := hide hp2
    have G2 := hide hg2
    clear h2 hc2 hp2 hg2 hA2
    go_wp2
    go_end0
    exact ⟨rfl, _, LR1, LW1, svR1, mvR1, svW2, mvW2, FR1, FW2, H2.out, by unfold standL; rw [if_pos HQ.out]; exact P1.out, by unfold standL; rw [if_pos HQ.out]; exact P2.out,
      (C1.out.mono (L' := ps :: FR ++ FW) (fun z hz => Or.inl (List.mem_append_left _ hz))).trans C2.out (fun z hz => Or.inl (by
        rcases List.mem_cons.1 hz with rfl | hz
        · exact List.mem_append_left _ (List.mem_cons_self ..)
        · exact List.mem_append_right _ hz)), G1.out, fun z hz => (G2.out z hz).imp id (fun h => Nat.le_trans C1.out.size h)⟩
  · have e0 : ((m.f.q.length : Int) == 0) = false := by
      have := List.length_pos_iff.2 hq0
      simp
      exact hq0
    have HQ := hide hq0
    have SR := hide (fun w' (hb : Below w.heap.size w w') => set_calls (plR ps bm svW mvW) LR (ps :: FR) ⟨m.f.id, m.f.c.r⟩ w' ((h0.below hb).atR) hkR hok (by omega))
    clear hq0
    go_enter Try.func38, Try.ntmps38
    go_wp2_with fail
    refine region_lexg (fun w' => Below w.heap.size w w') [9] 0 [(2, 0), (2, 1), (2, 2), (2, 3), (2, 4), (2, 5), (2, 6), (2, 7), (0, 8), (3, 9)] #[true, true, true, true, true, true, true, true, true, true] (by kernel_rfl) (by kernel_rfl) (by decide) (by kernel_rfl) (by kernel_rfl) (fun _ _ _ _ _ h => h) (by (exact r0.drew)) (fun hS0 => ?_)
    simp only [List.map_cons, List.map_nil, List.getElem?_toArray, List.getElem?_cons_succ, List.getElem?_cons_zero]
    (apply lexg_pure (by rfl); (focus (intro w; go_simp; (try with_reducible rfl); done)); simp only [Act.put, List.setIfInBounds_toArray, List.set_cons_zero, List.set_cons_succ])
    (apply lexg_pure (by rfl); (focus (intro w; go_simp; (try with_reducible rfl); done)); simp only [Act.put, List.setIfInBounds_toArray, List.set_cons_zero, List.set_cons_succ])
    (apply lexg_pure (by rfl); (focus (intro w; go_simp; (try with_reducible rfl); done)); simp only [Act.put, List.setIfInBounds_toArray, List.set_cons_zero, List.set_cons_succ])
    (apply lexg_pure (by rfl); (focus (intro w; go_simp; (try with_reducible rfl); done)); simp only [Act.put, List.setIfInBounds_toArray, List.set_cons_zero, List.set_cons_succ])
    (apply lexg_pure (by rfl); (focus (intro w; go_simp; (try with_reducible rfl); done)); simp only [Act.put, List.setIfInBounds_toArray, List.set_cons_zero, List.set_cons_succ])
    (apply lexg_pure (by rfl); (focus (intro w; go_simp; (try with_reducible rfl); done)); simp only [Act.put, List.setIfInBounds_toArray, List.set_cons_zero, List.set_cons_succ])
    (apply lexg_pure (by rfl); (focus (intro w; go_simp; (try with_reducible rfl); done)); simp only [Act.put, List.setIfInBounds_toArray, List.set_cons_zero, List.set_cons_succ])
    (apply lexg_pure (by rfl); (focus (intro w; go_simp; (try with_reducible rfl); done)); simp only [Act.put, List.setIfInBounds_toArray, List.set_cons_zero, List.set_cons_succ])
    (apply lexg_take (by rfl); (focus (intro w hw; (try dsimp only at hw); go_simp; (try with_reducible rfl); done)); simp only [Act.put, List.setIfInBounds_toArray, List.set_cons_zero, List.set_cons_succ])
    (refine lexg_effN (by rfl) ?_; (go_simp; go_at_call 61; (refine (SR.out _ r0.drew).mono ?_); rintro e w1 ⟨rfl, LR1, F1, hA1, hp1, hc1, hg1⟩); simp only [Act.put, List.setIfInBounds_toArray, List.set_cons_zero, List.set_cons_succ])
    refine lexg_nil (fun _ => wpAnyG_done (by kernel_rfl) ?_ _)
    have hc1' : Chg (ps :: FR) w w1 := (Chg.refl _ w).drew.same hc1
    have hg1' : ∀ z ∈ F1, z ∈ ps :: FR ∨ w.heap.size ≤ z := hg1
    obtain ⟨svR1, mvR1, FR1, h1, hg1⟩ := H.out.heapR hA1 hc1' hg1'
    have d1 : ∀ w', Below w1.heap.size w1 w' → w'.cell? ⟨ps, 0, none⟩ = some (.map (some bm)) := h1.blk.rule 0 _ rfl
    have n6 : ∀ w', Below w1.heap.size w1 w' → w'.cell? ⟨m.b, 6, none⟩ = some (.int .i64 m.f.c.p) := (h1.fl m HMM.out).1.rule 6 _ rfl
    have SW := hide (fun w' (hb : Below w1.heap.size w1 w') => set_calls (plW ps bm svR1 mvR1) LW (ps :: FW) ⟨m.f.id, m.f.c.p⟩ w' ((h1.below hb).atW) hkW hok (by omega))
    have r1 := Below.refl w1.heap.size w1
    have H1 := hide h1
    have C1 := hide hc1'
    have P1 := hide hp1
    have G1 := hide hg1
    clear h1 hc1 hp1 hg1 hA1 hc1' hg1' h0 SR
    go_wp2_with fail
    refine region_lexg (fun w' => Below w1.heap.size w1 w') [9] 0 [(2, 0), (2, 1), (2, 2), (2, 3), (2, 4), (2, 5), (2, 6), (2, 7), (0, 8), (3, 9)] #[true, true, true, true, true, true, true, true, true, true] (by kernel_rfl) (by kernel_rfl) (by decide) (by kernel_rfl) (by kernel_rfl) (fun _ _ _ _ _ h => h) (by (exact r1.drew)) (fun hS0 => ?_)
    simp only [List.map_cons, List.map_nil, List.getElem?_toArray, List.getElem?_cons_succ, List.getElem?_cons_zero]
    (apply lexg_pure (by rfl); (focus (intro w; go_simp; (try with_reducible rfl); done)); simp only [Act.put, List.setIfInBounds_toArray, List.set_cons_zero, List.set_cons_succ])
    (apply lexg_pure (by rfl); (focus (intro w; go_simp; (try with_reducible rfl); done)); simp only [Act.put, List.setIfInBounds_toArray, List.set_cons_zero, List.set_cons_succ])
    (apply lexg_pure (by rfl); (focus (intro w; go_simp; (try with_reducible rfl); done)); simp only [Act.put, List.setIfInBounds_toArray, List.set_cons_zero, List.set_cons_succ])
    (apply lexg_pure (by rfl); (focus (intro w; go_simp; (try with_reducible rfl); done)); simp only [Act.put, List.setIfInBounds_toArray, List.set_cons_zero, List.set_cons_succ])
    (apply lexg_pure (by rfl); (focus (intro w; go_simp; (try with_reducible rfl); done)); simp only [Act.put, List.setIfInBounds_toArray, List.set_cons_zero, List.set_cons_succ])
    (apply lexg_pure (by rfl); (focus (intro w; go_simp; (try with_reducible rfl); done)); simp only [Act.put, List.setIfInBounds_toArray, List.set_cons_zero, List.set_cons_succ])
    (apply lexg_pure (by rfl); (focus (intro w; go_simp; (try with_reducible rfl); done)); simp only [Act.put, List.setIfInBounds_toArray, List.set_cons_zero, List.set_cons_succ])
    (apply lexg_pure (by rfl); (focus (intro w; go_simp; (try with_reducible rfl); done)); simp only [Act.put, List.setIfInBounds_toArray, List.set_cons_zero, List.set_cons_succ])
    (apply lexg_take (by rfl); (focus (intro w hw; (try dsimp only at hw); go_simp; (try with_reducible rfl); done)); simp only [Act.put, List.setIfInBounds_toArray, List.set_cons_zero, List.set_cons_succ])
    (refine lexg_effN (by rfl) ?_; (go_simp; go_at_call 61; (refine (SW.out _ r1.drew).mono ?_); rintro e w2 ⟨rfl, LW1, F2, hA2, hp2, hc2, hg2⟩); simp only [Act.put, List.setIfInBounds_toArray, List.set_cons_zero, List.set_cons_succ])
    refine lexg_nil (fun _ => wpAnyG_done (by kernel_rfl) ?_ _)
    have hc2' : Chg (ps :: FW) w1 w2 := (Chg.refl _ w1).drew.same hc2
    obtain ⟨svW2, mvW2, FW2, h2, hg2'⟩ := H1.out.heapW hA2 hc2' hg2
    have H2 := hide h2
    have C2 := hide hc2'
    have P2 := hide hp2
    have G2 := hide hg2'
    clear h2 hc2 hp2 hg2 hA2 hc2' hg2'
    go_wp2
    go_end0
    exact ⟨rfl, _, LR1, LW1, svR1, mvR1, svW2, mvW2, FR1, FW2, H2.out, by unfold standL; rw [if_neg HQ.out]; exact P1.out, by unfold standL; rw [if_neg HQ.out]; exact P2.out,
      (C1.out.mono (L' := ps :: FR ++ FW) (fun z hz => Or.inl (List.mem_append_left _ hz))).trans C2.out (fun z hz => Or.inl (by
        rcases List.mem_cons.1 hz with rfl | hz
        · exact List.mem_append_left _ (List.mem_cons_self ..)
        · exact List.mem_append_right _ hz)), G1.out, fun z hz => (G2.out z hz).imp id (fun h => Nat.le_trans C1.out.size h)⟩
end Go.Proofs.Ytjdkafamaoeifaa
