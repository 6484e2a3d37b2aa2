/- The walks through sched.Push. -/
import Derived.Test.YtjdkafamaoeifaaSch3
namespace Go.Proofs.Ytjdkafamaoeifaa
open Go.RowKit Go.Proofs Go.Maps
set_option linter.unusedVariables false
set_option linter.unusedSimpArgs false

theorem hleast_any (p : Pl) (L : List Ld) (F : List Nat) (w : World) (h : HeapAt w p L F) :
    Calls Try.prog 39 #[.pointer (some ⟨p.b, p.o, none⟩)] w fun e w' => ∃ a c q, e = .returned (.tuple #[.int .i64 a, .int .i64 (leastN L), .bool c]) ∧ w' = w.drewN q := by
  by_cases hl : 0 < L.length
  · refine (hleast_some p L F w h hl).mono ?_
    rintro e w' ⟨he, q, hw⟩
    exact ⟨_, _, q, by rw [he]; unfold leastN; rw [if_neg (by omega)], hw⟩
  · have : L = [] := List.eq_nil_of_length_eq_zero (by omega)
    subst this
    refine (hleast_none p F w h).mono ?_
    rintro e w' ⟨he, hw⟩
    exact ⟨_, _, 0, he, by rw [← hw]; rfl⟩
theorem Try.infoItem : (Try.prog.info? 36).map (fun i => (i.zero, i.size, i.bytes)) = some (some (.agg #[.int .i64 0, .int .i64 0, .int .i64 0]), 3, 24) := by kernel_rfl
theorem itCells_snoc (q : List It) (x : It) : itCells (q ++ [x]) = itCells q ++ x.cells := by simp [itCells]
theorem Stands.ids {L : List Ld} {X : List Fl} {key : Fl → Int} (hS : Stands L X key) (hX : ∀ f ∈ X, 0 ≤ f.id ∧ f.id ≤ 9223372036854775807) : ∀ y ∈ L, i64ok y.id := by
  intro y hy
  obtain ⟨f, hf, _, e, _⟩ := hS.mem hy
  obtain ⟨h1, h2⟩ := hX f hf
  rw [← e]
  exact ⟨by omega, h2⟩
theorem foot_not_own {w : World} {m : Fm} (h : FmAt w m) {g : Nat} (hg : m.qv.ownBlock = some g) : m.b ≠ g := by
  intro e
  obtain ⟨cs, hq⟩ := h.2.blk hg
  rw [← e] at hq
  have := h.1.symm.trans hq
  simp at this
/-- the queue is grown by one -/
theorem FmAt.push {w w2 : World} {m m2 : Fm} {x : It} {g q cap : Nat} (h : FmAt w m) (hc : Chg m.qv.ownBlock.toList w w2) (hor : m.qv.ownBlock = some g ∨ w.heap.size ≤ g)
    (hq : Que w2 36 3 (.slice (some ⟨g, q, none⟩) (m.f.q.length + 1) cap) (m.f.q.length + 1) (itCells m.f.q ++ x.cells))
    (h1 : m2.b = m.b) (h2 : m2.f.q = m.f.q ++ [x]) (h3 : m2.qv = .slice (some ⟨g, q, none⟩) (m.f.q.length + 1) cap) (h4 : m2.cells = m.cells.set 8 m2.qv) :
    FmAt (w2.setCell ⟨m.b, 8, none⟩ m2.qv) m2 ∧ Chg m.foot w (w2.setCell ⟨m.b, 8, none⟩ m2.qv) ∧ ∀ z ∈ m2.foot, z ∈ m.foot ∨ w.heap.size ≤ z := by
  have hne : ∀ z, m.qv.ownBlock = some z → m.b ≠ z := fun z hz => foot_not_own h hz
  have hb2 := h.1.chg hc (fun hm => hne _ (by simpa using hm) rfl)
  have hgb : m.b ≠ g := by
    rcases hor with e | e
    · exact hne _ e
    · have := h.1.lt; omega
  refine ⟨⟨?_, ?_⟩, (hc.mono (L' := m.foot) fun z hz => Or.inl (by unfold Fm.foot; exact List.mem_cons_of_mem _ hz)).trans ((Chg.refl [m.b] w2).setCell (Or.inl (by simp)) m2.qv) (fun z hz => Or.inl (by rw [List.mem_singleton.1 hz]; simp [Fm.foot])), fun z hz => ?_⟩
  · rw [h1, h4]; exact hb2.set 8 m2.qv
  · rw [h2, h3, List.length_append, List.length_singleton, itCells_snoc]
    exact hq.chg ((Chg.refl [m.b] w2).setCell (Or.inl (by simp)) _) (fun z hz hm => by
      have : g = z := by simpa [Value.ownBlock] using hz
      rw [List.mem_singleton.1 hm] at this
      exact hgb this.symm)
  · have : z = m.b ∨ z = g := by simpa [Fm.foot, h1, h3, Value.ownBlock] using hz
    rcases this with rfl | rfl
    · exact Or.inl (by simp [Fm.foot])
    · rcases hor with e | e
      · exact Or.inl (by simp [Fm.foot, e])
      · exact Or.inr e
set_option maxHeartbeats 8000000 in
set_option maxRecDepth 100000 in
theorem spush_more (w : World) (ps : Nat) (F : List Nat) (X : List Fl) (i : Nat) (f : Fl) (id now : Int) (x : It) (h : SS w ps F X) (hX : X.length ≤ 900) (hi : i < X.length) (hf : X[i] = f) (hid : f.id = id) (hq0 : f.q ≠ []) (hql : f.q.length < 1024) :
    Calls Try.prog 16 #[.pointer (some ⟨ps, 0, none⟩), .int .i64 id, .agg #[.int .i64 x.name, .int .i64 x.delta, .int .i64 x.rho], .int .i64 now] w fun e w' =>
      e = .returned (.int .i64 0) ∧ Turn w w' ps F (X.set i ⟨f.id, f.ver, f.p, f.c, f.q ++ [x]⟩) := by
  subst hid
  obtain ⟨i0, hi0, hz0, hz1, hz2⟩ := info_parts Try.infoItem
  have HND := hide h.nodup
  have hids := h.ids
  obtain ⟨LR, LW, h, hSR, hSW⟩ := h
  have HLR : Hid (LR.length ≤ 900) := hide (Nat.le_trans hSR.len hX)
  have HLW : Hid (LW.length ≤ 900) := hide (Nat.le_trans hSW.len hX)
  have HKR := hide (hSR.ids hids)
  have HKW := hide (hSW.ids hids)
  have HSR := hide hSR
  have HSW := hide hSW
  have HIX : Hid (∃ h : i < X.length, X[i] = f) := hide ⟨hi, hf⟩
  obtain ⟨bm, role, Ms, svR, mvR, svW, mvW, FR, FW, m, h, hF, hXm, hIm, rfl, hl, hmm⟩ := h.open_ hi hf
  clear hi hf hSR hSW hids
  obtain ⟨k0, k1, _⟩ := h.rF m hmm
  have hok : i64ok m.f.id := ⟨by omega, k1⟩
  have B0 := Blk.new (w := w) (cs := [.int .i64 x.name, .int .i64 x.delta, .int .i64 x.rho]) (t := 36) rfl
  have bb := (Below.refl w.heap.size w).alloc (Nat.le_refl _) (.cells [.int .i64 x.name, .int .i64 x.delta, .int .i64 x.rho].toArray 36)
  obtain ⟨w0, hw0⟩ : ∃ w0, w.alloc (.cells [.int .i64 x.name, .int .i64 x.delta, .int .i64 x.rho].toArray 36) = w0 := ⟨_, rfl⟩
  rw [hw0] at B0 bb
  have HW := hide hw0
  clear hw0
  have e0 : ((m.f.q.length : Int) == 0) = false := by
    have := List.length_pos_iff.2 hq0
    simp
    exact hq0
  have e1 : ((m.f.q.length : Int) == 1024) = false := by simp; omega
  have h0 := h.below bb
  have lk := h0.map.look hok
  rw [hl] at lk
  rw [show pv (some m.b) = .pointer (some ⟨m.b, 0, none⟩) from rfl] at lk
  obtain ⟨A, cap, hqv, hqc, _⟩ := (h0.fl m hmm).2.form
  have c0 : w0.cell? ⟨ps, 0, none⟩ = some (.map (some bm)) := h0.blk.cell 0
  have m8 : w0.cell? ⟨m.b, 8, none⟩ = some (.slice A m.f.q.length cap) := by
    have := (h0.fl m hmm).1.cell 8
    rw [show m.cells[8]? = some m.qv from rfl, hqv] at this
    exact this
  have HMM := hide hmm
  have HIM1 : Hid (∃ h : i < Ms.length, Ms[i] = ⟨⟨m.f.id, m.f.ver, m.f.p, m.f.c, m.f.q⟩, m.b, m.qv⟩) := hide hIm
  have HFM : Hid (FmAt w0 ⟨⟨m.f.id, m.f.ver, m.f.p, m.f.c, m.f.q⟩, m.b, m.qv⟩) := hide (h0.fl m hmm)
  have H1 := hide h0
  have C1 : Hid (Chg F w w0) := hide (Chg.of_below bb)
  have HF := hide hF
  have BX := hide B0
  have HFM1 : Hid (∀ z ∈ m.foot, z ∈ F) := hide (hF.2.2.2.2.1 m hmm)
  have HFT : Hid (∀ m0 ∈ Ms, ∀ z ∈ m0.foot, (∃ m1 ∈ Ms, z ∈ m1.foot)) := hide fun m0 h0 z hz => ⟨m0, h0, hz⟩
  have HXX : Hid (Ms.map Fm.f = X.set i m.f) := hide (by rw [hXm, ← HIX.out.2, List.set_getElem_self])
  clear h hmm hIm h0 hF hXm k0 k1 hqv hqc B0 hl
  go_enter Try.func16, Try.ntmps16
  rw [← show w.alloc (.cells #[.int .i64 x.name, .int .i64 x.delta, .int .i64 x.rho] 36) = w0 from HW.out] at m8 lk c0
  go_wp2_with fail
  rw [show w.alloc (.cells #[.int .i64 x.name, .int .i64 x.delta, .int .i64 x.rho] 36) = w0 from HW.out]
  clear m8 lk c0
  have c0 := H1.out.blk.rule 0 _ rfl
  obtain ⟨A, cap, hqv, hqc, _⟩ := HFM.out.2.form
  have d8 : ∀ w', Below w0.heap.size w0 w' → w'.cell? ⟨m.b, 8, none⟩ = some (.slice A m.f.q.length cap) := fun w' hb => by
    have := (HFM.out.1.below hb).cell 8
    rw [show Fm.cells _ = _ from rfl] at this
    exact this.trans (congrArg some hqv)
  have e8 : ∀ w', Below w0.heap.size w0 w' → w'.frozen? ⟨m.b, 8, none⟩ = false := fun w' hb => (HFM.out.1.below hb).frozen 8
  have x0 : ∀ w', Below w0.heap.size w0 w' → w'.cell? ⟨w.heap.size, 0, none⟩ = some (.int .i64 x.name) := BX.out.rule 0 _ rfl
  have x1 : ∀ w', Below w0.heap.size w0 w' → w'.cell? ⟨w.heap.size, 1, none⟩ = some (.int .i64 x.delta) := BX.out.rule 1 _ rfl
  have x2 : ∀ w', Below w0.heap.size w0 w' → w'.cell? ⟨w.heap.size, 2, none⟩ = some (.int .i64 x.rho) := BX.out.rule 2 _ rfl
  have r1 := Below.refl w0.heap.size w0
  have QQ := hide (HFM.out.chg (Chg.of_below (L := []) (r1.drew.alloc (Nat.le_refl _) (.cells x.cells.toArray 36))) (fun _ _ hx => by cases hx))
  have HQV := hide hqv
  clear hqv hqc
  refine region_lexg (fun w' => Below w0.heap.size w0 w') [7] 0 [(2, 0), (2, 1), (2, 2), (2, 3), (0, 4), (0, 5), (1, 6), (3, 7), (2, 8), (2, 9), (3, 10)] #[true, true, true, true, true, true, true, true, true, true, true] (by kernel_rfl) (by kernel_rfl) (by decide) (by kernel_rfl) (by kernel_rfl) (fun _ _ _ _ _ h => h) (by (first | exact r1.drew | exact r1.drew.alloc (Nat.le_refl _) _)) (fun hS0 => ?_)
  simp only [List.map_cons, List.map_nil, List.getElem?_toArray, List.getElem?_cons_succ, List.getElem?_cons_zero]
  (apply lexg_pure (by rfl); (focus (intro w; go_simp; (try with_reducible rfl); done)); simp only [Act.put, List.setIfInBounds_toArray, List.set_cons_zero, List.set_cons_succ])
  (apply lexg_pure (by rfl); (focus (intro w; go_simp; (try with_reducible rfl); done)); simp only [Act.put, List.setIfInBounds_toArray, List.set_cons_zero, List.set_cons_succ])
  (apply lexg_pure (by rfl); (focus (intro w; go_simp; (try with_reducible rfl); done)); simp only [Act.put, List.setIfInBounds_toArray, List.set_cons_zero, List.set_cons_succ])
  (apply lexg_pure (by rfl); (focus (intro w; go_simp; (try with_reducible rfl); done)); simp only [Act.put, List.setIfInBounds_toArray, List.set_cons_zero, List.set_cons_succ])
  (apply lexg_take (by rfl); (focus (intro w hw; (try dsimp only at hw); go_simp; (try with_reducible rfl); done)); simp only [Act.put, List.setIfInBounds_toArray, List.set_cons_zero, List.set_cons_succ])
  (apply lexg_take (by rfl); (focus (intro w hw; (try dsimp only at hw); go_simp; (try with_reducible rfl); done)); simp only [Act.put, List.setIfInBounds_toArray, List.set_cons_zero, List.set_cons_succ])
  (refine lexg_eff (by rfl) ?_; go_simp; refine lexg_both (by (first | exact r1.drew | exact r1.drew.alloc (Nat.le_refl _) _)) (fun hS1 => ?_))
  (refine lexg_effN (by rfl) ?_; (refine wp_append_que _ _ _ 72 rfl 36 i0 _ 3 24 Try.underlying72 hi0 hz0 hz1 hz2 rfl (by decide) (.slice A m.f.q.length cap) m.f.q.length (itCells m.f.q) rfl (HQV.out ▸ QQ.out.2) w0.heap.size 1 1 x.cells rfl (Blk.new rfl) rfl (by intro u hu; simp [It.cells] at hu; rcases hu with rfl | rfl | rfl <;> rfl) (by decide) (by unfold maxLen; omega) (by omega) ?_; intro g q cap2 w2 hq2 hch hor; rw [← HQV.out] at hch hor; have hqa := FmAt.push (m2 := ⟨⟨m.f.id, m.f.ver, m.f.p, m.f.c, m.f.q ++ [x]⟩, m.b, .slice (some ⟨g, q, none⟩) (m.f.q.length + 1) cap2⟩) QQ.out hch (hor.imp id (fun h => by rw [h]; exact Nat.le_refl _)) hq2 rfl rfl rfl rfl; have M2 := QQ.out.1.chg hch (fun hm => foot_not_own QQ.out (by simpa using hm) rfl); have z8 : w2.cell? ⟨m.b, 8, none⟩ = some m.qv := M2.cell 8; have y8 : w2.frozen? ⟨m.b, 8, none⟩ = false := M2.frozen 8); simp only [Act.put, List.setIfInBounds_toArray, List.set_cons_zero, List.set_cons_succ])
  (apply lexg_pure (by rfl); (focus (intro w; go_simp; (try with_reducible rfl); done)); simp only [Act.put, List.setIfInBounds_toArray, List.set_cons_zero, List.set_cons_succ])
  (apply lexg_pure (by rfl); (focus (intro w; go_simp; (try with_reducible rfl); done)); simp only [Act.put, List.setIfInBounds_toArray, List.set_cons_zero, List.set_cons_succ])
  (refine lexg_effN (by rfl) ?_; go_simp)
  refine lexg_nil (fun _ => wpAnyG_done (by kernel_rfl) ?_ _)
  obtain ⟨hA, hB, hC⟩ := hqa
  obtain ⟨hi1, hm1⟩ := HIM1.out
  have hcw : Chg m.foot w0 (w2.setCell ⟨m.b, 8, none⟩ (.slice (some ⟨g, q, none⟩) (m.f.q.length + 1) cap2)) := (Chg.of_below (L := m.foot) (r1.drew.alloc (Nat.le_refl _) (.cells x.cells.toArray 36))).same hB
  have h3 := H1.out.flow (m' := ⟨⟨m.f.id, m.f.ver, m.f.p, m.f.c, m.f.q ++ [x]⟩, m.b, .slice (some ⟨g, q, none⟩) (m.f.q.length + 1) cap2⟩) hi1 (by rw [hm1]) (by rw [hm1]) hA (by rw [hm1]; exact hcw) (fun z hz => by rw [hm1]; exact (hC z hz).imp id (fun h => Nat.le_trans (r1.drew.alloc (Nat.le_refl _) (.cells x.cells.toArray 36)).size h))
  have C3 := C1.out.trans hcw (fun z hz => Or.inl (HFM1.out z hz))
  obtain ⟨w3, hw3⟩ : ∃ w3, w2.setCell ⟨m.b, 8, none⟩ (.slice (some ⟨g, q, none⟩) (m.f.q.length + 1) cap2) = w3 := ⟨_, rfl⟩
  rw [hw3] at h3 C3
  have H3 := hide h3
  have HC3 := hide C3
  have HC := hide hC
  have HW3 := hide hw3
  have HSZ : Hid (w0.heap.size ≤ w2.heap.size) := hide (by have := hB.size; have := hcw.size; simpa using this)
  have hm3 : (Ms.set i ⟨⟨m.f.id, m.f.ver, m.f.p, m.f.c, m.f.q ++ [x]⟩, m.b, .slice (some ⟨g, q, none⟩) (m.f.q.length + 1) cap2⟩)[i]'(by simpa using hi1) = ⟨⟨m.f.id, m.f.ver, m.f.p, m.f.c, m.f.q ++ [x]⟩, m.b, .slice (some ⟨g, q, none⟩) (m.f.q.length + 1) cap2⟩ := by simp
  have HM3 := hide hm3
  clear hA hB hC h3 C3 hcw hw3 hch hor hq2 M2 z8 y8 hm3 x0 x1 x2 d8 e8 c0
  rw [show w2.setCell ⟨m.b, 8, none⟩ (.slice (some ⟨g, q, none⟩) (m.f.q.length + 1) cap2) = w3 from HW3.out]
  go_wp2_with fail
  refine (stand_calls w3 ps bm _ _ LR LW _ _ _ _ FR FW i _ H3.out (by simpa using hi1) HM3.out HLR.out HLW.out HKR.out HKW.out).mono ?_
  rintro e w4 ⟨rfl, role4, LR4, LW4, svR4, mvR4, svW4, mvW4, FR4, FW4, h4, p4, q4, c4, g4, k4⟩
  have C4 := HC3.out.trans c4 (fun z hz => Or.inl (by
    obtain ⟨f1, f2, f3, f4', f5, f6⟩ := HF.out
    rcases List.mem_append.1 hz with hz | hz
    · rcases List.mem_cons.1 hz with rfl | hz
      · exact f1
      · exact f3 z hz
    · exact f4' z hz))
  have H4 := hide h4
  have HP4 := hide p4
  have HQ4 := hide q4
  have HC4 := hide C4
  have HG4 := hide g4
  have HK4 := hide k4
  clear h4 p4 q4 c4 g4 k4 C4
  go_wp2
  go_ret
  obtain ⟨F5, s5, u5⟩ := SA.close (X' := X.set i ⟨m.f.id, m.f.ver, m.f.p, m.f.c, m.f.q ++ [x]⟩) H4.out (by rw [List.map_set, HXX.out]; exact List.set_set ..) HF.out HC4.out
    (fun z hz => (HG4.out z hz).imp id (fun h => Nat.le_trans HC3.out.size h)) (fun z hz => (HK4.out z hz).imp id (fun h => Nat.le_trans HC3.out.size h)) (fun m0 hm0 z hz => by
      rcases List.mem_or_eq_of_mem_set hm0 with h0 | h0
      · exact Or.inl (HFT.out m0 h0 z hz)
      · rw [h0] at hz
        rcases HC.out z hz with h5 | h5
        · exact Or.inl ⟨m, HMM.out, h5⟩
        · exact Or.inr (Nat.le_trans C1.out.size (Nat.le_trans (r1.drew.alloc (Nat.le_refl _) (.cells x.cells.toArray 36)).size h5)))
  exact ⟨rfl, F5, ⟨LR4, LW4, s5, HSR.out.flow HND.out HIX.out.1 HIX.out.2 rfl HP4.out, HSW.out.flow HND.out HIX.out.1 HIX.out.2 rfl HQ4.out⟩, u5⟩
set_option maxHeartbeats 8000000 in
set_option maxRecDepth 100000 in
theorem spush_first (w : World) (ps : Nat) (F : List Nat) (X : List Fl) (i : Nat) (f : Fl) (id now : Int) (x : It) (h : SS w ps F X) (hX : X.length ≤ 900) (hi : i < X.length) (hf : X[i] = f) (hid : f.id = id) (hq0 : f.q = []) :
    Calls Try.prog 16 #[.pointer (some ⟨ps, 0, none⟩), .int .i64 id, .agg #[.int .i64 x.name, .int .i64 x.delta, .int .i64 x.rho], .int .i64 now] w fun e w' =>
      e = .returned (.int .i64 0) ∧ Turn w w' ps F (X.set i ⟨f.id, f.ver, f.p, wake f.c (at_ now) (leastP X), f.q ++ [x]⟩) := by
  subst hid
  obtain ⟨i0, hi0, hz0, hz1, hz2⟩ := info_parts Try.infoItem
  have HND := hide h.nodup
  have hids := h.ids
  obtain ⟨LR, LW, h, hSR, hSW⟩ := h
  have HLR : Hid (LR.length ≤ 900) := hide (Nat.le_trans hSR.len hX)
  have HLW : Hid (LW.length ≤ 900) := hide (Nat.le_trans hSW.len hX)
  have HKR := hide (hSR.ids hids)
  have HKW := hide (hSW.ids hids)
  have HSR := hide hSR
  have HSW := hide hSW
  have HIX : Hid (∃ h : i < X.length, X[i] = f) := hide ⟨hi, hf⟩
  obtain ⟨bm, role, Ms, svR, mvR, svW, mvW, FR, FW, m, h, hF, hXm, hIm, rfl, hl, hmm⟩ := h.open_ hi hf
  clear hi hf hSR hSW hids
  obtain ⟨k0, k1, _⟩ := h.rF m hmm
  have hok : i64ok m.f.id := ⟨by omega, k1⟩
  have B0 := Blk.new (w := w) (cs := [.int .i64 x.name, .int .i64 x.delta, .int .i64 x.rho]) (t := 36) rfl
  have bb := (Below.refl w.heap.size w).alloc (Nat.le_refl _) (.cells [.int .i64 x.name, .int .i64 x.delta, .int .i64 x.rho].toArray 36)
  obtain ⟨w0, hw0⟩ : ∃ w0, w.alloc (.cells [.int .i64 x.name, .int .i64 x.delta, .int .i64 x.rho].toArray 36) = w0 := ⟨_, rfl⟩
  rw [hw0] at B0 bb
  have HW := hide hw0
  clear hw0
  have e0 : ((m.f.q.length : Int) == 0) = true := by rw [hq0]; rfl
  have e1 : ((m.f.q.length : Int) == 1024) = false := by rw [hq0]; rfl
  have hql : m.f.q.length < 1024 := by rw [hq0]; decide
  have h0 := h.below bb
  have lk := h0.map.look hok
  rw [hl] at lk
  rw [show pv (some m.b) = .pointer (some ⟨m.b, 0, none⟩) from rfl] at lk
  obtain ⟨A, cap, hqv, hqc, _⟩ := (h0.fl m hmm).2.form
  have c0 : w0.cell? ⟨ps, 0, none⟩ = some (.map (some bm)) := h0.blk.cell 0
  have m8 : w0.cell? ⟨m.b, 8, none⟩ = some (.slice A m.f.q.length cap) := by
    have := (h0.fl m hmm).1.cell 8
    rw [show m.cells[8]? = some m.qv from rfl, hqv] at this
    exact this
  obtain ⟨_, _, _, _, hok4⟩ := h0.atW.c0
  have hle := least_eq HSW.out hok4
  have HLC := hide (hleast_any (plW ps bm svR mvR) LW (ps :: FW) w0 h0.atW)
  have HMM := hide hmm
  have HIM := hide hIm
  have H0 := hide h0
  have HF := hide hF
  have BX0 := hide B0
  have HXM := hide hXm
  clear h hmm hIm h0 hF hXm k0 k1 hqv hqc B0 hl hq0 hok4
  go_enter Try.func16, Try.ntmps16
  rw [← show w.alloc (.cells #[.int .i64 x.name, .int .i64 x.delta, .int .i64 x.rho] 36) = w0 from HW.out] at m8 lk c0
  go_wp2_with fail
  rw [show w.alloc (.cells #[.int .i64 x.name, .int .i64 x.delta, .int .i64 x.rho] 36) = w0 from HW.out]
  refine HLC.out.mono ?_
  rintro e w5 ⟨a5, c5, q5, rfl, rfl⟩
  rw [hle]
  have h5 := H0.out.below (below_drewN (Below.refl w0.heap.size w0) q5)
  have BX5 := hide (BX0.out.below (below_drewN (Below.refl w0.heap.size w0) q5))
  have bb5 : Below w.heap.size w (w0.drewN q5) := below_drewN bb q5
  obtain ⟨w5, hw5⟩ : ∃ w5, w0.drewN q5 = w5 := ⟨_, rfl⟩
  rw [hw5] at h5 BX5 bb5 ⊢
  have M5 := h5.fl m HMM.out
  have p5 : ∀ w', Below w5.heap.size w5 w' → w'.cell? ⟨m.b, 5, none⟩ = some (.int .i64 m.f.c.r) := M5.1.rule 5 _ rfl
  have p6 : ∀ w', Below w5.heap.size w5 w' → w'.cell? ⟨m.b, 6, none⟩ = some (.int .i64 m.f.c.p) := M5.1.rule 6 _ rfl
  have p7 : ∀ w', Below w5.heap.size w5 w' → w'.cell? ⟨m.b, 7, none⟩ = some (.int .i64 m.f.c.l) := M5.1.rule 7 _ rfl
  have f5 : ∀ w', Below w5.heap.size w5 w' → w'.frozen? ⟨m.b, 5, none⟩ = false := fun w' hb => (M5.1.below hb).frozen 5
  have f6 : ∀ w', Below w5.heap.size w5 w' → w'.frozen? ⟨m.b, 6, none⟩ = false := fun w' hb => (M5.1.below hb).frozen 6
  have f7 : ∀ w', Below w5.heap.size w5 w' → w'.frozen? ⟨m.b, 7, none⟩ = false := fun w' hb => (M5.1.below hb).frozen 7
  have r5 := Below.refl w5.heap.size w5
  have H5 := hide h5
  have HW5 := hide hw5
  have HM5 := hide M5
  clear h5 hw5 M5 m8 lk c0 hle
  go_wp2_with fail
  refine region_lexg (fun w' => Below w5.heap.size w5 w') [11] 0 [(2, 0), (2, 1), (2, 2), (2, 3), (0, 4), (2, 5), (2, 7), (1, 6), (1, 8), (2, 9), (2, 10), (3, 11)] #[true, true, true, true, true, true, true, true, true, true, true, true] (by kernel_rfl) (by kernel_rfl) (by decide) (by kernel_rfl) (by kernel_rfl) (fun _ _ _ _ _ h => h) (by (first | exact r5.drew | exact hb6)) (fun hS0 => ?_)
  simp only [List.map_cons, List.map_nil, List.getElem?_toArray, List.getElem?_cons_succ, List.getElem?_cons_zero]
  (apply lexg_pure (by rfl); (focus (intro w; go_simp; (try with_reducible rfl); done)); simp only [Act.put, List.setIfInBounds_toArray, List.set_cons_zero, List.set_cons_succ])
  (apply lexg_pure (by rfl); (focus (intro w; go_simp; (try with_reducible rfl); done)); simp only [Act.put, List.setIfInBounds_toArray, List.set_cons_zero, List.set_cons_succ])
  (apply lexg_pure (by rfl); (focus (intro w; go_simp; (try with_reducible rfl); done)); simp only [Act.put, List.setIfInBounds_toArray, List.set_cons_zero, List.set_cons_succ])
  (apply lexg_pure (by rfl); (focus (intro w; go_simp; (try with_reducible rfl); done)); simp only [Act.put, List.setIfInBounds_toArray, List.set_cons_zero, List.set_cons_succ])
  (apply lexg_take (by rfl); (focus (intro w hw; (try dsimp only at hw); go_simp; (try with_reducible rfl); done)); simp only [Act.put, List.setIfInBounds_toArray, List.set_cons_zero, List.set_cons_succ])
  (apply lexg_pure (by rfl); (focus (intro w; go_simp; (try with_reducible rfl); done)); simp only [Act.put, List.setIfInBounds_toArray, List.set_cons_zero, List.set_cons_succ])
  (apply lexg_pure (by rfl); (focus (intro w; go_simp; (try with_reducible rfl); done)); simp only [Act.put, List.setIfInBounds_toArray, List.set_cons_zero, List.set_cons_succ])
  (refine lexg_eff (by rfl) ?_; go_simp; (first | (go_at_call 33; with_reducible refine (at_calls _ _).mono ?_; rintro e w' ⟨rfl, rfl⟩) | (go_at_call 40; (with_reducible refine (wake_calls m.f.c _ _ _).mono ?_); rintro e w6 ⟨rfl, hb⟩; have hb6 : Below w5.heap.size w5 w6 := r5.drew.trans hb; clear hb; have g5 := p5 w6 hb6; have g6 := p6 w6 hb6; have g7 := p7 w6 hb6; have y5 := f5 w6 hb6; have y6 := f6 w6 hb6; have y7 := f7 w6 hb6)); refine lexg_both (by (first | exact r5.drew | exact hb6)) (fun hS1 => ?_))
  (refine lexg_eff (by rfl) ?_; go_simp; (first | (go_at_call 33; with_reducible refine (at_calls _ _).mono ?_; rintro e w' ⟨rfl, rfl⟩) | (go_at_call 40; (with_reducible refine (wake_calls m.f.c _ _ _).mono ?_); rintro e w6 ⟨rfl, hb⟩; have hb6 : Below w5.heap.size w5 w6 := r5.drew.trans hb; clear hb; have g5 := p5 w6 hb6; have g6 := p6 w6 hb6; have g7 := p7 w6 hb6; have y5 := f5 w6 hb6; have y6 := f6 w6 hb6; have y7 := f7 w6 hb6)); refine lexg_both (by (first | exact r5.drew | exact hb6)) (fun hS1 => ?_))
  (apply lexg_pure (by rfl); (focus (intro w; go_simp; (try with_reducible rfl); done)); simp only [Act.put, List.setIfInBounds_toArray, List.set_cons_zero, List.set_cons_succ])
  (apply lexg_pure (by rfl); (focus (intro w; go_simp; (try with_reducible rfl); done)); simp only [Act.put, List.setIfInBounds_toArray, List.set_cons_zero, List.set_cons_succ])
  (refine lexg_effN (by rfl) ?_; go_simp)
  refine lexg_nil (fun _ => wpAnyG_done (by kernel_rfl) ?_ _)
  have M6 := HM5.out.chg (Chg.of_below (L := []) hb6) (fun _ _ hx => by cases hx)
  have ch : Chg [m.b] w6 (((w6.setCell ⟨m.b, 5, none⟩ (.int .i64 (wake m.f.c (at_ now) (leastP X)).r)).setCell ⟨m.b, 6, none⟩ (.int .i64 (wake m.f.c (at_ now) (leastP X)).p)).setCell ⟨m.b, 7, none⟩ (.int .i64 (wake m.f.c (at_ now) (leastP X)).l)) :=
    (((Chg.refl [m.b] w6).setCell (Or.inl (by simp)) _).setCell (Or.inl (by simp)) _).setCell (Or.inl (by simp)) _
  have hfm : FmAt _ ⟨⟨m.f.id, m.f.ver, m.f.p, wake m.f.c (at_ now) (leastP X), m.f.q⟩, m.b, m.qv⟩ := M6.store ch (((M6.1.set 5 (.int .i64 (wake m.f.c (at_ now) (leastP X)).r)).set 6 (.int .i64 (wake m.f.c (at_ now) (leastP X)).p)).set 7 (.int .i64 (wake m.f.c (at_ now) (leastP X)).l)) rfl rfl rfl
  have chF : Chg m.foot w5 _ := (Chg.of_below (L := m.foot) hb6).trans ch (fun z hz => Or.inl (by rw [List.mem_singleton.1 hz]; simp [Fm.foot]))
  obtain ⟨hi0', hm0⟩ := HIM.out
  have h7 := H5.out.flow (m' := ⟨⟨m.f.id, m.f.ver, m.f.p, wake m.f.c (at_ now) (leastP X), m.f.q⟩, m.b, m.qv⟩) hi0' (by rw [hm0]) (by rw [hm0]) hfm (by rw [hm0]; exact chF) (fun z hz => Or.inl (by rw [hm0]; exact hz))
  have B7 := (BX5.out.below hb6).chg ch (fun hz => by
    have e1 := List.mem_singleton.1 hz
    have e2 := BX0.out
    have e3 := (H0.out.fl m HMM.out).1
    rw [← e1] at e3
    have := e2.symm.trans e3
    simp at this)
  have C7 := (Chg.of_below (L := F) bb5).trans chF (fun z hz => Or.inl (HF.out.2.2.2.2.1 m HMM.out z hz))
  obtain ⟨w7, hw7⟩ : ∃ w7, (((w6.setCell ⟨m.b, 5, none⟩ (.int .i64 (wake m.f.c (at_ now) (leastP X)).r)).setCell ⟨m.b, 6, none⟩ (.int .i64 (wake m.f.c (at_ now) (leastP X)).p)).setCell ⟨m.b, 7, none⟩ (.int .i64 (wake m.f.c (at_ now) (leastP X)).l)) = w7 := ⟨_, rfl⟩
  rw [hw7] at hfm h7 B7 C7
  have HW7 := hide hw7
  have HFM := hide hfm
  have H1 := hide h7
  have C1 := hide C7
  have BX := hide B7
  have HIM1 : Hid (∃ h : i < (Ms.set i ⟨⟨m.f.id, m.f.ver, m.f.p, wake m.f.c (at_ now) (leastP X), m.f.q⟩, m.b, m.qv⟩).length, (Ms.set i ⟨⟨m.f.id, m.f.ver, m.f.p, wake m.f.c (at_ now) (leastP X), m.f.q⟩, m.b, m.qv⟩)[i] = ⟨⟨m.f.id, m.f.ver, m.f.p, wake m.f.c (at_ now) (leastP X), m.f.q⟩, m.b, m.qv⟩) := hide ⟨by simpa using hi0', by simp⟩
  have HFM1 : Hid (∀ z ∈ m.foot, z ∈ F) := hide (HF.out.2.2.2.2.1 m HMM.out)
  have HFT : Hid (∀ m0 ∈ Ms.set i ⟨⟨m.f.id, m.f.ver, m.f.p, wake m.f.c (at_ now) (leastP X), m.f.q⟩, m.b, m.qv⟩, ∀ z ∈ m0.foot, (∃ m1 ∈ Ms, z ∈ m1.foot)) := hide fun m0 h0 z hz => set_foot hi0' hm0 (by rfl) h0 hz
  have HXX : Hid ((Ms.set i ⟨⟨m.f.id, m.f.ver, m.f.p, wake m.f.c (at_ now) (leastP X), m.f.q⟩, m.b, m.qv⟩).map Fm.f = X.set i ⟨m.f.id, m.f.ver, m.f.p, wake m.f.c (at_ now) (leastP X), m.f.q⟩) := hide (by rw [List.map_set, HXM.out])
  clear M6 ch hfm chF h7 B7 C7 hw7 g5 g6 g7 y5 y6 y7 p5 p6 p7 f5 f6 f7 hb6 hm0
  rw [show (((w6.setCell ⟨m.b, 5, none⟩ (.int .i64 (wake m.f.c (at_ now) (leastP X)).r)).setCell ⟨m.b, 6, none⟩ (.int .i64 (wake m.f.c (at_ now) (leastP X)).p)).setCell ⟨m.b, 7, none⟩ (.int .i64 (wake m.f.c (at_ now) (leastP X)).l)) = w7 from HW7.out]
  go_wp2_with fail
  have c0 := H1.out.blk.rule 0 _ rfl
  obtain ⟨A, cap, hqv, hqc, _⟩ := HFM.out.2.form
  have d8 : ∀ w', Below w7.heap.size w7 w' → w'.cell? ⟨m.b, 8, none⟩ = some (.slice A m.f.q.length cap) := fun w' hb => by
    have := (HFM.out.1.below hb).cell 8
    rw [show Fm.cells _ = _ from rfl] at this
    exact this.trans (congrArg some hqv)
  have e8 : ∀ w', Below w7.heap.size w7 w' → w'.frozen? ⟨m.b, 8, none⟩ = false := fun w' hb => (HFM.out.1.below hb).frozen 8
  have x0 : ∀ w', Below w7.heap.size w7 w' → w'.cell? ⟨w.heap.size, 0, none⟩ = some (.int .i64 x.name) := BX.out.rule 0 _ rfl
  have x1 : ∀ w', Below w7.heap.size w7 w' → w'.cell? ⟨w.heap.size, 1, none⟩ = some (.int .i64 x.delta) := BX.out.rule 1 _ rfl
  have x2 : ∀ w', Below w7.heap.size w7 w' → w'.cell? ⟨w.heap.size, 2, none⟩ = some (.int .i64 x.rho) := BX.out.rule 2 _ rfl
  have r1 := Below.refl w7.heap.size w7
  have QQ := hide (HFM.out.chg (Chg.of_below (L := []) (r1.drew.alloc (Nat.le_refl _) (.cells x.cells.toArray 36))) (fun _ _ hx => by cases hx))
  have HQV := hide hqv
  clear hqv hqc
  refine region_lexg (fun w' => Below w7.heap.size w7 w') [7] 0 [(2, 0), (2, 1), (2, 2), (2, 3), (0, 4), (0, 5), (1, 6), (3, 7), (2, 8), (2, 9), (3, 10)] #[true, true, true, true, true, true, true, true, true, true, true] (by kernel_rfl) (by kernel_rfl) (by decide) (by kernel_rfl) (by kernel_rfl) (fun _ _ _ _ _ h => h) (by (first | exact r1.drew | exact r1.drew.alloc (Nat.le_refl _) _)) (fun hS0 => ?_)
  simp only [List.map_cons, List.map_nil, List.getElem?_toArray, List.getElem?_cons_succ, List.getElem?_cons_zero]
  (apply lexg_pure (by rfl); (focus (intro w; go_simp; (try with_reducible rfl); done)); simp only [Act.put, List.setIfInBounds_toArray, List.set_cons_zero, List.set_cons_succ])
  (apply lexg_pure (by rfl); (focus (intro w; go_simp; (try with_reducible rfl); done)); simp only [Act.put, List.setIfInBounds_toArray, List.set_cons_zero, List.set_cons_succ])
  (apply lexg_pure (by rfl); (focus (intro w; go_simp; (try with_reducible rfl); done)); simp only [Act.put, List.setIfInBounds_toArray, List.set_cons_zero, List.set_cons_succ])
  (apply lexg_pure (by rfl); (focus (intro w; go_simp; (try with_reducible rfl); done)); simp only [Act.put, List.setIfInBounds_toArray, List.set_cons_zero, List.set_cons_succ])
  (apply lexg_take (by rfl); (focus (intro w hw; (try dsimp only at hw); go_simp; (try with_reducible rfl); done)); simp only [Act.put, List.setIfInBounds_toArray, List.set_cons_zero, List.set_cons_succ])
  (apply lexg_take (by rfl); (focus (intro w hw; (try dsimp only at hw); go_simp; (try with_reducible rfl); done)); simp only [Act.put, List.setIfInBounds_toArray, List.set_cons_zero, List.set_cons_succ])
  (refine lexg_eff (by rfl) ?_; go_simp; refine lexg_both (by (first | exact r1.drew | exact r1.drew.alloc (Nat.le_refl _) _)) (fun hS1 => ?_))
  (refine lexg_effN (by rfl) ?_; (refine wp_append_que _ _ _ 72 rfl 36 i0 _ 3 24 Try.underlying72 hi0 hz0 hz1 hz2 rfl (by decide) (.slice A m.f.q.length cap) m.f.q.length (itCells m.f.q) rfl (HQV.out ▸ QQ.out.2) w7.heap.size 1 1 x.cells rfl (Blk.new rfl) rfl (by intro u hu; simp [It.cells] at hu; rcases hu with rfl | rfl | rfl <;> rfl) (by decide) (by unfold maxLen; omega) (by omega) ?_; intro g q cap2 w2 hq2 hch hor; rw [← HQV.out] at hch hor; have hqa := FmAt.push (m2 := ⟨⟨m.f.id, m.f.ver, m.f.p, wake m.f.c (at_ now) (leastP X), m.f.q ++ [x]⟩, m.b, .slice (some ⟨g, q, none⟩) (m.f.q.length + 1) cap2⟩) QQ.out hch (hor.imp id (fun h => by rw [h]; exact Nat.le_refl _)) hq2 rfl rfl rfl rfl; have M2 := QQ.out.1.chg hch (fun hm => foot_not_own QQ.out (by simpa using hm) rfl); have z8 : w2.cell? ⟨m.b, 8, none⟩ = some m.qv := M2.cell 8; have y8 : w2.frozen? ⟨m.b, 8, none⟩ = false := M2.frozen 8); simp only [Act.put, List.setIfInBounds_toArray, List.set_cons_zero, List.set_cons_succ])
  (apply lexg_pure (by rfl); (focus (intro w; go_simp; (try with_reducible rfl); done)); simp only [Act.put, List.setIfInBounds_toArray, List.set_cons_zero, List.set_cons_succ])
  (apply lexg_pure (by rfl); (focus (intro w; go_simp; (try with_reducible rfl); done)); simp only [Act.put, List.setIfInBounds_toArray, List.set_cons_zero, List.set_cons_succ])
  (refine lexg_effN (by rfl) ?_; go_simp)
  refine lexg_nil (fun _ => wpAnyG_done (by kernel_rfl) ?_ _)
  obtain ⟨hA, hB, hC⟩ := hqa
  obtain ⟨hi1, hm1⟩ := HIM1.out
  have hcw : Chg m.foot w7 (w2.setCell ⟨m.b, 8, none⟩ (.slice (some ⟨g, q, none⟩) (m.f.q.length + 1) cap2)) := (Chg.of_below (L := m.foot) (r1.drew.alloc (Nat.le_refl _) (.cells x.cells.toArray 36))).same hB
  have h3 := H1.out.flow (m' := ⟨⟨m.f.id, m.f.ver, m.f.p, wake m.f.c (at_ now) (leastP X), m.f.q ++ [x]⟩, m.b, .slice (some ⟨g, q, none⟩) (m.f.q.length + 1) cap2⟩) hi1 (by rw [hm1]) (by rw [hm1]) hA (by rw [hm1]; exact hcw) (fun z hz => by rw [hm1]; exact (hC z hz).imp id (fun h => Nat.le_trans (r1.drew.alloc (Nat.le_refl _) (.cells x.cells.toArray 36)).size h))
  have C3 := C1.out.trans hcw (fun z hz => Or.inl (HFM1.out z hz))
  obtain ⟨w3, hw3⟩ : ∃ w3, w2.setCell ⟨m.b, 8, none⟩ (.slice (some ⟨g, q, none⟩) (m.f.q.length + 1) cap2) = w3 := ⟨_, rfl⟩
  rw [hw3] at h3 C3
  have H3 := hide h3
  have HC3 := hide C3
  have HC := hide hC
  have HW3 := hide hw3
  have HSZ : Hid (w7.heap.size ≤ w2.heap.size) := hide (by have := hB.size; have := hcw.size; simpa using this)
  have hm3 : ((Ms.set i ⟨⟨m.f.id, m.f.ver, m.f.p, wake m.f.c (at_ now) (leastP X), m.f.q⟩, m.b, m.qv⟩).set i ⟨⟨m.f.id, m.f.ver, m.f.p, wake m.f.c (at_ now) (leastP X), m.f.q ++ [x]⟩, m.b, .slice (some ⟨g, q, none⟩) (m.f.q.length + 1) cap2⟩)[i]'(by simpa using hi1) = ⟨⟨m.f.id, m.f.ver, m.f.p, wake m.f.c (at_ now) (leastP X), m.f.q ++ [x]⟩, m.b, .slice (some ⟨g, q, none⟩) (m.f.q.length + 1) cap2⟩ := by simp
  have HM3 := hide hm3
  clear hA hB hC h3 C3 hcw hw3 hch hor hq2 M2 z8 y8 hm3 x0 x1 x2 d8 e8 c0
  rw [show w2.setCell ⟨m.b, 8, none⟩ (.slice (some ⟨g, q, none⟩) (m.f.q.length + 1) cap2) = w3 from HW3.out]
  go_wp2_with fail
  refine (stand_calls w3 ps bm _ _ LR LW _ _ _ _ FR FW i _ H3.out (by simpa using hi1) HM3.out HLR.out HLW.out HKR.out HKW.out).mono ?_
  rintro e w4 ⟨rfl, role4, LR4, LW4, svR4, mvR4, svW4, mvW4, FR4, FW4, h4, p4, q4, c4, g4, k4⟩
  have C4 := HC3.out.trans c4 (fun z hz => Or.inl (by
    obtain ⟨f1, f2, f3, f4', f5, f6⟩ := HF.out
    rcases List.mem_append.1 hz with hz | hz
    · rcases List.mem_cons.1 hz with rfl | hz
      · exact f1
      · exact f3 z hz
    · exact f4' z hz))
  have H4 := hide h4
  have HP4 := hide p4
  have HQ4 := hide q4
  have HC4 := hide C4
  have HG4 := hide g4
  have HK4 := hide k4
  clear h4 p4 q4 c4 g4 k4 C4
  go_wp2
  go_ret
  obtain ⟨F5, s5, u5⟩ := SA.close (X' := X.set i ⟨m.f.id, m.f.ver, m.f.p, wake m.f.c (at_ now) (leastP X), m.f.q ++ [x]⟩) H4.out (by rw [List.map_set, HXX.out]; exact List.set_set ..) HF.out HC4.out
    (fun z hz => (HG4.out z hz).imp id (fun h => Nat.le_trans HC3.out.size h)) (fun z hz => (HK4.out z hz).imp id (fun h => Nat.le_trans HC3.out.size h)) (fun m0 hm0 z hz => by
      rcases List.mem_or_eq_of_mem_set hm0 with h0 | h0
      · exact Or.inl (HFT.out m0 h0 z hz)
      · rw [h0] at hz
        rcases HC.out z hz with h5 | h5
        · exact Or.inl ⟨m, HMM.out, h5⟩
        · exact Or.inr (Nat.le_trans C1.out.size (Nat.le_trans (r1.drew.alloc (Nat.le_refl _) (.cells x.cells.toArray 36)).size h5)))
  exact ⟨rfl, F5, ⟨LR4, LW4, s5, HSR.out.flow HND.out HIX.out.1 HIX.out.2 rfl HP4.out, HSW.out.flow HND.out HIX.out.1 HIX.out.2 rfl HQ4.out⟩, u5⟩
end Go.Proofs.Ytjdkafamaoeifaa
