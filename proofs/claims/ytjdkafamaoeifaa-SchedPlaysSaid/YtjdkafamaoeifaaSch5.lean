/- The walks through sched.find. -/
import Derived.Test.YtjdkafamaoeifaaSch4
namespace Go.Proofs.Ytjdkafamaoeifaa
open Go.RowKit Go.Proofs Go.Maps
set_option linter.unusedVariables false
set_option linter.unusedSimpArgs false

theorem sortLd_get_le {L : List Ld} {j k : Nat} (hj : j ≤ k) (hk : k < (sortLd L).length) : ldLt ((sortLd L)[k]) ((sortLd L)[j]'(by omega)) = false := by
  rcases Nat.lt_or_eq_of_le hj with h | h
  · have := List.pairwise_iff_getElem.1 (sortLd_sorted L) j k (by omega) hk h
    simpa using this
  · subst h
    rw [ldLt_no]; omega
/-- the first in order of those that may -/
theorem FindOut.some_ {X : List Fl} {L : List Ld} {key : Fl → Int} {may : Fl → Bool} {k i : Nat} (hS : Stands L X key) (hk : k < (sortLd L).length) (hi : i < X.length) (hid : X[i].id = (sortLd L)[k].id) (hkey : key X[i] = (sortLd L)[k].n) (hu : up X[i] = true) (hm : may X[i] = true)
    (hno : ∀ j, j < k → ∀ f ∈ X, up f = true → f.id = (gt (sortLd L) j).id → may f = false) : FindOut X key may (sortLd L)[k].id true := by
  refine Or.inr ⟨rfl, i, hi, hid, hu, hm, fun f hf hfu hfm => ?_⟩
  have hin := (sortLd_perm L).symm.subset (hS.of hf hfu)
  obtain ⟨j, hj, e⟩ := List.mem_iff_getElem.1 hin
  have hid2 : (sortLd L)[j].id = f.id := by rw [e]; rfl
  have hn2 : (sortLd L)[j].n = key f := by rw [e]; rfl
  by_cases hjk : j < k
  · have := hno j hjk f hf hfu (by rw [gt_get hj]; exact hid2.symm)
    rw [this] at hfm; cases hfm
  · have := sortLd_get_le (L := L) (j := k) (k := j) (by omega) hj
    rw [ldLt_no] at this
    omega
theorem FindOut.none_ {X : List Fl} {L : List Ld} {key : Fl → Int} {may : Fl → Bool} (hS : Stands L X key) (hno : ∀ j, j < (sortLd L).length → ∀ f ∈ X, up f = true → f.id = (gt (sortLd L) j).id → may f = false) : FindOut X key may 0 false := by
  refine Or.inl ⟨rfl, rfl, fun f hf hfu => ?_⟩
  have hin := (sortLd_perm L).symm.subset (hS.of hf hfu)
  obtain ⟨j, hj, e⟩ := List.mem_iff_getElem.1 hin
  exact hno j hj f hf hfu (by rw [gt_get hj, e]; rfl)
theorem byId {X : List Fl} (hn : (X.map Fl.id).Nodup) {i : Nat} (hi : i < X.length) {f : Fl} (hf : f ∈ X) (h : f.id = X[i].id) : f = X[i] := by
  obtain ⟨j, hj, rfl⟩ := List.mem_iff_getElem.1 hf
  have := List.getElem_inj (xs := X.map Fl.id) (i := j) (j := i) (h₀ := by simpa using hj) (h₁ := by simpa using hi) hn
  have e := this.1 (by simpa using h)
  subst e
  rfl
set_option maxHeartbeats 8000000 in
set_option maxRecDepth 100000 in
theorem find_reserve (w : World) (ps bm : Nat) (role : Nat → Int) (Ms : List Fm) (LR LW : List Ld) (svR mvR svW mvW : Value) (FR FW : List Nat) (h : SM w ps bm role Ms LR LW svR mvR svW mvW FR FW)
    (p : Pl) (L : List Ld) (G : List Nat) (hA : HeapAt w p L G) (key : Fl → Int) (hS : Stands L (Ms.map Fm.f) key) (hl : L.length ≤ 900) (now : Int) :
    Calls Try.prog 34 #[.pointer (some ⟨ps, 0, none⟩), .pointer (some ⟨p.b, p.o, none⟩), .func (.func 35) #[] #[], .int .i64 now] w fun e w' =>
      ∃ id ok, e = .returned (.tuple #[.int .i64 id, .bool ok]) ∧ FindOut (Ms.map Fm.f) key (fun f => byReserve f.p f.c now) id ok ∧ Below w.heap.size w w' := by
  have HALL := hide (hall_calls p L G w hA (by omega))
  have hnd : ((Ms.map Fm.f).map Fl.id).Nodup := by rw [List.map_map]; exact h.nd
  have HND := hide hnd
  have H := hide h
  have HS := hide hS
  have hsl : (sortLd L).length = L.length := sortLd_length L
  obtain ⟨n, hn⟩ : ∃ n, L.length = n := ⟨_, rfl⟩
  rw [hn] at hsl hl
  have HSL := hide hsl
  clear h hA hS hnd hn hsl
  go_enter Try.func34, Try.ntmps34
  go_wp2_with fail
  go_step3
  go_wp2_with fail
  go_step3
  go_wp2_with fail
  refine HALL.out.mono ?_
  intro e w1 ho
  obtain ⟨A1, n1, cc1, rfl, ln1, lc1, r1, _, b1⟩ := ho.view
  have en1 : n1 = n := by rw [← ln1, List.length_map, HSL.out]
  subst en1
  have H1 := hide (H.out.below b1)
  have R1 := hide r1
  have B1 := hide b1
  clear ho b1 r1 ln1 HALL
  go_wp2_with fail
  go_loopw [8, 9, 11, 12, 16] (fun a b _ _ i wr => ∃ k : Nat, k ≤ n1 ∧ i = .int .i64 k ∧ a = .int .i64 0 ∧ b = .bool false ∧ (∀ j, j < k → ∀ f ∈ Ms.map Fm.f, up f = true → f.id = (gt (sortLd L) j).id → byReserve f.p f.c now = false) ∧ Below w1.heap.size w1 wr) (fun _ _ _ _ i _ => n1 - (intOf i).toNat)
  case atStart => exact ⟨0, Nat.zero_le _, rfl, rfl, rfl, fun j hj => absurd hj (by omega), Below.refl _ _⟩
  case round =>
    obtain ⟨k, hk, rfl, rfl, rfl, hno, hb⟩ := hrel
    have HNO := hide hno
    have Hr := hide (H1.out.below hb)
    have hbw : Below w.heap.size w wr := B1.out.trans (hb.mono B1.out.size)
    by_cases hlt : k < n1
    · obtain ⟨b, o, rfl, hbB, hcell⟩ := R1.out.at_ (by omega)
      have hks : k < (sortLd L).length := by rw [HSL.out]; exact hlt
      have g0 : wr.cell? ⟨b, o + k, none⟩ = some (.int .i64 (sortLd L)[k].id) := (hb.cell (p := ⟨b, o + k, none⟩) hbB).trans (hcell _ _ (by rw [List.map_map, List.getElem?_map, List.getElem?_eq_getElem hks]; rfl))
      have hy : (sortLd L)[k] ∈ L := (sortLd_perm L).subset (List.getElem_mem hks)
      obtain ⟨f, hf, hfu, hfid, hfk⟩ := HS.out.mem hy
      obtain ⟨m, hm, rfl⟩ := List.mem_map.1 hf
      obtain ⟨i, hi, hmi⟩ := List.mem_iff_getElem.1 hm
      obtain ⟨q0, q1, _⟩ := Hr.out.rF m hm
      have hok : i64ok m.f.id := ⟨by omega, q1⟩
      have lk := Hr.out.map.look hok
      rw [← hmi, look_at Hr.out.nd hi, hmi] at lk
      rw [show pv (some m.b) = .pointer (some ⟨m.b, 0, none⟩) from rfl] at lk
      have c0 : wr.cell? ⟨ps, 0, none⟩ = some (.map (some bm)) := Hr.out.blk.cell 0
      have M := Hr.out.fl m hm
      have d1 : ∀ w', Below wr.heap.size wr w' → w'.cell? ⟨m.b, 1, none⟩ = some (.int .i64 m.f.p.r) := M.1.rule 1 _ rfl
      have d2 : ∀ w', Below wr.heap.size wr w' → w'.cell? ⟨m.b, 2, none⟩ = some (.int .i64 m.f.p.w) := M.1.rule 2 _ rfl
      have d3 : ∀ w', Below wr.heap.size wr w' → w'.cell? ⟨m.b, 3, none⟩ = some (.int .i64 m.f.p.l) := M.1.rule 3 _ rfl
      have d4 : ∀ w', Below wr.heap.size wr w' → w'.cell? ⟨m.b, 4, none⟩ = some (.int .i64 m.f.p.b) := M.1.rule 4 _ rfl
      have d5 : ∀ w', Below wr.heap.size wr w' → w'.cell? ⟨m.b, 5, none⟩ = some (.int .i64 m.f.c.r) := M.1.rule 5 _ rfl
      have d6 : ∀ w', Below wr.heap.size wr w' → w'.cell? ⟨m.b, 6, none⟩ = some (.int .i64 m.f.c.p) := M.1.rule 6 _ rfl
      have d7 : ∀ w', Below wr.heap.size wr w' → w'.cell? ⟨m.b, 7, none⟩ = some (.int .i64 m.f.c.l) := M.1.rule 7 _ rfl
      have r0 := Below.refl wr.heap.size wr
      rw [← hfid] at g0
      have HI := hide (And.intro hmi (And.intro hfid (And.intro hfk hfu)))
      have HLT := hide hlt
      have HB := hide hb
      have i1 : (k : Int) < n1 := by omega
      clear M hcell hy hf hfu hfid hfk hmi hno hb q0 q1
      cases hmay : byReserve m.f.p m.f.c now
      all_goals
        have HMY := hide hmay
        go_wp2_with fail
        refine region_lexg (fun w' => Below wr.heap.size wr w') [] 0 [(2, 0), (2, 1), (2, 2), (2, 3), (0, 4), (2, 5), (2, 6), (2, 7), (0, 8), (2, 9), (1, 10), (2, 11), (2, 12)] #[true, true, true, true, true, true, true, true, true, true, true, true, true] (by kernel_rfl) (by kernel_rfl) (by decide) (by kernel_rfl) (by kernel_rfl) (fun _ _ _ _ _ h => h) (by (first | exact r0.drew | exact hb2)) (fun hS0 => ?_)
        simp only [List.map_cons, List.map_nil, List.getElem?_toArray, List.getElem?_cons_succ, List.getElem?_cons_zero]
        (apply lexg_pure (by rfl); (focus (intro w; go_simp; (try with_reducible rfl); done)); simp only [Act.put, List.setIfInBounds_toArray, List.set_cons_zero, List.set_cons_succ])
        (apply lexg_pure (by rfl); (focus (intro w; go_simp; (try with_reducible rfl); done)); simp only [Act.put, List.setIfInBounds_toArray, List.set_cons_zero, List.set_cons_succ])
        (apply lexg_pure (by rfl); (focus (intro w; go_simp; (try with_reducible rfl); done)); simp only [Act.put, List.setIfInBounds_toArray, List.set_cons_zero, List.set_cons_succ])
        (apply lexg_pure (by rfl); (focus (intro w; go_simp; (try with_reducible rfl); done)); simp only [Act.put, List.setIfInBounds_toArray, List.set_cons_zero, List.set_cons_succ])
        (apply lexg_take (by rfl); (focus (intro w hw; (try dsimp only at hw); go_simp; (try with_reducible rfl); done)); simp only [Act.put, List.setIfInBounds_toArray, List.set_cons_zero, List.set_cons_succ])
        (apply lexg_pure (by rfl); (focus (intro w; go_simp; (try with_reducible rfl); done)); simp only [Act.put, List.setIfInBounds_toArray, List.set_cons_zero, List.set_cons_succ])
        (apply lexg_pure (by rfl); (focus (intro w; go_simp; (try with_reducible rfl); done)); simp only [Act.put, List.setIfInBounds_toArray, List.set_cons_zero, List.set_cons_succ])
        (apply lexg_pure (by rfl); (focus (intro w; go_simp; (try with_reducible rfl); done)); simp only [Act.put, List.setIfInBounds_toArray, List.set_cons_zero, List.set_cons_succ])
        (apply lexg_take (by rfl); (focus (intro w hw; (try dsimp only at hw); go_simp; (try with_reducible rfl); done)); simp only [Act.put, List.setIfInBounds_toArray, List.set_cons_zero, List.set_cons_succ])
        (apply lexg_pure (by rfl); (focus (intro w; go_simp; (try with_reducible rfl); done)); simp only [Act.put, List.setIfInBounds_toArray, List.set_cons_zero, List.set_cons_succ])
        (refine lexg_eff (by rfl) ?_; go_simp; ((go_at_call 35; (with_reducible refine (byReserve_calls m.f.p m.f.c now _).mono ?_); rintro e w2 ⟨rfl, hb⟩; have hb2 : Below wr.heap.size wr w2 := r0.drew.trans hb; clear hb; rw [hmay])); refine lexg_both (by (first | exact r0.drew | exact hb2)) (fun hS1 => ?_))
        (apply lexg_pure (by rfl); (focus (intro w; go_simp; (try with_reducible rfl); done)); simp only [Act.put, List.setIfInBounds_toArray, List.set_cons_zero, List.set_cons_succ])
        (apply lexg_pure (by rfl); (focus (intro w; go_simp; (try with_reducible rfl); done)); simp only [Act.put, List.setIfInBounds_toArray, List.set_cons_zero, List.set_cons_succ])
        refine lexg_nil (fun _ => wpAnyG_done (by kernel_rfl) ?_ _)
      · go_wp2
        go_roundw
        case rel =>
          refine ⟨k + 1, by omega, by go_num, rfl, rfl, fun j hj f hf hfu hfj => ?_, HB.out.trans (hb2.mono HB.out.size)⟩
          by_cases e : j < k
          · exact HNO.out j e f hf hfu hfj
          · have : j = k := by omega
            subst this
            have e2 := byId HND.out (i := i) (by simpa using hi) hf (by rw [hfj, gt_get hks, List.getElem_map, HI.out.1, HI.out.2.1])
            rw [e2, List.getElem_map, HI.out.1]
            exact HMY.out
        case measure => simp [intOf]; omega
      · go_wp2
        rw [Exit.noGoto_ret]
        go_ret2
        refine ⟨_, _, rfl, ?_, hbw.trans (hb2.mono hbw.size)⟩
        rw [HI.out.2.1]
        exact FindOut.some_ HS.out hks (i := i) (by simpa using hi) (by rw [List.getElem_map, HI.out.1]; exact HI.out.2.1) (by rw [List.getElem_map, HI.out.1]; exact HI.out.2.2.1) (by rw [List.getElem_map, HI.out.1]; exact HI.out.2.2.2) (by rw [List.getElem_map, HI.out.1]; exact HMY.out) HNO.out
    · have e : k = n1 := by omega
      subst e
      go_wp2
      rw [Exit.noGoto_ret]
      go_ret2
      exact ⟨_, _, rfl, FindOut.none_ HS.out (by rw [HSL.out]; exact HNO.out), hbw⟩
set_option maxHeartbeats 8000000 in
set_option maxRecDepth 100000 in
theorem find_limit (w : World) (ps bm : Nat) (role : Nat → Int) (Ms : List Fm) (LR LW : List Ld) (svR mvR svW mvW : Value) (FR FW : List Nat) (h : SM w ps bm role Ms LR LW svR mvR svW mvW FR FW)
    (p : Pl) (L : List Ld) (G : List Nat) (hA : HeapAt w p L G) (key : Fl → Int) (hS : Stands L (Ms.map Fm.f) key) (hl : L.length ≤ 900) (now : Int) :
    Calls Try.prog 34 #[.pointer (some ⟨ps, 0, none⟩), .pointer (some ⟨p.b, p.o, none⟩), .func (.func 36) #[] #[], .int .i64 now] w fun e w' =>
      ∃ id ok, e = .returned (.tuple #[.int .i64 id, .bool ok]) ∧ FindOut (Ms.map Fm.f) key (fun f => byLimit f.p f.c now) id ok ∧ Below w.heap.size w w' := by
  have HALL := hide (hall_calls p L G w hA (by omega))
  have hnd : ((Ms.map Fm.f).map Fl.id).Nodup := by rw [List.map_map]; exact h.nd
  have HND := hide hnd
  have H := hide h
  have HS := hide hS
  have hsl : (sortLd L).length = L.length := sortLd_length L
  obtain ⟨n, hn⟩ : ∃ n, L.length = n := ⟨_, rfl⟩
  rw [hn] at hsl hl
  have HSL := hide hsl
  clear h hA hS hnd hn hsl
  go_enter Try.func34, Try.ntmps34
  go_wp2_with fail
  go_step3
  go_wp2_with fail
  go_step3
  go_wp2_with fail
  refine HALL.out.mono ?_
  intro e w1 ho
  obtain ⟨A1, n1, cc1, rfl, ln1, lc1, r1, _, b1⟩ := ho.view
  have en1 : n1 = n := by rw [← ln1, List.length_map, HSL.out]
  subst en1
  have H1 := hide (H.out.below b1)
  have R1 := hide r1
  have B1 := hide b1
  clear ho b1 r1 ln1 HALL
  go_wp2_with fail
  go_loopw [8, 9, 11, 12, 16] (fun a b _ _ i wr => ∃ k : Nat, k ≤ n1 ∧ i = .int .i64 k ∧ a = .int .i64 0 ∧ b = .bool false ∧ (∀ j, j < k → ∀ f ∈ Ms.map Fm.f, up f = true → f.id = (gt (sortLd L) j).id → byLimit f.p f.c now = false) ∧ Below w1.heap.size w1 wr) (fun _ _ _ _ i _ => n1 - (intOf i).toNat)
  case atStart => exact ⟨0, Nat.zero_le _, rfl, rfl, rfl, fun j hj => absurd hj (by omega), Below.refl _ _⟩
  case round =>
    obtain ⟨k, hk, rfl, rfl, rfl, hno, hb⟩ := hrel
    have HNO := hide hno
    have Hr := hide (H1.out.below hb)
    have hbw : Below w.heap.size w wr := B1.out.trans (hb.mono B1.out.size)
    by_cases hlt : k < n1
    · obtain ⟨b, o, rfl, hbB, hcell⟩ := R1.out.at_ (by omega)
      have hks : k < (sortLd L).length := by rw [HSL.out]; exact hlt
      have g0 : wr.cell? ⟨b, o + k, none⟩ = some (.int .i64 (sortLd L)[k].id) := (hb.cell (p := ⟨b, o + k, none⟩) hbB).trans (hcell _ _ (by rw [List.map_map, List.getElem?_map, List.getElem?_eq_getElem hks]; rfl))
      have hy : (sortLd L)[k] ∈ L := (sortLd_perm L).subset (List.getElem_mem hks)
      obtain ⟨f, hf, hfu, hfid, hfk⟩ := HS.out.mem hy
      obtain ⟨m, hm, rfl⟩ := List.mem_map.1 hf
      obtain ⟨i, hi, hmi⟩ := List.mem_iff_getElem.1 hm
      obtain ⟨q0, q1, _⟩ := Hr.out.rF m hm
      have hok : i64ok m.f.id := ⟨by omega, q1⟩
      have lk := Hr.out.map.look hok
      rw [← hmi, look_at Hr.out.nd hi, hmi] at lk
      rw [show pv (some m.b) = .pointer (some ⟨m.b, 0, none⟩) from rfl] at lk
      have c0 : wr.cell? ⟨ps, 0, none⟩ = some (.map (some bm)) := Hr.out.blk.cell 0
      have M := Hr.out.fl m hm
      have d1 : ∀ w', Below wr.heap.size wr w' → w'.cell? ⟨m.b, 1, none⟩ = some (.int .i64 m.f.p.r) := M.1.rule 1 _ rfl
      have d2 : ∀ w', Below wr.heap.size wr w' → w'.cell? ⟨m.b, 2, none⟩ = some (.int .i64 m.f.p.w) := M.1.rule 2 _ rfl
      have d3 : ∀ w', Below wr.heap.size wr w' → w'.cell? ⟨m.b, 3, none⟩ = some (.int .i64 m.f.p.l) := M.1.rule 3 _ rfl
      have d4 : ∀ w', Below wr.heap.size wr w' → w'.cell? ⟨m.b, 4, none⟩ = some (.int .i64 m.f.p.b) := M.1.rule 4 _ rfl
      have d5 : ∀ w', Below wr.heap.size wr w' → w'.cell? ⟨m.b, 5, none⟩ = some (.int .i64 m.f.c.r) := M.1.rule 5 _ rfl
      have d6 : ∀ w', Below wr.heap.size wr w' → w'.cell? ⟨m.b, 6, none⟩ = some (.int .i64 m.f.c.p) := M.1.rule 6 _ rfl
      have d7 : ∀ w', Below wr.heap.size wr w' → w'.cell? ⟨m.b, 7, none⟩ = some (.int .i64 m.f.c.l) := M.1.rule 7 _ rfl
      have r0 := Below.refl wr.heap.size wr
      rw [← hfid] at g0
      have HI := hide (And.intro hmi (And.intro hfid (And.intro hfk hfu)))
      have HLT := hide hlt
      have HB := hide hb
      have i1 : (k : Int) < n1 := by omega
      clear M hcell hy hf hfu hfid hfk hmi hno hb q0 q1
      cases hmay : byLimit m.f.p m.f.c now
      all_goals
        have HMY := hide hmay
        go_wp2_with fail
        refine region_lexg (fun w' => Below wr.heap.size wr w') [] 0 [(2, 0), (2, 1), (2, 2), (2, 3), (0, 4), (2, 5), (2, 6), (2, 7), (0, 8), (2, 9), (1, 10), (2, 11), (2, 12)] #[true, true, true, true, true, true, true, true, true, true, true, true, true] (by kernel_rfl) (by kernel_rfl) (by decide) (by kernel_rfl) (by kernel_rfl) (fun _ _ _ _ _ h => h) (by (first | exact r0.drew | exact hb2)) (fun hS0 => ?_)
        simp only [List.map_cons, List.map_nil, List.getElem?_toArray, List.getElem?_cons_succ, List.getElem?_cons_zero]
        (apply lexg_pure (by rfl); (focus (intro w; go_simp; (try with_reducible rfl); done)); simp only [Act.put, List.setIfInBounds_toArray, List.set_cons_zero, List.set_cons_succ])
        (apply lexg_pure (by rfl); (focus (intro w; go_simp; (try with_reducible rfl); done)); simp only [Act.put, List.setIfInBounds_toArray, List.set_cons_zero, List.set_cons_succ])
        (apply lexg_pure (by rfl); (focus (intro w; go_simp; (try with_reducible rfl); done)); simp only [Act.put, List.setIfInBounds_toArray, List.set_cons_zero, List.set_cons_succ])
        (apply lexg_pure (by rfl); (focus (intro w; go_simp; (try with_reducible rfl); done)); simp only [Act.put, List.setIfInBounds_toArray, List.set_cons_zero, List.set_cons_succ])
        (apply lexg_take (by rfl); (focus (intro w hw; (try dsimp only at hw); go_simp; (try with_reducible rfl); done)); simp only [Act.put, List.setIfInBounds_toArray, List.set_cons_zero, List.set_cons_succ])
        (apply lexg_pure (by rfl); (focus (intro w; go_simp; (try with_reducible rfl); done)); simp only [Act.put, List.setIfInBounds_toArray, List.set_cons_zero, List.set_cons_succ])
        (apply lexg_pure (by rfl); (focus (intro w; go_simp; (try with_reducible rfl); done)); simp only [Act.put, List.setIfInBounds_toArray, List.set_cons_zero, List.set_cons_succ])
        (apply lexg_pure (by rfl); (focus (intro w; go_simp; (try with_reducible rfl); done)); simp only [Act.put, List.setIfInBounds_toArray, List.set_cons_zero, List.set_cons_succ])
        (apply lexg_take (by rfl); (focus (intro w hw; (try dsimp only at hw); go_simp; (try with_reducible rfl); done)); simp only [Act.put, List.setIfInBounds_toArray, List.set_cons_zero, List.set_cons_succ])
        (apply lexg_pure (by rfl); (focus (intro w; go_simp; (try with_reducible rfl); done)); simp only [Act.put, List.setIfInBounds_toArray, List.set_cons_zero, List.set_cons_succ])
        (refine lexg_eff (by rfl) ?_; go_simp; ((go_at_call 36; (with_reducible refine (byLimit_calls m.f.p m.f.c now _).mono ?_); rintro e w2 ⟨rfl, hb⟩; have hb2 : Below wr.heap.size wr w2 := r0.drew.trans hb; clear hb; rw [hmay])); refine lexg_both (by (first | exact r0.drew | exact hb2)) (fun hS1 => ?_))
        (apply lexg_pure (by rfl); (focus (intro w; go_simp; (try with_reducible rfl); done)); simp only [Act.put, List.setIfInBounds_toArray, List.set_cons_zero, List.set_cons_succ])
        (apply lexg_pure (by rfl); (focus (intro w; go_simp; (try with_reducible rfl); done)); simp only [Act.put, List.setIfInBounds_toArray, List.set_cons_zero, List.set_cons_succ])
        refine lexg_nil (fun _ => wpAnyG_done (by kernel_rfl) ?_ _)
      · go_wp2
        go_roundw
        case rel =>
          refine ⟨k + 1, by omega, by go_num, rfl, rfl, fun j hj f hf hfu hfj => ?_, HB.out.trans (hb2.mono HB.out.size)⟩
          by_cases e : j < k
          · exact HNO.out j e f hf hfu hfj
          · have : j = k := by omega
            subst this
            have e2 := byId HND.out (i := i) (by simpa using hi) hf (by rw [hfj, gt_get hks, List.getElem_map, HI.out.1, HI.out.2.1])
            rw [e2, List.getElem_map, HI.out.1]
            exact HMY.out
        case measure => simp [intOf]; omega
      · go_wp2
        rw [Exit.noGoto_ret]
        go_ret2
        refine ⟨_, _, rfl, ?_, hbw.trans (hb2.mono hbw.size)⟩
        rw [HI.out.2.1]
        exact FindOut.some_ HS.out hks (i := i) (by simpa using hi) (by rw [List.getElem_map, HI.out.1]; exact HI.out.2.1) (by rw [List.getElem_map, HI.out.1]; exact HI.out.2.2.1) (by rw [List.getElem_map, HI.out.1]; exact HI.out.2.2.2) (by rw [List.getElem_map, HI.out.1]; exact HMY.out) HNO.out
    · have e : k = n1 := by omega
      subst e
      go_wp2
      rw [Exit.noGoto_ret]
      go_ret2
      exact ⟨_, _, rfl, FindOut.none_ HS.out (by rw [HSL.out]; exact HNO.out), hbw⟩
end Go.Proofs.Ytjdkafamaoeifaa
