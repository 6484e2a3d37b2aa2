/- The walk through Drop. -/
import Derived.Test.YtjdkafamaoeifaaHeap7
namespace Go.Proofs.Ytjdkafamaoeifaa
open Go.RowKit Go.Proofs Go.Maps
set_option linter.unusedVariables false
set_option linter.unusedSimpArgs false

theorem HeapAt.look_no {p : Pl} {L : List Ld} {F : List Nat} {k : Int} {w : World} (h : HeapAt w p L F) (hk : i64ok k) (hno : ∀ y ∈ L, y.id ≠ k) :
    ∃ m, w.cell? ⟨p.b, p.o + 1, none⟩ = some (.map m) ∧ (Instr.lookup 80 (.map m) (.int .i64 k) true).run Try.prog w = .ok (.tuple #[.int .i64 0, .bool false]) w := by
  rcases h with ⟨hb, _, _⟩ | ⟨A, cap, bm, f, h, hf, _, _⟩
  · refine ⟨none, hb.cell1, ?_⟩
    exact Maps.look_nil true law Try.underlying80 (zeroE w) (keyOf_int_mk Try.underlying3 hk.wf)
  · refine ⟨some bm, h.blk.cell1, ?_⟩
    have lk := h.map.look_ok hk
    have : f k = none := by
      cases e : f k with
      | none => rfl
      | some z =>
        obtain ⟨i, hi, _, he⟩ := hf.at e
        exact absurd he (hno _ (gt_mem hi))
    rw [this] at lk
    exact lk
set_option maxHeartbeats 1000000 in
theorem drop_no (p : Pl) (L : List Ld) (F : List Nat) (k : Int) (w : World) (h : HeapAt w p L F) (hk : i64ok k) (hno : ∀ y ∈ L, y.id ≠ k) :
    Calls Try.prog 60 #[.pointer (some ⟨p.b, p.o, none⟩), .int .i64 k] w fun e w' => e = .returned (.bool false) ∧ w = w' := by
  obtain ⟨m, c1, lk⟩ := h.look_no hk hno
  clear h hno
  go_enter Try.func60, Try.ntmps60
  go_wp2
  go_ret
  exact ⟨rfl, rfl⟩
theorem own_cut {w : World} {e : TypeId} {size n k c : Nat} {A : Option Addr} {xs : List Value} (h : w.ownsRow 0 e size (.slice A n c) n xs) (hk : k ≤ n) : w.ownsRow 0 e size (.slice A k c) k (xs.take (k * size)) := by
  refine ⟨by rw [List.length_take, h.1]; exact Nat.min_eq_left (Nat.mul_le_mul_right _ hk), ?_⟩
  rcases h.2 with ⟨hv, h0⟩ | ⟨g, cap, cur, hv, hb, hh, hn, hc, hs, ht⟩
  · cases hv
    obtain rfl : k = 0 := by omega
    exact Or.inl ⟨rfl, rfl⟩
  · cases hv
    refine Or.inr ⟨g, c, cur, rfl, hb, hh, by omega, hc, hs, ?_⟩
    rw [← ht, List.take_take, Nat.min_eq_left (Nat.mul_le_mul_right _ hk)]
theorem ldCells_take : ∀ (L : List Ld) (k : Nat), (ldCells L).take (k * 2) = ldCells (L.take k)
  | [], k => by simp [ldCells]
  | x :: L, 0 => by simp [ldCells]
  | x :: L, k + 1 => by
    have ih := ldCells_take L k
    have e : ldCells (x :: L) = .int .i64 x.id :: .int .i64 x.n :: ldCells L := rfl
    have e2 : ldCells ((x :: L).take (k + 1)) = .int .i64 x.id :: .int .i64 x.n :: ldCells (L.take k) := rfl
    rw [e, e2, ← ih, show (k + 1) * 2 = k * 2 + 1 + 1 by omega, List.take_succ_cons, List.take_succ_cons]
/-- how many keys there are behind a delete -/
def cntDn (c : Nat) (o : Option Int) : Nat := if o.isSome then c - 1 else c
theorem IM.wpl_del {ops : Array Oper} {rest : List Oper} {o : Oper} {a : Act} {Q : Exit → Act → World → Prop} {w : World} {b c : Nat} {f : Int → Option Int} {k : Int} (hg : o.guard = none) (m x : Operand)
    (ho : o.op = .call { callee := .builtin .delete, args := #[m, x], argTypes := #[80, 3] }) (hm : a.eval m = .map (some b)) (hx : a.eval x = .int .i64 k) (h : IM w b c f) (hk : i64ok k)
    (hK : ∀ w', IM w' b (cntDn c (f k)) (upd f k none) → Chg [b] w w' → wpList Try.prog ops Q rest (a.put o.dst (.tuple #[])) w') : wpList Try.prog ops Q (o :: rest) a w := by
  refine wpList_plain hg fun K' hK' => ?_
  obtain ⟨w', hrun, r1, r2⟩ := h.del hk o.type
  unfold Oper.wp
  simp [execOp, ho, resolve, invoke, builtin, hm, hx, hrun, Result.andThen]
  exact hK' _ _ (hK w' r1 r2)
set_option maxHeartbeats 4000000 in
set_option maxRecDepth 100000 in
theorem drop_last (p : Pl) (A : Option Addr) (cap bm : Nat) (L : List Ld) (f : Int → Option Int) (n : Nat) (w : World) (h : HP w p A cap bm L.length L f) (hf : HF f L) (ho : HeapOk L) (hids : ∀ y ∈ L, i64ok y.id) (hn : L.length = n + 1) (hL : n ≤ 1000) :
    Calls Try.prog 60 #[.pointer (some ⟨p.b, p.o, none⟩), .int .i64 (gt L n).id] w fun e w' => e = .returned (.bool true) ∧ HeapAt w' p (L.take n) (hfoot p A bm) ∧ Chg (hfoot p A bm) w w' := by
  obtain ⟨g, rfl⟩ := h.some (by omega)
  have hx : i64ok (gt L n).id := hids _ (gt_mem (by omega))
  have c1 : w.cell? ⟨p.b, p.o + 1, none⟩ = some (.map (some bm)) := h.blk.cell1
  have lk := h.map.look_ok hx
  rw [hf.2.1 n (by omega)] at lk
  simp only [Option.getD_some, Option.isSome_some] at lk
  have H := hide h
  have HF0 := hide hf
  have HO := hide ho
  have HN := hide hn
  obtain ⟨y, hy⟩ : ∃ y, gt L n = y := ⟨_, rfl⟩
  rw [hy] at lk hx ⊢
  clear h hf ho hids hn
  go_enter Try.func60, Try.ntmps60
  go_wp2_with (at_delete; refine IM.wpl_del rfl _ _ rfl rfl rfl H.out.map hx ?_)
  intro w1 M1 ch1
  have hl1 : n < L.length := by have := HN.out; omega
  have B1 : PBlk w1 p (.slice (some ⟨g, 0, none⟩) L.length cap) (.map (some bm)) := H.out.blk.chg ch1 (by simpa using H.out.pm)
  have O1 : w1.ownsRow 0 111 2 (.slice (some ⟨g, 0, none⟩) L.length cap) L.length (ldCells L) := own_chg H.out.own ch1 (fun g' hg' hx => by
    rw [ownBlock_slice] at hg'
    exact H.out.mA hg' (by simpa using hx))
  have c0 : w1.cell? ⟨p.b, p.o, none⟩ = some (.slice (some ⟨g, 0, none⟩) L.length cap) := B1.cell0
  have f0 : w1.frozen? ⟨p.b, p.o, none⟩ = false := B1.frozen0
  have y0 : w1.cell? ⟨g, n * 2, none⟩ = some (.int .i64 y.id) := by
    have := (O1.cellAt (n * 2) (by omega)).trans (ldCells_get L n 0 hl1 (by omega))
    rw [← hy, gt_get hl1]; exact this
  have y1 : w1.cell? ⟨g, n * 2 + 1, none⟩ = some (.int .i64 y.n) := by
    have := (O1.cellAt (n * 2 + 1) (by omega)).trans (ldCells_get L n 1 hl1 (by omega))
    rw [← hy, gt_get hl1]; exact this
  have hLn := HN.out
  have e1 : IntKind.i64.wrap ((L.length : Int) - 1) = n := by rw [IntWalk.i64_in _ (by omega)]; omega
  clear hLn
  obtain ⟨A2, cap2, e2, hcc, _⟩ := own_view O1
  cases e2
  have i1 : (n : Int) < L.length := by omega
  have i2 : (n : Int) ≤ cap := by omega
  have i3 : ¬ ((n : Int) < 0) := by omega
  have hpw : p.b < w1.heap.size := B1.lt
  have HB1 := hide B1
  have HO1 := hide O1
  have HY := hide hy
  clear B1 O1 hy c1 lk
  go_wp2
  go_ret
  have hln := HN.out
  have chS : Chg [p.b] w1 ((w1.setCell ⟨p.b, p.o, none⟩ (.slice (some ⟨g, 0, none⟩) n cap)).alloc (.cells #[.int .i64 y.id, .int .i64 y.n] 111)) := ((Chg.refl [p.b] w1).setCell (Or.inl (by simp)) _).alloc _
  have hlt : (L.take n).length = n := by rw [List.length_take]; omega
  have e5 : cntDn L.length (f y.id) = n := by
    have := HF0.out.2.1 n (by omega)
    rw [HY.out] at this
    unfold cntDn
    rw [this]
    simp
    omega
  rw [e5] at M1
  refine ⟨rfl, Or.inr ⟨_, cap, bm, _, ⟨by rw [hlt]; exact (HB1.out.set0 _).alloc _, ?_, by rw [hlt]; exact M1.chg chS (by simpa using Ne.symm H.out.pm)⟩, by rw [← HY.out]; exact HF0.out.last hln, HO.out.take n, rfl⟩, ?_⟩
  · rw [hlt, ← ldCells_take]
    exact own_chg (own_cut HO1.out (by omega)) chS (fun g' hg' hx => by
      rw [ownBlock_slice] at hg'
      exact H.out.pA hg' (by simpa using hx))
  · exact ((Chg.refl _ w).trans ch1 (fun z hz => Or.inl (by rw [List.mem_singleton.1 hz]; simp [hfoot]))).trans chS (fun z hz => Or.inl (by rw [List.mem_singleton.1 hz]; simp [hfoot]))
set_option maxHeartbeats 4000000 in
set_option maxRecDepth 100000 in
theorem drop_mid (p : Pl) (A : Option Addr) (cap bm : Nat) (L : List Ld) (f : Int → Option Int) (n i : Nat) (w : World) (h : HP w p A cap bm L.length L f) (hf : HF f L) (ho : HeapOk L) (hids : ∀ y ∈ L, i64ok y.id) (hn : L.length = n + 1) (hL : n ≤ 1000) (hi : i < n) :
    Calls Try.prog 60 #[.pointer (some ⟨p.b, p.o, none⟩), .int .i64 (gt L i).id] w fun e w' => e = .returned (.bool true) ∧ ∃ L', HeapAt w' p L' (hfoot p A bm) ∧ L'.Perm (outL L (gt L i).id) ∧ Chg (hfoot p A bm) w w' := by
  obtain ⟨g, rfl⟩ := h.some (by omega)
  have hx : i64ok (gt L i).id := hids _ (gt_mem (by omega))
  have hxn : i64ok (gt L n).id := hids _ (gt_mem (by omega))
  have HIDS := hide hids
  have c1 : w.cell? ⟨p.b, p.o + 1, none⟩ = some (.map (some bm)) := h.blk.cell1
  have lk := h.map.look_ok hx
  rw [hf.2.1 i (by omega)] at lk
  simp only [Option.getD_some, Option.isSome_some] at lk
  have H := hide h
  have HF0 := hide hf
  have HO := hide ho
  have HN := hide hn
  obtain ⟨y, hy⟩ : ∃ y, gt L n = y := ⟨_, rfl⟩
  obtain ⟨z, hz⟩ : ∃ z, gt L i = z := ⟨_, rfl⟩
  rw [hz] at lk hx ⊢
  rw [hy] at hxn
  have HZ := hide hz
  clear h hf ho hids hn hz
  go_enter Try.func60, Try.ntmps60
  go_wp2_with (at_delete; refine IM.wpl_del rfl _ _ rfl rfl rfl H.out.map hx ?_)
  intro w1 M1 ch1
  have hl1 : n < L.length := by have := HN.out; omega
  have B1 : PBlk w1 p (.slice (some ⟨g, 0, none⟩) L.length cap) (.map (some bm)) := H.out.blk.chg ch1 (by simpa using H.out.pm)
  have O1 : w1.ownsRow 0 111 2 (.slice (some ⟨g, 0, none⟩) L.length cap) L.length (ldCells L) := own_chg H.out.own ch1 (fun g' hg' hx => by
    rw [ownBlock_slice] at hg'
    exact H.out.mA hg' (by simpa using hx))
  have c0 : w1.cell? ⟨p.b, p.o, none⟩ = some (.slice (some ⟨g, 0, none⟩) L.length cap) := B1.cell0
  have f0 : w1.frozen? ⟨p.b, p.o, none⟩ = false := B1.frozen0
  have y0 : w1.cell? ⟨g, n * 2, none⟩ = some (.int .i64 y.id) := by
    have := (O1.cellAt (n * 2) (by omega)).trans (ldCells_get L n 0 hl1 (by omega))
    rw [← hy, gt_get hl1]; exact this
  have y1 : w1.cell? ⟨g, n * 2 + 1, none⟩ = some (.int .i64 y.n) := by
    have := (O1.cellAt (n * 2 + 1) (by omega)).trans (ldCells_get L n 1 hl1 (by omega))
    rw [← hy, gt_get hl1]; exact this
  have hLn := HN.out
  have e1 : IntKind.i64.wrap ((L.length : Int) - 1) = n := by rw [IntWalk.i64_in _ (by omega)]; omega
  clear hLn
  obtain ⟨A2, cap2, e2, hcc, _⟩ := own_view O1
  cases e2
  have i1 : (n : Int) < L.length := by omega
  have i2 : (n : Int) ≤ cap := by omega
  have i3 : ¬ ((n : Int) < 0) := by omega
  have hpw : p.b < w1.heap.size := B1.lt
  have HB1 := hide B1
  have HO1 := hide O1
  have HY := hide hy
  clear B1 O1 hy c1 lk
  have i4 : (i : Int) < n := by omega
  go_wp2_with fail
  obtain ⟨W, hW⟩ : ∃ W, (w1.setCell ⟨p.b, p.o, none⟩ (.slice (some ⟨g, 0, none⟩) n cap)).alloc (.cells #[.int .i64 y.id, .int .i64 y.n] 111) = W := ⟨_, rfl⟩
  have chS : Chg [p.b] w1 W := by rw [← hW]; exact ((Chg.refl [p.b] w1).setCell (Or.inl (by simp)) _).alloc _
  have bl9 : Blk W w1.heap.size 111 y.cells := by rw [← hW]; exact Blk.new (by simp [World.setCell])
  have hln := HN.out
  have hlt : (L.take n).length = n := by rw [List.length_take]; omega
  have e5 : cntDn L.length (f z.id) = n := by
    have := HF0.out.2.1 i (by omega)
    rw [HZ.out] at this
    unfold cntDn
    rw [this]
    simp
    omega
  rw [e5] at M1
  have hW1 : HP W p (some ⟨g, 0, none⟩) cap bm n (L.take n) (upd f z.id none) := by
    refine ⟨by rw [hlt, ← hW]; exact (HB1.out.set0 _).alloc _, ?_, M1.chg chS (by simpa using Ne.symm H.out.pm)⟩
    rw [hlt, ← ldCells_take]
    exact own_chg (own_cut HO1.out (by omega)) chS (fun g' hg' hx => by
      rw [ownBlock_slice] at hg'
      exact H.out.pA hg' (by simpa using hx))
  have hsy : (upd f z.id none y.id).isSome = true := by
    rw [upd_other (fun e => by rw [← HY.out, ← HZ.out] at e; have := nodup_ids HF0.out.1 (by omega) (by omega) e; omega)]
    have := HF0.out.2.1 n (by omega)
    rw [HY.out] at this
    rw [this]; rfl
  have C0 : Chg (hfoot p (some ⟨g, 0, none⟩) bm) w W := ((Chg.refl _ w).trans ch1 (fun z hz => Or.inl (by rw [List.mem_singleton.1 hz]; simp [hfoot]))).trans chS (fun z hz => Or.inl (by rw [List.mem_singleton.1 hz]; simp [hfoot]))
  have HPW := hide hW1
  have HSY := hide hsy
  have HBL := hide bl9
  have HC0 := hide C0
  rw [hW]
  clear hW1 hsy bl9 C0 chS hW M1 c0 f0 y0 y1
  with_reducible refine (put_again p (some ⟨g, 0, none⟩) cap bm n (L.take n) _ i y W HPW.out (by omega) hxn (by omega) (by omega) HSY.out).mono ?_
  rintro en w2 ⟨rfl, h2, ch2⟩
  have hf2 := HF0.out.drop hln hi
  rw [HY.out, HZ.out] at hf2
  have n2 : Near ((L.take n).set i y) i := (HO.out.take n).near i y (by omega)
  have p2 : ((L.take n).set i y).Perm (outL L z.id) := by
    have := drop_perm hln hi HF0.out.1
    rw [HY.out, HZ.out] at this
    exact this
  have hl2 : ((L.take n).set i y).length = n := by rw [List.length_set]; exact hlt
  have g2 : gt ((L.take n).set i y) i = y := gt_hole (by omega)
  have ids2 : ∀ q ∈ (L.take n).set i y, i64ok q.id := fun q hq => by
    rcases List.mem_or_eq_of_mem_set hq with h5 | h5
    · exact HIDS.out q (List.mem_of_mem_take h5)
    · rw [h5]; exact hxn
  have bl2 : Blk w2 w1.heap.size 111 y.cells := HBL.out.chg ch2 (fun hm => by have := (H.out.lt _ hm); have := ch1.size; omega)
  have C2 := HC0.out.same ch2
  generalize (L.take n).set i y = M at *
  have HH2 := hide h2
  have HF2 := hide hf2
  have HN2 := hide n2
  have HP2 := hide p2
  have HG2 := hide g2
  have HI2 := hide ids2
  have HBL2 := hide bl2
  have HC2 := hide C2
  have HL2 := hide hl2
  clear h2 hf2 n2 p2 g2 ids2 bl2 C2 ch2
  go_wp2_with fail
  with_reducible refine (up_calls p (some ⟨g, 0, none⟩) cap bm n M _ i w2 HH2.out (by omega) HI2.out (by omega) (by omega) HF2.out HN2.out).mono ?_
  rintro en w3 ⟨rfl, L3, f3, j, h3, p3, hf3, n3, u3, hj, g3, ch3⟩
  have hml := p3.length_eq
  have hll := HL2.out
  have bl3 : Blk w3 w1.heap.size 111 y.cells := HBL2.out.chg ch3 (fun hm => by have := (H.out.lt _ hm); have := ch1.size; omega)
  have hfj : f3 y.id = some (j : Int) := by
    have := hf3.2.1 j hj
    rw [g3, HG2.out] at this
    exact this
  have lkr : ∀ w', Below w3.heap.size w3 w' → (Instr.lookup 80 (.map (some bm)) (.int .i64 y.id) false).run Try.prog w' = .ok (.int .i64 j) w' := fun w' hb => by
    have := (h3.below hb).map.look hxn
    rw [hfj] at this
    exact this
  have b0 := bl3.rule 0 _ rfl
  have c1 := h3.blk.rule1
  have r0 := Below.refl w3.heap.size w3
  have ids3 : ∀ q ∈ L3, i64ok q.id := fun q hq => HI2.out q (p3.subset hq)
  have C3 := HC2.out.same ch3
  have D3 := down_calls p (some ⟨g, 0, none⟩) cap bm n L3 f3 j w3.drew (h3.below r0.drew) hj ids3 (by omega) (by omega) hf3 n3 u3
  have HD3 := hide D3
  clear D3 hf3 n3 u3 h3 ch3 ids3 hfj
  go_wp2
  refine region_lexg (fun w' => Below w3.heap.size w3 w') [8] 0 [(2, 0), (2, 1), (2, 2), (2, 3), (0, 4), (2, 5), (0, 6), (0, 7), (3, 8)] #[true, true, true, true, true, true, true, true, true] (by kernel_rfl) (by kernel_rfl) (by decide) (by kernel_rfl) (by kernel_rfl) (fun _ _ _ _ _ h => h) (by (exact r0.drew)) (fun hS0 => ?_)
  simp only [List.map_cons, List.map_nil, List.getElem?_toArray, List.getElem?_cons_succ, List.getElem?_cons_zero]
  (apply lexg_pure (by rfl); (focus (intro w; go_simp; (try with_reducible rfl); done)); simp only [Act.put, List.setIfInBounds_toArray, List.set_cons_zero, List.set_cons_succ])
  (apply lexg_pure (by rfl); (focus (intro w; go_simp; (try with_reducible rfl); done)); simp only [Act.put, List.setIfInBounds_toArray, List.set_cons_zero, List.set_cons_succ])
  (apply lexg_pure (by rfl); (focus (intro w; go_simp; (try with_reducible rfl); done)); simp only [Act.put, List.setIfInBounds_toArray, List.set_cons_zero, List.set_cons_succ])
  (apply lexg_pure (by rfl); (focus (intro w; go_simp; (try with_reducible rfl); done)); simp only [Act.put, List.setIfInBounds_toArray, List.set_cons_zero, List.set_cons_succ])
  (apply lexg_take (by rfl); (focus (intro w hw; (try dsimp only at hw); go_simp; (try with_reducible rfl); done)); simp only [Act.put, List.setIfInBounds_toArray, List.set_cons_zero, List.set_cons_succ])
  (apply lexg_pure (by rfl); (focus (intro w; go_simp; (try with_reducible rfl); done)); simp only [Act.put, List.setIfInBounds_toArray, List.set_cons_zero, List.set_cons_succ])
  (apply lexg_take (by rfl); (focus (intro w hw; (try dsimp only at hw); go_simp; (try with_reducible rfl); done)); simp only [Act.put, List.setIfInBounds_toArray, List.set_cons_zero, List.set_cons_succ])
  (apply lexg_take (by rfl); (focus (intro w hw; (try dsimp only at hw); go_simp; (try with_reducible rfl); done)); simp only [Act.put, List.setIfInBounds_toArray, List.set_cons_zero, List.set_cons_succ])
  (refine lexg_effN (by rfl) ?_; (go_simp; go_at_call 77; (with_reducible refine (HD3.out).mono ?_); rintro en w4 ⟨rfl, L4, f4, h4, p4, hf4, ho4, ch4⟩); simp only [Act.put, List.setIfInBounds_toArray, List.set_cons_zero, List.set_cons_succ])
  refine lexg_nil (fun _ => wpAnyG_done (by kernel_rfl) ?_ _)
  have hl4 : L4.length = n := by rw [p4.length_eq, hml]; exact hll
  rw [← hl4] at h4
  go_wp2
  go_ret
  exact ⟨rfl, L4, Or.inr ⟨_, cap, bm, f4, h4, hf4, ho4, rfl⟩, p4.trans (p3.trans HP2.out), C3.drew.same ch4⟩
theorem drop_calls (p : Pl) (L : List Ld) (F : List Nat) (i : Nat) (w : World) (h : HeapAt w p L F) (hids : ∀ y ∈ L, i64ok y.id) (hi : i < L.length) (hL : L.length ≤ 1000) :
    Calls Try.prog 60 #[.pointer (some ⟨p.b, p.o, none⟩), .int .i64 (gt L i).id] w fun e w' => e = .returned (.bool true) ∧ ∃ L', HeapAt w' p L' F ∧ L'.Perm (outL L (gt L i).id) ∧ Chg F w w' := by
  rcases h with ⟨_, hl, _⟩ | ⟨A, cap, bm, f, h, hf, ho, rfl⟩
  · rw [hl] at hi; simp at hi
  · obtain ⟨n, hn⟩ : ∃ n, L.length = n + 1 := ⟨L.length - 1, by omega⟩
    rcases Nat.lt_or_ge i n with h1 | h1
    · exact drop_mid p A cap bm L f n i w h hf ho hids hn (by omega) h1
    · obtain rfl : i = n := by omega
      exact (drop_last p A cap bm L f i w h hf ho hids hn (by omega)).mono fun e w' ⟨he, ha, hc⟩ => ⟨he, _, ha, last_perm hn hf.1, hc⟩
end Go.Proofs.Ytjdkafamaoeifaa
