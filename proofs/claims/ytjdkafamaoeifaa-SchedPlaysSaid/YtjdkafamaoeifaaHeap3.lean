/- The walks through the heap's order and up. -/
import Derived.Test.YtjdkafamaoeifaaHeap2
namespace Go.Proofs.Ytjdkafamaoeifaa
open Go.RowKit Go.Proofs Go.Maps
set_option linter.unusedVariables false

set_option maxHeartbeats 2000000 in
theorem horder_calls (x y : Ld) (W : World) : Calls Try.prog 74 #[.agg #[.int .i64 x.id, .int .i64 x.n], .agg #[.int .i64 y.id, .int .i64 y.n]] W fun e w' => e = .returned (.int .i64 (cmpLd x y)) ∧ ∃ q os', w' = Sort.grow (W.drewN q) os' := by
  have B0 := (Blk.new (w := W) (cs := x.cells) (t := 111) rfl).alloc (.cells y.cells.toArray 111)
  have B1 := Blk.new (w := W.alloc (.cells x.cells.toArray 111)) (b := W.heap.size + 1) (cs := y.cells) (t := 111) (by simp)
  obtain ⟨w0, hw0⟩ : ∃ w0, (W.alloc (.cells x.cells.toArray 111)).alloc (.cells y.cells.toArray 111) = w0 := ⟨_, rfl⟩
  rw [hw0] at B0 B1
  go_enter Try.func74, Try.ntmps74
  go_wp2
  rw [show (W.alloc (.cells #[.int .i64 x.id, .int .i64 x.n] 111)).alloc (.cells #[.int .i64 y.id, .int .i64 y.n] 111) = w0 from hw0]
  have HW := hide hw0
  clear hw0
  have c0 := B0.rule 0 _ rfl
  have c1 := B0.rule 1 _ rfl
  have d0 := B1.rule 0 _ rfl
  have d1 := B1.rule 1 _ rfl
  have r0 := Below.refl w0.heap.size w0
  have N0 : ∀ v1 v2, (w0.alloc (.cells #[v1, v2] 3)).drew.cell? ⟨w0.heap.size, 0, none⟩ = some v1 := fun v1 v2 => (Blk.new (cs := [v1, v2]) rfl).cell 0
  have N1 : ∀ v1 v2, (w0.alloc (.cells #[v1, v2] 3)).drew.cell? ⟨w0.heap.size, 1, none⟩ = some v2 := fun v1 v2 => (Blk.new (cs := [v1, v2]) rfl).cell 1
  refine region_lexg (fun w' => Below w0.heap.size w0 w') [] 0 [(2, 0), (0, 1), (2, 2), (0, 3), (2, 5), (0, 6), (2, 7), (0, 8), (1, 4), (1, 9), (1, 10), (1, 11), (2, 12)] #[true, true, true, true, true, true, true, true, true, true, true, true, true] (by kernel_rfl) (by kernel_rfl) (by decide) (by kernel_rfl) (by kernel_rfl) (fun _ _ _ _ _ h => h) (by (first | exact r0.drew | assumption | exact (r0.alloc (Nat.le_refl _) _).drew)) (fun hS0 => ?_)
  simp only [List.map_cons, List.map_nil, List.getElem?_toArray, List.getElem?_cons_succ, List.getElem?_cons_zero]
  (apply lexg_pure (by rfl); (focus (intro w; go_simp; (try with_reducible rfl); done)); simp only [Act.put, List.setIfInBounds_toArray, List.set_cons_zero, List.set_cons_succ])
  (apply lexg_take (by rfl); (focus (intro w hw; (try dsimp only at hw); go_simp; (try with_reducible rfl); done)); simp only [Act.put, List.setIfInBounds_toArray, List.set_cons_zero, List.set_cons_succ])
  (apply lexg_pure (by rfl); (focus (intro w; go_simp; (try with_reducible rfl); done)); simp only [Act.put, List.setIfInBounds_toArray, List.set_cons_zero, List.set_cons_succ])
  (apply lexg_take (by rfl); (focus (intro w hw; (try dsimp only at hw); go_simp; (try with_reducible rfl); done)); simp only [Act.put, List.setIfInBounds_toArray, List.set_cons_zero, List.set_cons_succ])
  (apply lexg_pure (by rfl); (focus (intro w; go_simp; (try with_reducible rfl); done)); simp only [Act.put, List.setIfInBounds_toArray, List.set_cons_zero, List.set_cons_succ])
  (apply lexg_take (by rfl); (focus (intro w hw; (try dsimp only at hw); go_simp; (try with_reducible rfl); done)); simp only [Act.put, List.setIfInBounds_toArray, List.set_cons_zero, List.set_cons_succ])
  (apply lexg_pure (by rfl); (focus (intro w; go_simp; (try with_reducible rfl); done)); simp only [Act.put, List.setIfInBounds_toArray, List.set_cons_zero, List.set_cons_succ])
  (apply lexg_take (by rfl); (focus (intro w hw; (try dsimp only at hw); go_simp; (try with_reducible rfl); done)); simp only [Act.put, List.setIfInBounds_toArray, List.set_cons_zero, List.set_cons_succ])
  (refine lexg_eff (by rfl) ?_; go_simp; (first | (go_at_call 85; (with_reducible refine (cmp_calls _ _ _).mono ?_); rintro e w' ⟨rfl, rfl⟩) | (go_at_call 84; (with_reducible refine (or_calls _ (Lib.compareInt x.n y.n) (Lib.compareInt x.id y.id) _ (by exact N0 _ _) (by exact N1 _ _)).mono ?_); rintro e w' ⟨rfl, rfl⟩)); refine lexg_both (by (first | exact r0.drew | assumption | exact (r0.alloc (Nat.le_refl _) _).drew)) (fun hS1 => ?_))
  (refine lexg_eff (by rfl) ?_; go_simp; (first | (go_at_call 85; (with_reducible refine (cmp_calls _ _ _).mono ?_); rintro e w' ⟨rfl, rfl⟩) | (go_at_call 84; (with_reducible refine (or_calls _ (Lib.compareInt x.n y.n) (Lib.compareInt x.id y.id) _ (by exact N0 _ _) (by exact N1 _ _)).mono ?_); rintro e w' ⟨rfl, rfl⟩)); refine lexg_both (by (first | exact r0.drew | assumption | exact (r0.alloc (Nat.le_refl _) _).drew)) (fun hS1 => ?_))
  (refine lexg_eff (by rfl) ?_; go_simp; refine lexg_both (by (first | exact r0.drew | assumption | exact (r0.alloc (Nat.le_refl _) _).drew)) (fun hS1 => ?_))
  (refine lexg_eff (by rfl) ?_; go_simp; (first | (go_at_call 85; (with_reducible refine (cmp_calls _ _ _).mono ?_); rintro e w' ⟨rfl, rfl⟩) | (go_at_call 84; (with_reducible refine (or_calls _ (Lib.compareInt x.n y.n) (Lib.compareInt x.id y.id) _ (by exact N0 _ _) (by exact N1 _ _)).mono ?_); rintro e w' ⟨rfl, rfl⟩)); refine lexg_both (by (first | exact r0.drew | assumption | exact (r0.alloc (Nat.le_refl _) _).drew)) (fun hS1 => ?_))
  (apply lexg_pure (by rfl); (focus (intro w; go_simp; (try with_reducible rfl); done)); simp only [Act.put, List.setIfInBounds_toArray, List.set_cons_zero, List.set_cons_succ])
  refine lexg_nil (fun _ => wpAnyG_done (by kernel_rfl) ?_ _)
  go_wp2
  go_ret
  exact ⟨rfl, 1, #[.cells x.cells.toArray 111, .cells y.cells.toArray 111, .cells #[.int .i64 (Lib.compareInt x.n y.n), .int .i64 (Lib.compareInt x.id y.id)] 3], by rw [← HW.out]; exact grow3 _ _ _ _⟩
theorem grow_below {W w : World} (h : Below W.heap.size W w) (os : Array Obj) : Below W.heap.size W (Sort.grow w os) := by
  refine ⟨h.os, h.tape, h.output, ?_, fun k hk => ?_⟩
  · have := h.size
    simp [Sort.grow]; omega
  · have := h.size
    rw [← h.block k hk]
    simp [Sort.grow, Array.getElem?_append, show k < w.heap.size by omega]
theorem horder2 (x y : Ld) (W : World) : Calls Try.prog 74 #[.agg #[.int .i64 x.id, .int .i64 x.n], .agg #[.int .i64 y.id, .int .i64 y.n]] W fun e w' => ∃ z : Int, e = .returned (.int .i64 z) ∧ decide (z < 0) = ldLt x y ∧ Below W.heap.size W w' := by
  refine (horder_calls x y W).mono fun e w' ⟨he, q, os, hw⟩ => ⟨_, he, ?_, ?_⟩
  · have := congrFun (congrFun ldLt_eq x) y
    unfold ltOf at this
    exact this
  · subst hw
    exact grow_below (below_drewN (Below.refl _ _) _) _
theorem HV.isSome {f : Int → Option Int} {M : List Ld} {i a : Nat} (h : HV f M i) (ha : a < M.length) : (f (gt M a).id).isSome = true := (h.2.2 _).2 ⟨a, ha, rfl⟩
/-- the state of a walk that moves the hole -/
structure Hole (w wr : World) (p : Pl) (A : Option Addr) (cap bm c nb : Nat) (L Lp : List Ld) (e : Ld) (f' : Int → Option Int) (a : Nat) : Prop where
  hp : HP wr p A cap bm c Lp f'
  lt : a < L.length
  len : Lp.length = L.length
  hv : HV f' (Lp.set a e) a
  near : Near (Lp.set a e) a
  perm : (Lp.set a e).Perm L
  blk : Blk wr nb 111 e.cells
  chg : Chg (hfoot p A bm) w wr
  nblo : w.heap.size ≤ nb
theorem put_again (p : Pl) (A : Option Addr) (cap bm c : Nat) (L : List Ld) (f : Int → Option Int) (i : Nat) (x : Ld) (w : World) (h : HP w p A cap bm c L f) (hi : i < L.length) (hx : i64ok x.id) (hc : c < 1000000) (hL : L.length ≤ 1000000) (hs : (f x.id).isSome = true) :
    Calls Try.prog 75 #[.pointer (some ⟨p.b, p.o, none⟩), .int .i64 i, .agg #[.int .i64 x.id, .int .i64 x.n]] w fun e w' =>
      e = .returned (.tuple #[]) ∧ HP w' p A cap bm c (L.set i x) (upd f x.id (some (i : Int))) ∧ Chg (hfoot p A bm) w w' := by
  refine (put_calls p A cap bm c L f i x w h hi hx hc hL).mono fun e w' hh => ?_
  have e1 : cntUp c (f x.id) = c := by unfold cntUp; rw [if_pos hs]
  rw [e1] at hh
  exact hh
theorem gt_hole {Lp : List Ld} {a : Nat} {e : Ld} (h : a < Lp.length) : gt (Lp.set a e) a = e := by rw [gt_set h, if_pos rfl]
set_option maxHeartbeats 4000000 in
set_option maxRecDepth 100000 in
theorem up_calls (p : Pl) (A : Option Addr) (cap bm c : Nat) (L : List Ld) (f : Int → Option Int) (i : Nat) (w : World) (h : HP w p A cap bm c L f) (hi : i < L.length) (hids : ∀ x ∈ L, i64ok x.id) (hc : c < 1000000) (hL : L.length ≤ 1000000)
    (hf : HF f L) (hnear : Near L i) :
    Calls Try.prog 76 #[.pointer (some ⟨p.b, p.o, none⟩), .int .i64 i] w fun e w' =>
      e = .returned (.tuple #[]) ∧ ∃ L' f' j, HP w' p A cap bm c L' f' ∧ L'.Perm L ∧ HF f' L' ∧ Near L' j ∧ UpOk L' j ∧ j < L'.length ∧ gt L' j = gt L i ∧ Chg (hfoot p A bm) w w' := by
  obtain ⟨g, rfl⟩ := h.some (by omega)
  obtain ⟨e, he⟩ : ∃ e, gt L i = e := ⟨_, rfl⟩
  have c0 : w.cell? ⟨p.b, p.o, none⟩ = some (.slice (some ⟨g, 0, none⟩) L.length cap) := h.blk.cell0
  have e0 : w.cell? ⟨g, i * 2, none⟩ = some (.int .i64 e.id) := by rw [h.own.cellAt (i * 2) (by omega), ← he, gt_get hi]; exact ldCells_get L i 0 hi (by omega)
  have e1 : w.cell? ⟨g, i * 2 + 1, none⟩ = some (.int .i64 e.n) := by rw [h.own.cellAt (i * 2 + 1) (by omega), ← he, gt_get hi]; exact ldCells_get L i 1 hi (by omega)
  have hset : L.set i e = L := by rw [← he, gt_get hi, List.set_getElem_self]
  have i1 : (i : Int) < L.length := by omega
  have st0 : Hole w (w.alloc (.cells #[.int .i64 e.id, .int .i64 e.n] 111)) p (some ⟨g, 0, none⟩) cap bm c w.heap.size L L e f i :=
    ⟨h.below ((Below.refl _ _).alloc (Nat.le_refl _) _), hi, rfl, by rw [hset]; exact hf.hv i, by rw [hset]; exact hnear, by rw [hset], Blk.new (cs := e.cells) rfl, (Chg.refl _ w).alloc _, Nat.le_refl _⟩
  have ST0 := hide st0
  have HE := hide he
  have HID := hide hids
  obtain ⟨nb, hnb⟩ : ∃ nb, w.heap.size = nb := ⟨_, rfl⟩
  rw [hnb] at ST0
  have H := hide h
  clear st0 he hset hids h hf hnear
  go_enter Try.func76, Try.ntmps76
  go_wp2
  go_loopw [1] (fun iv wr => ∃ (a : Nat) (Lp : List Ld) (f' : Int → Option Int), iv = .int .i64 a ∧ Hole w wr p (some ⟨g, 0, none⟩) cap bm c nb L Lp e f' a) (fun iv _ => (intOf iv).toNat)
  case atStart => exact ⟨i, L, f, rfl, ST0.out⟩
  case round =>
    obtain ⟨a, Lp, f', rfl, hh⟩ := hrel
    have hal : a < Lp.length := by have := hh.lt; have := hh.len; omega
    have hge := gt_hole (e := e) hal
    have heid : i64ok e.id := HID.out e (by rw [← HE.out]; exact gt_mem hi)
    have hsome : (f' e.id).isSome = true := by have := hh.hv.isSome (a := a) (by rw [List.length_set]; exact hal); rw [hge] at this; exact this
    have hLp : Lp.length ≤ 1000000 := by have := hh.len; omega
    have b0 := hh.blk.rule 0 _ rfl
    have b1 := hh.blk.rule 1 _ rfl
    have c0 := hh.hp.blk.rule0
    have r0 := Below.refl wr.heap.size wr
    have HH := hide hh
    have HS := hide hsome
    have HI := hide heid
    have HG := hide hge
    clear hh hsome heid hge
    have fin : UpOk (Lp.set a e) a → ∀ w1, Below wr.heap.size wr w1 → Calls Try.prog 75 #[.pointer (some ⟨p.b, p.o, none⟩), .int .i64 a, .agg #[.int .i64 e.id, .int .i64 e.n]] w1 fun en w' =>
        en = .returned (.tuple #[]) ∧ ∃ L' f' j, HP w' p (some ⟨g, 0, none⟩) cap bm c L' f' ∧ L'.Perm L ∧ HF f' L' ∧ Near L' j ∧ UpOk L' j ∧ j < L'.length ∧ gt L' j = gt L i ∧ Chg (hfoot p (some ⟨g, 0, none⟩) bm) w w' := fun hu w1 hb => by
      refine (put_again p (some ⟨g, 0, none⟩) cap bm c Lp f' a e w1 (HH.out.hp.below hb) hal HI.out hc hLp HS.out).mono ?_
      rintro en w' ⟨rfl, h2, ch⟩
      have hcl := HH.out.hv.close (by rw [List.length_set]; exact hal)
      rw [HG.out] at hcl
      exact ⟨rfl, _, _, a, h2, HH.out.perm, hcl, HH.out.near, hu, by rw [List.length_set]; exact hal, by rw [HG.out, HE.out], (HH.out.chg.below hb).same ch⟩
    have FIN := hide fin
    clear fin
    by_cases ha : 0 < a
    · obtain ⟨q, hq⟩ : ∃ q, par a = q := ⟨_, rfl⟩
      obtain ⟨a1, ha1⟩ : ∃ a1, a - 1 = a1 := ⟨_, rfl⟩
      have hqa : q < a := by rw [← hq]; unfold par; omega
      have hql : q < Lp.length := by omega
      have e2 : IntKind.i64.wrap ((a : Int) - 1) = a1 := by rw [IntWalk.i64_in _ (by omega)]; omega
      have e3 : (a1 : Int).tdiv 2 = q := by rw [Int.tdiv_eq_ediv_of_nonneg (by omega), ← hq]; unfold par; omega
      have e4 : (a1 : Int) / 2 = q := by rw [← hq]; unfold par; omega
      have e5 : IntKind.i64.wrap (q : Int) = q := IntWalk.i64_in _ (by omega)
      have d0 : decide ((0 : Int) < a) = true := decide_eq_true (by omega)
      have i2 : (q : Int) < Lp.length := by omega
      have y0 : ∀ w', Below wr.heap.size wr w' → w'.cell? ⟨g, q * 2, none⟩ = some (.int .i64 (gt Lp q).id) := fun w' hb => by
        rw [(HH.out.hp.below hb).own.cellAt (q * 2) (by omega), gt_get hql]; exact ldCells_get Lp q 0 hql (by omega)
      have y1 : ∀ w', Below wr.heap.size wr w' → w'.cell? ⟨g, q * 2 + 1, none⟩ = some (.int .i64 (gt Lp q).n) := fun w' hb => by
        rw [(HH.out.hp.below hb).own.cellAt (q * 2 + 1) (by omega), gt_get hql]; exact ldCells_get Lp q 1 hql (by omega)
      have hQ := hide hq
      have hA1 := hide ha1
      clear hq ha1
      go_wp2
      refine region_lexg (fun w' => Below wr.heap.size wr w') [] 0 [(2, 0), (2, 1), (2, 2), (0, 3), (2, 4), (2, 5), (2, 6), (0, 7), (2, 8), (2, 9), (2, 10), (2, 11), (0, 12), (1, 13), (2, 14), (2, 15)] #[true, true, true, true, true, true, true, true, true, true, true, true, true, true, true, true] (by kernel_rfl) (by kernel_rfl) (by decide) (by kernel_rfl) (by kernel_rfl) (fun _ _ _ _ _ h => h) (by (first | exact r0.drew | exact hb1)) (fun hS0 => ?_)
      simp only [List.map_cons, List.map_nil, List.getElem?_toArray, List.getElem?_cons_succ, List.getElem?_cons_zero]
      (apply lexg_pure (by rfl); (focus (intro w; go_simp; (try with_reducible rfl); done)); simp only [Act.put, List.setIfInBounds_toArray, List.set_cons_zero, List.set_cons_succ])
      (apply lexg_pure (by rfl); (focus (intro w; go_simp; (try with_reducible rfl); done)); simp only [Act.put, List.setIfInBounds_toArray, List.set_cons_zero, List.set_cons_succ])
      (apply lexg_pure (by rfl); (focus (intro w; go_simp; (try with_reducible rfl); done)); simp only [Act.put, List.setIfInBounds_toArray, List.set_cons_zero, List.set_cons_succ])
      first | (apply lexg_take (by rfl); (focus (intro w hw; (try dsimp only at hw); go_simp; (try with_reducible rfl); done)); simp only [Act.put, List.setIfInBounds_toArray, List.set_cons_zero, List.set_cons_succ]) | (refine lexg_skip (by rfl) ?_; simp only [Act.put, List.setIfInBounds_toArray, List.set_cons_zero, List.set_cons_succ])
      first | (apply lexg_pure (by rfl); (focus (intro w; go_simp; (try with_reducible rfl); done)); simp only [Act.put, List.setIfInBounds_toArray, List.set_cons_zero, List.set_cons_succ]) | (refine lexg_skipP (by rfl) ?_; simp only [Act.put, List.setIfInBounds_toArray, List.set_cons_zero, List.set_cons_succ])
      first | (apply lexg_pure (by rfl); (focus (intro w; go_simp; (try with_reducible rfl); done)); simp only [Act.put, List.setIfInBounds_toArray, List.set_cons_zero, List.set_cons_succ]) | (refine lexg_skipP (by rfl) ?_; simp only [Act.put, List.setIfInBounds_toArray, List.set_cons_zero, List.set_cons_succ])
      first | (apply lexg_pure (by rfl); (focus (intro w; go_simp; (try with_reducible rfl); done)); simp only [Act.put, List.setIfInBounds_toArray, List.set_cons_zero, List.set_cons_succ]) | (refine lexg_skipP (by rfl) ?_; simp only [Act.put, List.setIfInBounds_toArray, List.set_cons_zero, List.set_cons_succ])
      first | (apply lexg_take (by rfl); (focus (intro w hw; (try dsimp only at hw); go_simp; (try with_reducible rfl); done)); simp only [Act.put, List.setIfInBounds_toArray, List.set_cons_zero, List.set_cons_succ]) | (refine lexg_skip (by rfl) ?_; simp only [Act.put, List.setIfInBounds_toArray, List.set_cons_zero, List.set_cons_succ])
      first | (apply lexg_pure (by rfl); (focus (intro w; go_simp; (try with_reducible rfl); done)); simp only [Act.put, List.setIfInBounds_toArray, List.set_cons_zero, List.set_cons_succ]) | (refine lexg_skipP (by rfl) ?_; simp only [Act.put, List.setIfInBounds_toArray, List.set_cons_zero, List.set_cons_succ])
      first | (apply lexg_pure (by rfl); (focus (intro w; go_simp; (try with_reducible rfl); done)); simp only [Act.put, List.setIfInBounds_toArray, List.set_cons_zero, List.set_cons_succ]) | (refine lexg_skipP (by rfl) ?_; simp only [Act.put, List.setIfInBounds_toArray, List.set_cons_zero, List.set_cons_succ])
      first | (apply lexg_pure (by rfl); (focus (intro w; go_simp; (try with_reducible rfl); done)); simp only [Act.put, List.setIfInBounds_toArray, List.set_cons_zero, List.set_cons_succ]) | (refine lexg_skipP (by rfl) ?_; simp only [Act.put, List.setIfInBounds_toArray, List.set_cons_zero, List.set_cons_succ])
      first | (apply lexg_pure (by rfl); (focus (intro w; go_simp; (try with_reducible rfl); done)); simp only [Act.put, List.setIfInBounds_toArray, List.set_cons_zero, List.set_cons_succ]) | (refine lexg_skipP (by rfl) ?_; simp only [Act.put, List.setIfInBounds_toArray, List.set_cons_zero, List.set_cons_succ])
      first | (apply lexg_take (by rfl); (focus (intro w hw; (try dsimp only at hw); go_simp; (try with_reducible rfl); done)); simp only [Act.put, List.setIfInBounds_toArray, List.set_cons_zero, List.set_cons_succ]) | (refine lexg_skip (by rfl) ?_; simp only [Act.put, List.setIfInBounds_toArray, List.set_cons_zero, List.set_cons_succ])
      first | (refine lexg_eff (by rfl) ?_; go_simp; ((go_at_call 74; (with_reducible refine (horder2 e (gt Lp q) _).mono ?_); rintro e w1 ⟨z, rfl, hz, hb⟩; have hb1 : Below wr.heap.size wr w1 := r0.drew.trans hb; clear hb)); refine lexg_both (by (first | exact r0.drew | exact hb1)) (fun hS1 => ?_)) | (refine lexg_effskip (by rfl) (by assumption) ?_; simp only [Act.put, List.setIfInBounds_toArray, List.set_cons_zero, List.set_cons_succ])
      first | (apply lexg_pure (by rfl); (focus (intro w; go_simp; (try with_reducible rfl); done)); simp only [Act.put, List.setIfInBounds_toArray, List.set_cons_zero, List.set_cons_succ]) | (refine lexg_skipP (by rfl) ?_; simp only [Act.put, List.setIfInBounds_toArray, List.set_cons_zero, List.set_cons_succ])
      (apply lexg_pure (by rfl); (focus (intro w; go_simp; (try with_reducible rfl); done)); simp only [Act.put, List.setIfInBounds_toArray, List.set_cons_zero, List.set_cons_succ])
      refine lexg_nil (fun _ => wpAnyG_done (by kernel_rfl) ?_ _)
      have b0' := b0 w1 hb1
      have b1' := b1 w1 hb1
      have c0' := c0 w1 hb1
      have y0' := y0 w1 hb1
      have y1' := y1 w1 hb1
      clear b0 b1 c0 y0 y1 hz
      cases hlt : ldLt e (gt Lp q) with
      | true =>
        have hst : Near (((Lp.set a (gt Lp q)).set q e)) q ∧ HV (upd f' (gt Lp q).id (some (a : Int))) ((Lp.set a (gt Lp q)).set q e) q ∧ ((Lp.set a (gt Lp q)).set q e).Perm L := by
          have ha' : a < (Lp.set a e).length := by rw [List.length_set]; exact hal
          have hq' : q < (Lp.set a e).length := by rw [List.length_set]; exact hql
          have g1 : gt (Lp.set a e) q = gt Lp q := by rw [gt_set hal, if_neg (by omega)]
          have n1 := near_up HH.out.near ha' ha (by rw [hQ.out, HG.out, g1]; exact hlt)
          have v1 := HH.out.hv.step ha' hq' (by omega)
          have p1 := swap_perm ha' hq'
          rw [hQ.out] at n1
          rw [HG.out, g1, List.set_set] at n1 v1 p1
          exact ⟨n1, v1, p1.trans HH.out.perm⟩
        have HST := hide hst
        have hsq : (f' (gt Lp q).id).isSome = true := by
          have := HH.out.hv.isSome (a := q) (by rw [List.length_set]; exact hql)
          rw [gt_set hal, if_neg (by omega)] at this
          exact this
        have HSQ := hide hsq
        have hyid : i64ok (gt Lp q).id := by
          refine HID.out _ (HH.out.perm.subset ?_)
          have := gt_mem (M := Lp.set a e) (j := q) (by rw [List.length_set]; exact hql)
          rw [gt_set hal, if_neg (by omega)] at this
          exact this
        have HY := hide hyid
        have HP1 := hide (HH.out.hp.below hb1)
        clear hst hsq hyid
        obtain ⟨y, hy⟩ : ∃ y, gt Lp q = y := ⟨_, rfl⟩
        rw [hy] at y0' y1' HST HSQ HY hlt
        rw [hy]
        have HYQ := hide hy
        clear hy
        have HLT := hide hlt
        clear hlt
        go_wp2_with fail
        with_reducible refine (put_again p (some ⟨g, 0, none⟩) cap bm c Lp f' a y w1 HP1.out hal HY.out hc hLp HSQ.out).mono ?_
        rintro en w2 ⟨rfl, h2, ch2⟩
        have hole2 : Hole w w2 p (some ⟨g, 0, none⟩) cap bm c nb L (Lp.set a y) e (upd f' y.id (some (a : Int))) q := by
          refine ⟨h2, by have := HH.out.len; omega, by rw [List.length_set]; exact HH.out.len, HST.out.2.1, HST.out.1, HST.out.2.2, (HH.out.blk.below hb1).chg ch2 ?_, (HH.out.chg.below hb1).same ch2, HH.out.nblo⟩
          intro hz
          have := HH.out.nblo
          have h5 := H.out.lt nb hz
          omega
        have HOLE2 := hide hole2
        clear hole2 h2 ch2 b0' b1' c0' y0' y1'
        go_wp2
        go_roundw
        case rel => exact ⟨q, _, _, rfl, HOLE2.out⟩
        case measure => simp [intOf]; omega
      | false =>
        have hu : UpOk (Lp.set a e) a := fun _ => by
          rw [HG.out, hQ.out, gt_set hal, if_neg (by omega)]
          exact hlt
        have HU := hide hu
        clear hu hlt
        go_wp2_with fail
        with_reducible refine (FIN.out HU.out w1 hb1).mono ?_
        rintro en w2 ⟨rfl, hfin⟩
        go_wp2
        go_end0
        exact ⟨rfl, hfin⟩
    · have hu : UpOk (Lp.set a e) a := fun h => absurd h ha
      have HU := hide hu
      have d0 : decide ((0 : Int) < a) = false := decide_eq_false (by omega)
      clear hu
      go_wp2
      refine region_lexg (fun w' => Below wr.heap.size wr w') [] 0 [(2, 0), (2, 1), (2, 2), (0, 3), (2, 4), (2, 5), (2, 6), (0, 7), (2, 8), (2, 9), (2, 10), (2, 11), (0, 12), (1, 13), (2, 14), (2, 15)] #[true, true, true, true, true, true, true, true, true, true, true, true, true, true, true, true] (by kernel_rfl) (by kernel_rfl) (by decide) (by kernel_rfl) (by kernel_rfl) (fun _ _ _ _ _ h => h) (by (first | exact r0.drew | exact hb1)) (fun hS0 => ?_)
      simp only [List.map_cons, List.map_nil, List.getElem?_toArray, List.getElem?_cons_succ, List.getElem?_cons_zero]
      (apply lexg_pure (by rfl); (focus (intro w; go_simp; (try with_reducible rfl); done)); simp only [Act.put, List.setIfInBounds_toArray, List.set_cons_zero, List.set_cons_succ])
      (apply lexg_pure (by rfl); (focus (intro w; go_simp; (try with_reducible rfl); done)); simp only [Act.put, List.setIfInBounds_toArray, List.set_cons_zero, List.set_cons_succ])
      (apply lexg_pure (by rfl); (focus (intro w; go_simp; (try with_reducible rfl); done)); simp only [Act.put, List.setIfInBounds_toArray, List.set_cons_zero, List.set_cons_succ])
      first | (apply lexg_take (by rfl); (focus (intro w hw; (try dsimp only at hw); go_simp; (try with_reducible rfl); done)); simp only [Act.put, List.setIfInBounds_toArray, List.set_cons_zero, List.set_cons_succ]) | (refine lexg_skip (by rfl) ?_; simp only [Act.put, List.setIfInBounds_toArray, List.set_cons_zero, List.set_cons_succ])
      first | (apply lexg_pure (by rfl); (focus (intro w; go_simp; (try with_reducible rfl); done)); simp only [Act.put, List.setIfInBounds_toArray, List.set_cons_zero, List.set_cons_succ]) | (refine lexg_skipP (by rfl) ?_; simp only [Act.put, List.setIfInBounds_toArray, List.set_cons_zero, List.set_cons_succ])
      first | (apply lexg_pure (by rfl); (focus (intro w; go_simp; (try with_reducible rfl); done)); simp only [Act.put, List.setIfInBounds_toArray, List.set_cons_zero, List.set_cons_succ]) | (refine lexg_skipP (by rfl) ?_; simp only [Act.put, List.setIfInBounds_toArray, List.set_cons_zero, List.set_cons_succ])
      first | (apply lexg_pure (by rfl); (focus (intro w; go_simp; (try with_reducible rfl); done)); simp only [Act.put, List.setIfInBounds_toArray, List.set_cons_zero, List.set_cons_succ]) | (refine lexg_skipP (by rfl) ?_; simp only [Act.put, List.setIfInBounds_toArray, List.set_cons_zero, List.set_cons_succ])
      first | (apply lexg_take (by rfl); (focus (intro w hw; (try dsimp only at hw); go_simp; (try with_reducible rfl); done)); simp only [Act.put, List.setIfInBounds_toArray, List.set_cons_zero, List.set_cons_succ]) | (refine lexg_skip (by rfl) ?_; simp only [Act.put, List.setIfInBounds_toArray, List.set_cons_zero, List.set_cons_succ])
      first | (apply lexg_pure (by rfl); (focus (intro w; go_simp; (try with_reducible rfl); done)); simp only [Act.put, List.setIfInBounds_toArray, List.set_cons_zero, List.set_cons_succ]) | (refine lexg_skipP (by rfl) ?_; simp only [Act.put, List.setIfInBounds_toArray, List.set_cons_zero, List.set_cons_succ])
      first | (apply lexg_pure (by rfl); (focus (intro w; go_simp; (try with_reducible rfl); done)); simp only [Act.put, List.setIfInBounds_toArray, List.set_cons_zero, List.set_cons_succ]) | (refine lexg_skipP (by rfl) ?_; simp only [Act.put, List.setIfInBounds_toArray, List.set_cons_zero, List.set_cons_succ])
      first | (apply lexg_pure (by rfl); (focus (intro w; go_simp; (try with_reducible rfl); done)); simp only [Act.put, List.setIfInBounds_toArray, List.set_cons_zero, List.set_cons_succ]) | (refine lexg_skipP (by rfl) ?_; simp only [Act.put, List.setIfInBounds_toArray, List.set_cons_zero, List.set_cons_succ])
      first | (apply lexg_pure (by rfl); (focus (intro w; go_simp; (try with_reducible rfl); done)); simp only [Act.put, List.setIfInBounds_toArray, List.set_cons_zero, List.set_cons_succ]) | (refine lexg_skipP (by rfl) ?_; simp only [Act.put, List.setIfInBounds_toArray, List.set_cons_zero, List.set_cons_succ])
      first | (apply lexg_take (by rfl); (focus (intro w hw; (try dsimp only at hw); go_simp; (try with_reducible rfl); done)); simp only [Act.put, List.setIfInBounds_toArray, List.set_cons_zero, List.set_cons_succ]) | (refine lexg_skip (by rfl) ?_; simp only [Act.put, List.setIfInBounds_toArray, List.set_cons_zero, List.set_cons_succ])
      first | (refine lexg_eff (by rfl) ?_; go_simp; (skip); refine lexg_both (by (first | exact r0.drew | exact hb1)) (fun hS1 => ?_)) | (refine lexg_effskip (by rfl) (by assumption) ?_; simp only [Act.put, List.setIfInBounds_toArray, List.set_cons_zero, List.set_cons_succ])
      first | (apply lexg_pure (by rfl); (focus (intro w; go_simp; (try with_reducible rfl); done)); simp only [Act.put, List.setIfInBounds_toArray, List.set_cons_zero, List.set_cons_succ]) | (refine lexg_skipP (by rfl) ?_; simp only [Act.put, List.setIfInBounds_toArray, List.set_cons_zero, List.set_cons_succ])
      (apply lexg_pure (by rfl); (focus (intro w; go_simp; (try with_reducible rfl); done)); simp only [Act.put, List.setIfInBounds_toArray, List.set_cons_zero, List.set_cons_succ])
      refine lexg_nil (fun _ => wpAnyG_done (by kernel_rfl) ?_ _)
      have b0' := b0 wr.drew r0.drew
      have b1' := b1 wr.drew r0.drew
      have R1 := r0.drew
      clear b0 b1 c0
      go_wp2_with fail
      with_reducible refine (FIN.out HU.out wr.drew R1).mono ?_
      rintro en w2 ⟨rfl, hfin⟩
      go_wp2
      go_end0
      exact ⟨rfl, hfin⟩
end Go.Proofs.Ytjdkafamaoeifaa
