/- The walk through the heap's down. -/
import Derived.Test.YtjdkafamaoeifaaHeap3
namespace Go.Proofs.Ytjdkafamaoeifaa
open Go.RowKit Go.Proofs Go.Maps
set_option linter.unusedVariables false

set_option maxHeartbeats 8000000 in
set_option maxRecDepth 100000 in
theorem down_calls (p : Pl) (A : Option Addr) (cap bm c : Nat) (L : List Ld) (f : Int → Option Int) (i : Nat) (w : World) (h : HP w p A cap bm c L f) (hi : i < L.length) (hids : ∀ x ∈ L, i64ok x.id) (hc : c < 1000000) (hL : L.length ≤ 1000000)
    (hf : HF f L) (hnear : Near L i) (hup : UpOk L i) :
    Calls Try.prog 77 #[.pointer (some ⟨p.b, p.o, none⟩), .int .i64 i] w fun e w' =>
      e = .returned (.tuple #[]) ∧ ∃ L' f', HP w' p A cap bm c L' f' ∧ L'.Perm L ∧ HF f' L' ∧ HeapOk L' ∧ Chg (hfoot p A bm) w w' := by
  obtain ⟨g, rfl⟩ := h.some (by omega)
  obtain ⟨e, he⟩ : ∃ e, gt L i = e := ⟨_, rfl⟩
  have c0 : w.cell? ⟨p.b, p.o, none⟩ = some (.slice (some ⟨g, 0, none⟩) L.length cap) := h.blk.cell0
  have e0 : w.cell? ⟨g, i * 2, none⟩ = some (.int .i64 e.id) := by rw [h.own.cellAt (i * 2) (by omega), ← he, gt_get hi]; exact ldCells_get L i 0 hi (by omega)
  have e1 : w.cell? ⟨g, i * 2 + 1, none⟩ = some (.int .i64 e.n) := by rw [h.own.cellAt (i * 2 + 1) (by omega), ← he, gt_get hi]; exact ldCells_get L i 1 hi (by omega)
  have hset : L.set i e = L := by rw [← he, gt_get hi, List.set_getElem_self]
  have i1 : (i : Int) < L.length := by omega
  have st0 : Hole w (w.alloc (.cells #[.int .i64 e.id, .int .i64 e.n] 111)) p (some ⟨g, 0, none⟩) cap bm c w.heap.size L L e f i :=
    ⟨h.below ((Below.refl _ _).alloc (Nat.le_refl _) _), hi, rfl, by rw [hset]; exact hf.hv i, by rw [hset]; exact hnear, by rw [hset], Blk.new (cs := e.cells) rfl, (Chg.refl _ w).alloc _, Nat.le_refl _⟩
  have ST0 := hide st0
  have SU0 : Hid (UpOk (L.set i e) i) := hide (by rw [hset]; exact hup)
  have HE := hide he
  have HID := hide hids
  obtain ⟨nb, hnb⟩ : ∃ nb, w.heap.size = nb := ⟨_, rfl⟩
  rw [hnb] at ST0
  have H := hide h
  clear st0 he hset hids h hf hnear hup
  go_enter Try.func77, Try.ntmps77
  go_wp2
  go_loopw [1, 5] (fun iv _ wr => ∃ (a : Nat) (Lp : List Ld) (f' : Int → Option Int), iv = .int .i64 a ∧ Hole w wr p (some ⟨g, 0, none⟩) cap bm c nb L Lp e f' a ∧ UpOk (Lp.set a e) a) (fun iv _ _ => L.length - (intOf iv).toNat)
  case atStart => exact ⟨i, L, f, rfl, ST0.out, SU0.out⟩
  case round =>
    obtain ⟨a, Lp, f', rfl, hh, hu⟩ := hrel
    have HU := hide hu
    have hal : a < Lp.length := by have := hh.lt; have := hh.len; omega
    have hge := gt_hole (e := e) hal
    have heid : i64ok e.id := HID.out e (by rw [← HE.out]; exact gt_mem hi)
    have hsome : (f' e.id).isSome = true := by have := hh.hv.isSome (a := a) (by rw [List.length_set]; exact hal); rw [hge] at this; exact this
    have hLp : Lp.length ≤ 1000000 := by have := hh.len; omega
    have b0 := hh.blk.rule 0 _ rfl
    have b1 := hh.blk.rule 1 _ rfl
    have c0 := hh.hp.blk.rule0
    have r0 := Below.refl wr.heap.size wr
    have HH := hide hh
    have HS := hide hsome
    have HI := hide heid
    have HG := hide hge
    clear hh hsome heid hge hu
    have fin : HeapOk (Lp.set a e) → ∀ w1, Below wr.heap.size wr w1 → Calls Try.prog 75 #[.pointer (some ⟨p.b, p.o, none⟩), .int .i64 a, .agg #[.int .i64 e.id, .int .i64 e.n]] w1 fun en w' =>
        en = .returned (.tuple #[]) ∧ ∃ L' f', HP w' p (some ⟨g, 0, none⟩) cap bm c L' f' ∧ L'.Perm L ∧ HF f' L' ∧ HeapOk L' ∧ Chg (hfoot p (some ⟨g, 0, none⟩) bm) w w' := fun hu w1 hb => by
      refine (put_again p (some ⟨g, 0, none⟩) cap bm c Lp f' a e w1 (HH.out.hp.below hb) hal HI.out hc hLp HS.out).mono ?_
      rintro en w' ⟨rfl, h2, ch⟩
      have hcl := HH.out.hv.close (by rw [List.length_set]; exact hal)
      rw [HG.out] at hcl
      exact ⟨rfl, _, _, h2, HH.out.perm, hcl, hu, (HH.out.chg.below hb).same ch⟩
    have FIN := hide fin
    clear fin
    obtain ⟨b2, hb2⟩ : ∃ b2, 2 * a = b2 := ⟨_, rfl⟩
    obtain ⟨k, hk⟩ : ∃ k, b2 + 1 = k := ⟨_, rfl⟩
    obtain ⟨k1, hk1⟩ : ∃ k1, k + 1 = k1 := ⟨_, rfl⟩
    have e2 : IntKind.i64.wrap (2 * (a : Int)) = b2 := by rw [IntWalk.i64_in _ (by omega)]; omega
    have e3 : IntKind.i64.wrap ((b2 : Int) + 1) = k := by rw [IntWalk.i64_in _ (by omega)]; omega
    have e4 : IntKind.i64.wrap ((k : Int) + 1) = k1 := by rw [IntWalk.i64_in _ (by omega)]; omega
    have HB2 := hide hb2
    have HK := hide hk
    have HK1 := hide hk1
    have K0 : ∀ cc, 0 < cc → par cc = a → cc = k ∨ cc = k1 := fun cc h0 h1 => by unfold par at h1; omega
    have pk : par k = a := by unfold par; omega
    have pk1 : par k1 = a := by unfold par; omega
    have kpos : a < k := by omega
    have kpos1 : a < k1 := by omega
    have hkk1 : k < k1 := by omega
    clear hb2 hk hk1
    by_cases hkl : k < Lp.length
    · have i3 : (k : Int) < Lp.length := by omega
      by_cases hk1l : k1 < Lp.length
      · have i4 : (k1 : Int) < Lp.length := by omega
        have d4 : decide ((k1 : Int) < Lp.length) = true := decide_eq_true i4
        have x0 : ∀ w', Below wr.heap.size wr w' → w'.cell? ⟨g, k * 2, none⟩ = some (.int .i64 (gt Lp k).id) := fun w' hb => by
          rw [(HH.out.hp.below hb).own.cellAt (k * 2) (by omega), gt_get hkl]; exact ldCells_get Lp k 0 hkl (by omega)
        have x1 : ∀ w', Below wr.heap.size wr w' → w'.cell? ⟨g, k * 2 + 1, none⟩ = some (.int .i64 (gt Lp k).n) := fun w' hb => by
          rw [(HH.out.hp.below hb).own.cellAt (k * 2 + 1) (by omega), gt_get hkl]; exact ldCells_get Lp k 1 hkl (by omega)
        have z0 : ∀ w', Below wr.heap.size wr w' → w'.cell? ⟨g, k1 * 2, none⟩ = some (.int .i64 (gt Lp k1).id) := fun w' hb => by
          rw [(HH.out.hp.below hb).own.cellAt (k1 * 2) (by omega), gt_get hk1l]; exact ldCells_get Lp k1 0 hk1l (by omega)
        have z1 : ∀ w', Below wr.heap.size wr w' → w'.cell? ⟨g, k1 * 2 + 1, none⟩ = some (.int .i64 (gt Lp k1).n) := fun w' hb => by
          rw [(HH.out.hp.below hb).own.cellAt (k1 * 2 + 1) (by omega), gt_get hk1l]; exact ldCells_get Lp k1 1 hk1l (by omega)
        have c0r := c0 wr r0
        go_wp2
        refine region_lexg (fun w' => Below wr.heap.size wr w') [] 0 [(2, 0), (2, 1), (2, 2), (2, 3), (2, 4), (0, 5), (2, 6), (2, 7), (2, 8), (2, 9), (2, 10), (2, 11), (0, 12), (2, 13), (2, 14), (2, 15), (0, 16), (2, 17), (2, 18), (2, 19), (0, 20), (2, 21), (2, 22), (0, 23), (1, 24), (2, 25), (2, 26)] #[true, true, true, true, true, true, true, true, true, true, true, true, true, true, true, true, true, true, true, true, true, true, true, true, true, true, true] (by kernel_rfl) (by kernel_rfl) (by decide) (by kernel_rfl) (by kernel_rfl) (fun _ _ _ _ _ h => h) (by (first | exact r0.drew | exact hb1)) (fun hS0 => ?_)
        simp only [List.map_cons, List.map_nil, List.getElem?_toArray, List.getElem?_cons_succ, List.getElem?_cons_zero]
        (apply lexg_pure (by rfl); (focus (intro w; go_simp; (try with_reducible rfl); done)); simp only [Act.put, List.setIfInBounds_toArray, List.set_cons_zero, List.set_cons_succ])
        (apply lexg_pure (by rfl); (focus (intro w; go_simp; (try with_reducible rfl); done)); simp only [Act.put, List.setIfInBounds_toArray, List.set_cons_zero, List.set_cons_succ])
        (apply lexg_pure (by rfl); (focus (intro w; go_simp; (try with_reducible rfl); done)); simp only [Act.put, List.setIfInBounds_toArray, List.set_cons_zero, List.set_cons_succ])
        (apply lexg_pure (by rfl); (focus (intro w; go_simp; (try with_reducible rfl); done)); simp only [Act.put, List.setIfInBounds_toArray, List.set_cons_zero, List.set_cons_succ])
        (apply lexg_pure (by rfl); (focus (intro w; go_simp; (try with_reducible rfl); done)); simp only [Act.put, List.setIfInBounds_toArray, List.set_cons_zero, List.set_cons_succ])
        (apply lexg_take (by rfl); (focus (intro w hw; (try dsimp only at hw); go_simp; (try with_reducible rfl); done)); simp only [Act.put, List.setIfInBounds_toArray, List.set_cons_zero, List.set_cons_succ])
        (apply lexg_pure (by rfl); (focus (intro w; go_simp; (try with_reducible rfl); done)); simp only [Act.put, List.setIfInBounds_toArray, List.set_cons_zero, List.set_cons_succ])
        (apply lexg_pure (by rfl); (focus (intro w; go_simp; (try with_reducible rfl); done)); simp only [Act.put, List.setIfInBounds_toArray, List.set_cons_zero, List.set_cons_succ])
        (apply lexg_pure (by rfl); (focus (intro w; go_simp; (try with_reducible rfl); done)); simp only [Act.put, List.setIfInBounds_toArray, List.set_cons_zero, List.set_cons_succ])
        first | (apply lexg_pure (by rfl); (focus (intro w; go_simp; (try with_reducible rfl); done)); simp only [Act.put, List.setIfInBounds_toArray, List.set_cons_zero, List.set_cons_succ]) | (refine lexg_skipP (by rfl) ?_; simp only [Act.put, List.setIfInBounds_toArray, List.set_cons_zero, List.set_cons_succ])
        first | (apply lexg_pure (by rfl); (focus (intro w; go_simp; (try with_reducible rfl); done)); simp only [Act.put, List.setIfInBounds_toArray, List.set_cons_zero, List.set_cons_succ]) | (refine lexg_skipP (by rfl) ?_; simp only [Act.put, List.setIfInBounds_toArray, List.set_cons_zero, List.set_cons_succ])
        first | (apply lexg_pure (by rfl); (focus (intro w; go_simp; (try with_reducible rfl); done)); simp only [Act.put, List.setIfInBounds_toArray, List.set_cons_zero, List.set_cons_succ]) | (refine lexg_skipP (by rfl) ?_; simp only [Act.put, List.setIfInBounds_toArray, List.set_cons_zero, List.set_cons_succ])
        first | (apply lexg_take (by rfl); (focus (intro w hw; (try dsimp only at hw); go_simp; (try with_reducible rfl); done)); simp only [Act.put, List.setIfInBounds_toArray, List.set_cons_zero, List.set_cons_succ]) | (refine lexg_skip (by rfl) ?_; simp only [Act.put, List.setIfInBounds_toArray, List.set_cons_zero, List.set_cons_succ])
        first | (apply lexg_pure (by rfl); (focus (intro w; go_simp; (try with_reducible rfl); done)); simp only [Act.put, List.setIfInBounds_toArray, List.set_cons_zero, List.set_cons_succ]) | (refine lexg_skipP (by rfl) ?_; simp only [Act.put, List.setIfInBounds_toArray, List.set_cons_zero, List.set_cons_succ])
        first | (apply lexg_pure (by rfl); (focus (intro w; go_simp; (try with_reducible rfl); done)); simp only [Act.put, List.setIfInBounds_toArray, List.set_cons_zero, List.set_cons_succ]) | (refine lexg_skipP (by rfl) ?_; simp only [Act.put, List.setIfInBounds_toArray, List.set_cons_zero, List.set_cons_succ])
        first | (apply lexg_pure (by rfl); (focus (intro w; go_simp; (try with_reducible rfl); done)); simp only [Act.put, List.setIfInBounds_toArray, List.set_cons_zero, List.set_cons_succ]) | (refine lexg_skipP (by rfl) ?_; simp only [Act.put, List.setIfInBounds_toArray, List.set_cons_zero, List.set_cons_succ])
        first | (apply lexg_take (by rfl); (focus (intro w hw; (try dsimp only at hw); go_simp; (try with_reducible rfl); done)); simp only [Act.put, List.setIfInBounds_toArray, List.set_cons_zero, List.set_cons_succ]) | (refine lexg_skip (by rfl) ?_; simp only [Act.put, List.setIfInBounds_toArray, List.set_cons_zero, List.set_cons_succ])
        first | (apply lexg_pure (by rfl); (focus (intro w; go_simp; (try with_reducible rfl); done)); simp only [Act.put, List.setIfInBounds_toArray, List.set_cons_zero, List.set_cons_succ]) | (refine lexg_skipP (by rfl) ?_; simp only [Act.put, List.setIfInBounds_toArray, List.set_cons_zero, List.set_cons_succ])
        first | (apply lexg_pure (by rfl); (focus (intro w; go_simp; (try with_reducible rfl); done)); simp only [Act.put, List.setIfInBounds_toArray, List.set_cons_zero, List.set_cons_succ]) | (refine lexg_skipP (by rfl) ?_; simp only [Act.put, List.setIfInBounds_toArray, List.set_cons_zero, List.set_cons_succ])
        first | (apply lexg_pure (by rfl); (focus (intro w; go_simp; (try with_reducible rfl); done)); simp only [Act.put, List.setIfInBounds_toArray, List.set_cons_zero, List.set_cons_succ]) | (refine lexg_skipP (by rfl) ?_; simp only [Act.put, List.setIfInBounds_toArray, List.set_cons_zero, List.set_cons_succ])
        first | (apply lexg_take (by rfl); (focus (intro w hw; (try dsimp only at hw); go_simp; (try with_reducible rfl); done)); simp only [Act.put, List.setIfInBounds_toArray, List.set_cons_zero, List.set_cons_succ]) | (refine lexg_skip (by rfl) ?_; simp only [Act.put, List.setIfInBounds_toArray, List.set_cons_zero, List.set_cons_succ])
        first | (apply lexg_pure (by rfl); (focus (intro w; go_simp; (try with_reducible rfl); done)); simp only [Act.put, List.setIfInBounds_toArray, List.set_cons_zero, List.set_cons_succ]) | (refine lexg_skipP (by rfl) ?_; simp only [Act.put, List.setIfInBounds_toArray, List.set_cons_zero, List.set_cons_succ])
        first | (apply lexg_pure (by rfl); (focus (intro w; go_simp; (try with_reducible rfl); done)); simp only [Act.put, List.setIfInBounds_toArray, List.set_cons_zero, List.set_cons_succ]) | (refine lexg_skipP (by rfl) ?_; simp only [Act.put, List.setIfInBounds_toArray, List.set_cons_zero, List.set_cons_succ])
        first | (apply lexg_take (by rfl); (focus (intro w hw; (try dsimp only at hw); go_simp; (try with_reducible rfl); done)); simp only [Act.put, List.setIfInBounds_toArray, List.set_cons_zero, List.set_cons_succ]) | (refine lexg_skip (by rfl) ?_; simp only [Act.put, List.setIfInBounds_toArray, List.set_cons_zero, List.set_cons_succ])
        first | (refine lexg_eff (by rfl) ?_; go_simp; ((go_at_call 74; (with_reducible refine (horder2 (gt Lp k1) (gt Lp k) _).mono ?_); rintro e w1 ⟨z, rfl, hz, hb⟩; have hb1 : Below wr.heap.size wr w1 := r0.drew.trans hb; clear hb)); refine lexg_both (by (first | exact r0.drew | exact hb1)) (fun hS1 => ?_)) | (refine lexg_effskip (by rfl) (by assumption) ?_; simp only [Act.put, List.setIfInBounds_toArray, List.set_cons_zero, List.set_cons_succ])
        first | (apply lexg_pure (by rfl); (focus (intro w; go_simp; (try with_reducible rfl); done)); simp only [Act.put, List.setIfInBounds_toArray, List.set_cons_zero, List.set_cons_succ]) | (refine lexg_skipP (by rfl) ?_; simp only [Act.put, List.setIfInBounds_toArray, List.set_cons_zero, List.set_cons_succ])
        (apply lexg_pure (by rfl); (focus (intro w; go_simp; (try with_reducible rfl); done)); simp only [Act.put, List.setIfInBounds_toArray, List.set_cons_zero, List.set_cons_succ])
        refine lexg_nil (fun _ => wpAnyG_done (by kernel_rfl) ?_ _)
        clear hz x0 x1 z0 z1 c0r
        cases hlt : ldLt (gt Lp k1) (gt Lp k) with
        | true =>
          have hs : ∀ cc, 0 < cc → cc < (Lp.set a e).length → par cc = a → ldLt (gt (Lp.set a e) cc) (gt Lp k1) = false := fun cc h0 h1 h2 => by
            rw [gt_set hal]
            rcases K0 cc h0 h2 with h3 | h3
            · rw [if_neg (by omega), h3]; exact no_of_lt hlt
            · rw [if_neg (by omega), h3, ldLt_no]; omega
          clear hlt
          -- the second test, and what follows: the child k1 is the lesser one
          have y0 : ∀ w', Below wr.heap.size wr w' → w'.cell? ⟨g, k1 * 2, none⟩ = some (.int .i64 (gt Lp k1).id) := fun w' hb => by
            rw [(HH.out.hp.below hb).own.cellAt (k1 * 2) (by omega), gt_get hk1l]; exact ldCells_get Lp k1 0 hk1l (by omega)
          have y1 : ∀ w', Below wr.heap.size wr w' → w'.cell? ⟨g, k1 * 2 + 1, none⟩ = some (.int .i64 (gt Lp k1).n) := fun w' hb => by
            rw [(HH.out.hp.below hb).own.cellAt (k1 * 2 + 1) (by omega), gt_get hk1l]; exact ldCells_get Lp k1 1 hk1l (by omega)
          have i9 : (k1 : Int) < Lp.length := by omega
          have HS2 := hide hs
          clear hs
          obtain ⟨wc, hwc⟩ : ∃ wc, w1 = wc := ⟨_, rfl⟩
          have hbc : Below wr.heap.size wr wc := by rw [← hwc]; exact hb1
          rw [hwc]
          clear hwc
          go_wp2
          refine region_lexg (fun w' => Below wr.heap.size wr w') [] 0 [(0, 0), (2, 1), (2, 2), (2, 3), (0, 4), (2, 5), (2, 6), (0, 7), (1, 8), (2, 9)] #[true, true, true, true, true, true, true, true, true, true] (by kernel_rfl) (by kernel_rfl) (by decide) (by kernel_rfl) (by kernel_rfl) (fun _ _ _ _ _ h => h) (by (first | exact hbc.drew | exact hbd)) (fun hS0 => ?_)
          simp only [List.map_cons, List.map_nil, List.getElem?_toArray, List.getElem?_cons_succ, List.getElem?_cons_zero]
          (apply lexg_take (by rfl); (focus (intro w hw; (try dsimp only at hw); go_simp; (try with_reducible rfl); done)); simp only [Act.put, List.setIfInBounds_toArray, List.set_cons_zero, List.set_cons_succ])
          (apply lexg_pure (by rfl); (focus (intro w; go_simp; (try with_reducible rfl); done)); simp only [Act.put, List.setIfInBounds_toArray, List.set_cons_zero, List.set_cons_succ])
          (apply lexg_pure (by rfl); (focus (intro w; go_simp; (try with_reducible rfl); done)); simp only [Act.put, List.setIfInBounds_toArray, List.set_cons_zero, List.set_cons_succ])
          (apply lexg_pure (by rfl); (focus (intro w; go_simp; (try with_reducible rfl); done)); simp only [Act.put, List.setIfInBounds_toArray, List.set_cons_zero, List.set_cons_succ])
          (apply lexg_take (by rfl); (focus (intro w hw; (try dsimp only at hw); go_simp; (try with_reducible rfl); done)); simp only [Act.put, List.setIfInBounds_toArray, List.set_cons_zero, List.set_cons_succ])
          (apply lexg_pure (by rfl); (focus (intro w; go_simp; (try with_reducible rfl); done)); simp only [Act.put, List.setIfInBounds_toArray, List.set_cons_zero, List.set_cons_succ])
          (apply lexg_pure (by rfl); (focus (intro w; go_simp; (try with_reducible rfl); done)); simp only [Act.put, List.setIfInBounds_toArray, List.set_cons_zero, List.set_cons_succ])
          (apply lexg_take (by rfl); (focus (intro w hw; (try dsimp only at hw); go_simp; (try with_reducible rfl); done)); simp only [Act.put, List.setIfInBounds_toArray, List.set_cons_zero, List.set_cons_succ])
          (refine lexg_eff (by rfl) ?_; go_simp; ((go_at_call 74; (with_reducible refine (horder2 e (gt Lp k1) _).mono ?_); rintro e w2 ⟨z, rfl, hz, hb⟩; have hbd : Below wr.heap.size wr w2 := (hbc.drew).trans (hb.mono (hbc.drew).size); clear hb)); refine lexg_both (by (first | exact hbc.drew | exact hbd)) (fun hS1 => ?_))
          (apply lexg_pure (by rfl); (focus (intro w; go_simp; (try with_reducible rfl); done)); simp only [Act.put, List.setIfInBounds_toArray, List.set_cons_zero, List.set_cons_succ])
          refine lexg_nil (fun _ => wpAnyG_done (by kernel_rfl) ?_ _)
          have b0' := b0 w2 hbd
          have b1' := b1 w2 hbd
          have c0' := c0 w2 hbd
          have y0' := y0 w2 hbd
          have y1' := y1 w2 hbd
          clear b0 b1 c0 y0 y1 hz
          cases hlt : ldLt e (gt Lp k1) with
          | true =>
            have hok : HeapOk (Lp.set a e) := near_end HH.out.near HU.out (fun cc c0 cl pc => by
              have h1 := HS2.out cc c0 cl pc
              rw [HG.out]
              exact no_trans h1 (no_of_lt hlt))
            have HOK := hide hok
            clear hok hlt
            go_wp2_with fail
            with_reducible refine (FIN.out HOK.out w2 hbd).mono ?_
            rintro en w3 ⟨rfl, hfin⟩
            go_wp2
            go_end0
            exact ⟨rfl, hfin⟩
          | false =>
            have hst : Near (((Lp.set a (gt Lp k1)).set k1 e)) k1 ∧ UpOk ((Lp.set a (gt Lp k1)).set k1 e) k1 ∧ HV (upd f' (gt Lp k1).id (some (a : Int))) ((Lp.set a (gt Lp k1)).set k1 e) k1 ∧ ((Lp.set a (gt Lp k1)).set k1 e).Perm L := by
              have ha' : a < (Lp.set a e).length := by rw [List.length_set]; exact hal
              have hq' : k1 < (Lp.set a e).length := by rw [List.length_set]; exact hk1l
              have g1 : gt (Lp.set a e) k1 = gt Lp k1 := by rw [gt_set hal, if_neg (by omega)]
              have n1 := near_down HH.out.near HU.out hq' (by omega) pk1 (by rw [g1]; exact HS2.out) (by rw [HG.out, g1]; exact hlt)
              have v1 := HH.out.hv.step ha' hq' (by omega)
              have p1 := swap_perm ha' hq'
              rw [HG.out, g1, List.set_set] at n1 v1 p1
              exact ⟨n1.1, n1.2, v1, p1.trans HH.out.perm⟩
            have HST := hide hst
            have hsq : (f' (gt Lp k1).id).isSome = true := by
              have := HH.out.hv.isSome (a := k1) (by rw [List.length_set]; exact hk1l)
              rw [gt_set hal, if_neg (by omega)] at this
              exact this
            have HSQ := hide hsq
            have hyid : i64ok (gt Lp k1).id := by
              refine HID.out _ (HH.out.perm.subset ?_)
              have := gt_mem (M := Lp.set a e) (j := k1) (by rw [List.length_set]; exact hk1l)
              rw [gt_set hal, if_neg (by omega)] at this
              exact this
            have HY := hide hyid
            have HP1 := hide (HH.out.hp.below hbd)
            clear hst hsq hyid
            obtain ⟨y, hy⟩ : ∃ y, gt Lp k1 = y := ⟨_, rfl⟩
            rw [hy] at y0' y1' HST HSQ HY hlt
            rw [hy]
            clear hy hlt
            go_wp2_with fail
            with_reducible refine (put_again p (some ⟨g, 0, none⟩) cap bm c Lp f' a y w2 HP1.out hal HY.out hc hLp HSQ.out).mono ?_
            rintro en w3 ⟨rfl, h2, ch2⟩
            have hole2 : Hole w w3 p (some ⟨g, 0, none⟩) cap bm c nb L (Lp.set a y) e (upd f' y.id (some (a : Int))) k1 := by
              refine ⟨h2, by have := HH.out.len; omega, by rw [List.length_set]; exact HH.out.len, HST.out.2.2.1, HST.out.1, HST.out.2.2.2, (HH.out.blk.below hbd).chg ch2 ?_, (HH.out.chg.below hbd).same ch2, HH.out.nblo⟩
              intro hz
              have := HH.out.nblo
              have h5 := H.out.lt nb hz
              omega
            have HOLE2 := hide hole2
            have HU2 := hide HST.out.2.1
            have hll := HH.out.len
            clear hole2 h2 ch2 b0' b1' c0' y0' y1'
            go_wp2
            go_roundw
            case rel => exact ⟨k1, _, _, rfl, HOLE2.out, HU2.out⟩
            case measure => simp [intOf]; omega
        | false =>
          have hs : ∀ cc, 0 < cc → cc < (Lp.set a e).length → par cc = a → ldLt (gt (Lp.set a e) cc) (gt Lp k) = false := fun cc h0 h1 h2 => by
            rw [gt_set hal]
            rcases K0 cc h0 h2 with h3 | h3
            · rw [if_neg (by omega), h3, ldLt_no]; omega
            · rw [if_neg (by omega), h3]; exact hlt
          clear hlt
          -- the second test, and what follows: the child k is the lesser one
          have y0 : ∀ w', Below wr.heap.size wr w' → w'.cell? ⟨g, k * 2, none⟩ = some (.int .i64 (gt Lp k).id) := fun w' hb => by
            rw [(HH.out.hp.below hb).own.cellAt (k * 2) (by omega), gt_get hkl]; exact ldCells_get Lp k 0 hkl (by omega)
          have y1 : ∀ w', Below wr.heap.size wr w' → w'.cell? ⟨g, k * 2 + 1, none⟩ = some (.int .i64 (gt Lp k).n) := fun w' hb => by
            rw [(HH.out.hp.below hb).own.cellAt (k * 2 + 1) (by omega), gt_get hkl]; exact ldCells_get Lp k 1 hkl (by omega)
          have i9 : (k : Int) < Lp.length := by omega
          have HS2 := hide hs
          clear hs
          obtain ⟨wc, hwc⟩ : ∃ wc, w1 = wc := ⟨_, rfl⟩
          have hbc : Below wr.heap.size wr wc := by rw [← hwc]; exact hb1
          rw [hwc]
          clear hwc
          go_wp2
          refine region_lexg (fun w' => Below wr.heap.size wr w') [] 0 [(0, 0), (2, 1), (2, 2), (2, 3), (0, 4), (2, 5), (2, 6), (0, 7), (1, 8), (2, 9)] #[true, true, true, true, true, true, true, true, true, true] (by kernel_rfl) (by kernel_rfl) (by decide) (by kernel_rfl) (by kernel_rfl) (fun _ _ _ _ _ h => h) (by (first | exact hbc.drew | exact hbd)) (fun hS0 => ?_)
          simp only [List.map_cons, List.map_nil, List.getElem?_toArray, List.getElem?_cons_succ, List.getElem?_cons_zero]
          (apply lexg_take (by rfl); (focus (intro w hw; (try dsimp only at hw); go_simp; (try with_reducible rfl); done)); simp only [Act.put, List.setIfInBounds_toArray, List.set_cons_zero, List.set_cons_succ])
          (apply lexg_pure (by rfl); (focus (intro w; go_simp; (try with_reducible rfl); done)); simp only [Act.put, List.setIfInBounds_toArray, List.set_cons_zero, List.set_cons_succ])
          (apply lexg_pure (by rfl); (focus (intro w; go_simp; (try with_reducible rfl); done)); simp only [Act.put, List.setIfInBounds_toArray, List.set_cons_zero, List.set_cons_succ])
          (apply lexg_pure (by rfl); (focus (intro w; go_simp; (try with_reducible rfl); done)); simp only [Act.put, List.setIfInBounds_toArray, List.set_cons_zero, List.set_cons_succ])
          (apply lexg_take (by rfl); (focus (intro w hw; (try dsimp only at hw); go_simp; (try with_reducible rfl); done)); simp only [Act.put, List.setIfInBounds_toArray, List.set_cons_zero, List.set_cons_succ])
          (apply lexg_pure (by rfl); (focus (intro w; go_simp; (try with_reducible rfl); done)); simp only [Act.put, List.setIfInBounds_toArray, List.set_cons_zero, List.set_cons_succ])
          (apply lexg_pure (by rfl); (focus (intro w; go_simp; (try with_reducible rfl); done)); simp only [Act.put, List.setIfInBounds_toArray, List.set_cons_zero, List.set_cons_succ])
          (apply lexg_take (by rfl); (focus (intro w hw; (try dsimp only at hw); go_simp; (try with_reducible rfl); done)); simp only [Act.put, List.setIfInBounds_toArray, List.set_cons_zero, List.set_cons_succ])
          (refine lexg_eff (by rfl) ?_; go_simp; ((go_at_call 74; (with_reducible refine (horder2 e (gt Lp k) _).mono ?_); rintro e w2 ⟨z, rfl, hz, hb⟩; have hbd : Below wr.heap.size wr w2 := (hbc.drew).trans (hb.mono (hbc.drew).size); clear hb)); refine lexg_both (by (first | exact hbc.drew | exact hbd)) (fun hS1 => ?_))
          (apply lexg_pure (by rfl); (focus (intro w; go_simp; (try with_reducible rfl); done)); simp only [Act.put, List.setIfInBounds_toArray, List.set_cons_zero, List.set_cons_succ])
          refine lexg_nil (fun _ => wpAnyG_done (by kernel_rfl) ?_ _)
          have b0' := b0 w2 hbd
          have b1' := b1 w2 hbd
          have c0' := c0 w2 hbd
          have y0' := y0 w2 hbd
          have y1' := y1 w2 hbd
          clear b0 b1 c0 y0 y1 hz
          cases hlt : ldLt e (gt Lp k) with
          | true =>
            have hok : HeapOk (Lp.set a e) := near_end HH.out.near HU.out (fun cc c0 cl pc => by
              have h1 := HS2.out cc c0 cl pc
              rw [HG.out]
              exact no_trans h1 (no_of_lt hlt))
            have HOK := hide hok
            clear hok hlt
            go_wp2_with fail
            with_reducible refine (FIN.out HOK.out w2 hbd).mono ?_
            rintro en w3 ⟨rfl, hfin⟩
            go_wp2
            go_end0
            exact ⟨rfl, hfin⟩
          | false =>
            have hst : Near (((Lp.set a (gt Lp k)).set k e)) k ∧ UpOk ((Lp.set a (gt Lp k)).set k e) k ∧ HV (upd f' (gt Lp k).id (some (a : Int))) ((Lp.set a (gt Lp k)).set k e) k ∧ ((Lp.set a (gt Lp k)).set k e).Perm L := by
              have ha' : a < (Lp.set a e).length := by rw [List.length_set]; exact hal
              have hq' : k < (Lp.set a e).length := by rw [List.length_set]; exact hkl
              have g1 : gt (Lp.set a e) k = gt Lp k := by rw [gt_set hal, if_neg (by omega)]
              have n1 := near_down HH.out.near HU.out hq' (by omega) pk (by rw [g1]; exact HS2.out) (by rw [HG.out, g1]; exact hlt)
              have v1 := HH.out.hv.step ha' hq' (by omega)
              have p1 := swap_perm ha' hq'
              rw [HG.out, g1, List.set_set] at n1 v1 p1
              exact ⟨n1.1, n1.2, v1, p1.trans HH.out.perm⟩
            have HST := hide hst
            have hsq : (f' (gt Lp k).id).isSome = true := by
              have := HH.out.hv.isSome (a := k) (by rw [List.length_set]; exact hkl)
              rw [gt_set hal, if_neg (by omega)] at this
              exact this
            have HSQ := hide hsq
            have hyid : i64ok (gt Lp k).id := by
              refine HID.out _ (HH.out.perm.subset ?_)
              have := gt_mem (M := Lp.set a e) (j := k) (by rw [List.length_set]; exact hkl)
              rw [gt_set hal, if_neg (by omega)] at this
              exact this
            have HY := hide hyid
            have HP1 := hide (HH.out.hp.below hbd)
            clear hst hsq hyid
            obtain ⟨y, hy⟩ : ∃ y, gt Lp k = y := ⟨_, rfl⟩
            rw [hy] at y0' y1' HST HSQ HY hlt
            rw [hy]
            clear hy hlt
            go_wp2_with fail
            with_reducible refine (put_again p (some ⟨g, 0, none⟩) cap bm c Lp f' a y w2 HP1.out hal HY.out hc hLp HSQ.out).mono ?_
            rintro en w3 ⟨rfl, h2, ch2⟩
            have hole2 : Hole w w3 p (some ⟨g, 0, none⟩) cap bm c nb L (Lp.set a y) e (upd f' y.id (some (a : Int))) k := by
              refine ⟨h2, by have := HH.out.len; omega, by rw [List.length_set]; exact HH.out.len, HST.out.2.2.1, HST.out.1, HST.out.2.2.2, (HH.out.blk.below hbd).chg ch2 ?_, (HH.out.chg.below hbd).same ch2, HH.out.nblo⟩
              intro hz
              have := HH.out.nblo
              have h5 := H.out.lt nb hz
              omega
            have HOLE2 := hide hole2
            have HU2 := hide HST.out.2.1
            have hll := HH.out.len
            clear hole2 h2 ch2 b0' b1' c0' y0' y1'
            go_wp2
            go_roundw
            case rel => exact ⟨k, _, _, rfl, HOLE2.out, HU2.out⟩
            case measure => simp [intOf]; omega
      · have d4 : decide ((k1 : Int) < Lp.length) = false := decide_eq_false (by omega)
        have hs : ∀ cc, 0 < cc → cc < (Lp.set a e).length → par cc = a → ldLt (gt (Lp.set a e) cc) (gt Lp k) = false := fun cc h0 h1 h2 => by
          rw [List.length_set] at h1
          rw [gt_set hal]
          rcases K0 cc h0 h2 with h3 | h3
          · rw [if_neg (by omega), h3, ldLt_no]; omega
          · omega
        have c0r := c0 wr r0
        have R1 := r0.drew
        go_wp2
        refine region_lexg (fun w' => Below wr.heap.size wr w') [] 0 [(2, 0), (2, 1), (2, 2), (2, 3), (2, 4), (0, 5), (2, 6), (2, 7), (2, 8), (2, 9), (2, 10), (2, 11), (0, 12), (2, 13), (2, 14), (2, 15), (0, 16), (2, 17), (2, 18), (2, 19), (0, 20), (2, 21), (2, 22), (0, 23), (1, 24), (2, 25), (2, 26)] #[true, true, true, true, true, true, true, true, true, true, true, true, true, true, true, true, true, true, true, true, true, true, true, true, true, true, true] (by kernel_rfl) (by kernel_rfl) (by decide) (by kernel_rfl) (by kernel_rfl) (fun _ _ _ _ _ h => h) (by (first | exact r0.drew | exact hb1)) (fun hS0 => ?_)
        simp only [List.map_cons, List.map_nil, List.getElem?_toArray, List.getElem?_cons_succ, List.getElem?_cons_zero]
        (apply lexg_pure (by rfl); (focus (intro w; go_simp; (try with_reducible rfl); done)); simp only [Act.put, List.setIfInBounds_toArray, List.set_cons_zero, List.set_cons_succ])
        (apply lexg_pure (by rfl); (focus (intro w; go_simp; (try with_reducible rfl); done)); simp only [Act.put, List.setIfInBounds_toArray, List.set_cons_zero, List.set_cons_succ])
        (apply lexg_pure (by rfl); (focus (intro w; go_simp; (try with_reducible rfl); done)); simp only [Act.put, List.setIfInBounds_toArray, List.set_cons_zero, List.set_cons_succ])
        (apply lexg_pure (by rfl); (focus (intro w; go_simp; (try with_reducible rfl); done)); simp only [Act.put, List.setIfInBounds_toArray, List.set_cons_zero, List.set_cons_succ])
        (apply lexg_pure (by rfl); (focus (intro w; go_simp; (try with_reducible rfl); done)); simp only [Act.put, List.setIfInBounds_toArray, List.set_cons_zero, List.set_cons_succ])
        (apply lexg_take (by rfl); (focus (intro w hw; (try dsimp only at hw); go_simp; (try with_reducible rfl); done)); simp only [Act.put, List.setIfInBounds_toArray, List.set_cons_zero, List.set_cons_succ])
        (apply lexg_pure (by rfl); (focus (intro w; go_simp; (try with_reducible rfl); done)); simp only [Act.put, List.setIfInBounds_toArray, List.set_cons_zero, List.set_cons_succ])
        (apply lexg_pure (by rfl); (focus (intro w; go_simp; (try with_reducible rfl); done)); simp only [Act.put, List.setIfInBounds_toArray, List.set_cons_zero, List.set_cons_succ])
        (apply lexg_pure (by rfl); (focus (intro w; go_simp; (try with_reducible rfl); done)); simp only [Act.put, List.setIfInBounds_toArray, List.set_cons_zero, List.set_cons_succ])
        first | (apply lexg_pure (by rfl); (focus (intro w; go_simp; (try with_reducible rfl); done)); simp only [Act.put, List.setIfInBounds_toArray, List.set_cons_zero, List.set_cons_succ]) | (refine lexg_skipP (by rfl) ?_; simp only [Act.put, List.setIfInBounds_toArray, List.set_cons_zero, List.set_cons_succ])
        first | (apply lexg_pure (by rfl); (focus (intro w; go_simp; (try with_reducible rfl); done)); simp only [Act.put, List.setIfInBounds_toArray, List.set_cons_zero, List.set_cons_succ]) | (refine lexg_skipP (by rfl) ?_; simp only [Act.put, List.setIfInBounds_toArray, List.set_cons_zero, List.set_cons_succ])
        first | (apply lexg_pure (by rfl); (focus (intro w; go_simp; (try with_reducible rfl); done)); simp only [Act.put, List.setIfInBounds_toArray, List.set_cons_zero, List.set_cons_succ]) | (refine lexg_skipP (by rfl) ?_; simp only [Act.put, List.setIfInBounds_toArray, List.set_cons_zero, List.set_cons_succ])
        first | (apply lexg_take (by rfl); (focus (intro w hw; (try dsimp only at hw); go_simp; (try with_reducible rfl); done)); simp only [Act.put, List.setIfInBounds_toArray, List.set_cons_zero, List.set_cons_succ]) | (refine lexg_skip (by rfl) ?_; simp only [Act.put, List.setIfInBounds_toArray, List.set_cons_zero, List.set_cons_succ])
        first | (apply lexg_pure (by rfl); (focus (intro w; go_simp; (try with_reducible rfl); done)); simp only [Act.put, List.setIfInBounds_toArray, List.set_cons_zero, List.set_cons_succ]) | (refine lexg_skipP (by rfl) ?_; simp only [Act.put, List.setIfInBounds_toArray, List.set_cons_zero, List.set_cons_succ])
        first | (apply lexg_pure (by rfl); (focus (intro w; go_simp; (try with_reducible rfl); done)); simp only [Act.put, List.setIfInBounds_toArray, List.set_cons_zero, List.set_cons_succ]) | (refine lexg_skipP (by rfl) ?_; simp only [Act.put, List.setIfInBounds_toArray, List.set_cons_zero, List.set_cons_succ])
        first | (apply lexg_pure (by rfl); (focus (intro w; go_simp; (try with_reducible rfl); done)); simp only [Act.put, List.setIfInBounds_toArray, List.set_cons_zero, List.set_cons_succ]) | (refine lexg_skipP (by rfl) ?_; simp only [Act.put, List.setIfInBounds_toArray, List.set_cons_zero, List.set_cons_succ])
        first | (apply lexg_take (by rfl); (focus (intro w hw; (try dsimp only at hw); go_simp; (try with_reducible rfl); done)); simp only [Act.put, List.setIfInBounds_toArray, List.set_cons_zero, List.set_cons_succ]) | (refine lexg_skip (by rfl) ?_; simp only [Act.put, List.setIfInBounds_toArray, List.set_cons_zero, List.set_cons_succ])
        first | (apply lexg_pure (by rfl); (focus (intro w; go_simp; (try with_reducible rfl); done)); simp only [Act.put, List.setIfInBounds_toArray, List.set_cons_zero, List.set_cons_succ]) | (refine lexg_skipP (by rfl) ?_; simp only [Act.put, List.setIfInBounds_toArray, List.set_cons_zero, List.set_cons_succ])
        first | (apply lexg_pure (by rfl); (focus (intro w; go_simp; (try with_reducible rfl); done)); simp only [Act.put, List.setIfInBounds_toArray, List.set_cons_zero, List.set_cons_succ]) | (refine lexg_skipP (by rfl) ?_; simp only [Act.put, List.setIfInBounds_toArray, List.set_cons_zero, List.set_cons_succ])
        first | (apply lexg_pure (by rfl); (focus (intro w; go_simp; (try with_reducible rfl); done)); simp only [Act.put, List.setIfInBounds_toArray, List.set_cons_zero, List.set_cons_succ]) | (refine lexg_skipP (by rfl) ?_; simp only [Act.put, List.setIfInBounds_toArray, List.set_cons_zero, List.set_cons_succ])
        first | (apply lexg_take (by rfl); (focus (intro w hw; (try dsimp only at hw); go_simp; (try with_reducible rfl); done)); simp only [Act.put, List.setIfInBounds_toArray, List.set_cons_zero, List.set_cons_succ]) | (refine lexg_skip (by rfl) ?_; simp only [Act.put, List.setIfInBounds_toArray, List.set_cons_zero, List.set_cons_succ])
        first | (apply lexg_pure (by rfl); (focus (intro w; go_simp; (try with_reducible rfl); done)); simp only [Act.put, List.setIfInBounds_toArray, List.set_cons_zero, List.set_cons_succ]) | (refine lexg_skipP (by rfl) ?_; simp only [Act.put, List.setIfInBounds_toArray, List.set_cons_zero, List.set_cons_succ])
        first | (apply lexg_pure (by rfl); (focus (intro w; go_simp; (try with_reducible rfl); done)); simp only [Act.put, List.setIfInBounds_toArray, List.set_cons_zero, List.set_cons_succ]) | (refine lexg_skipP (by rfl) ?_; simp only [Act.put, List.setIfInBounds_toArray, List.set_cons_zero, List.set_cons_succ])
        first | (apply lexg_take (by rfl); (focus (intro w hw; (try dsimp only at hw); go_simp; (try with_reducible rfl); done)); simp only [Act.put, List.setIfInBounds_toArray, List.set_cons_zero, List.set_cons_succ]) | (refine lexg_skip (by rfl) ?_; simp only [Act.put, List.setIfInBounds_toArray, List.set_cons_zero, List.set_cons_succ])
        first | (refine lexg_eff (by rfl) ?_; go_simp; (skip); refine lexg_both (by (first | exact r0.drew | exact hb1)) (fun hS1 => ?_)) | (refine lexg_effskip (by rfl) (by assumption) ?_; simp only [Act.put, List.setIfInBounds_toArray, List.set_cons_zero, List.set_cons_succ])
        first | (apply lexg_pure (by rfl); (focus (intro w; go_simp; (try with_reducible rfl); done)); simp only [Act.put, List.setIfInBounds_toArray, List.set_cons_zero, List.set_cons_succ]) | (refine lexg_skipP (by rfl) ?_; simp only [Act.put, List.setIfInBounds_toArray, List.set_cons_zero, List.set_cons_succ])
        (apply lexg_pure (by rfl); (focus (intro w; go_simp; (try with_reducible rfl); done)); simp only [Act.put, List.setIfInBounds_toArray, List.set_cons_zero, List.set_cons_succ])
        refine lexg_nil (fun _ => wpAnyG_done (by kernel_rfl) ?_ _)
        clear c0r
        -- the second test, and what follows: the child k is the lesser one
        have y0 : ∀ w', Below wr.heap.size wr w' → w'.cell? ⟨g, k * 2, none⟩ = some (.int .i64 (gt Lp k).id) := fun w' hb => by
          rw [(HH.out.hp.below hb).own.cellAt (k * 2) (by omega), gt_get hkl]; exact ldCells_get Lp k 0 hkl (by omega)
        have y1 : ∀ w', Below wr.heap.size wr w' → w'.cell? ⟨g, k * 2 + 1, none⟩ = some (.int .i64 (gt Lp k).n) := fun w' hb => by
          rw [(HH.out.hp.below hb).own.cellAt (k * 2 + 1) (by omega), gt_get hkl]; exact ldCells_get Lp k 1 hkl (by omega)
        have i9 : (k : Int) < Lp.length := by omega
        have HS2 := hide hs
        clear hs
        obtain ⟨wc, hwc⟩ : ∃ wc, wr.drew = wc := ⟨_, rfl⟩
        have hbc : Below wr.heap.size wr wc := by rw [← hwc]; exact R1
        rw [hwc]
        clear hwc
        go_wp2
        refine region_lexg (fun w' => Below wr.heap.size wr w') [] 0 [(0, 0), (2, 1), (2, 2), (2, 3), (0, 4), (2, 5), (2, 6), (0, 7), (1, 8), (2, 9)] #[true, true, true, true, true, true, true, true, true, true] (by kernel_rfl) (by kernel_rfl) (by decide) (by kernel_rfl) (by kernel_rfl) (fun _ _ _ _ _ h => h) (by (first | exact hbc.drew | exact hbd)) (fun hS0 => ?_)
        simp only [List.map_cons, List.map_nil, List.getElem?_toArray, List.getElem?_cons_succ, List.getElem?_cons_zero]
        (apply lexg_take (by rfl); (focus (intro w hw; (try dsimp only at hw); go_simp; (try with_reducible rfl); done)); simp only [Act.put, List.setIfInBounds_toArray, List.set_cons_zero, List.set_cons_succ])
        (apply lexg_pure (by rfl); (focus (intro w; go_simp; (try with_reducible rfl); done)); simp only [Act.put, List.setIfInBounds_toArray, List.set_cons_zero, List.set_cons_succ])
        (apply lexg_pure (by rfl); (focus (intro w; go_simp; (try with_reducible rfl); done)); simp only [Act.put, List.setIfInBounds_toArray, List.set_cons_zero, List.set_cons_succ])
        (apply lexg_pure (by rfl); (focus (intro w; go_simp; (try with_reducible rfl); done)); simp only [Act.put, List.setIfInBounds_toArray, List.set_cons_zero, List.set_cons_succ])
        (apply lexg_take (by rfl); (focus (intro w hw; (try dsimp only at hw); go_simp; (try with_reducible rfl); done)); simp only [Act.put, List.setIfInBounds_toArray, List.set_cons_zero, List.set_cons_succ])
        (apply lexg_pure (by rfl); (focus (intro w; go_simp; (try with_reducible rfl); done)); simp only [Act.put, List.setIfInBounds_toArray, List.set_cons_zero, List.set_cons_succ])
        (apply lexg_pure (by rfl); (focus (intro w; go_simp; (try with_reducible rfl); done)); simp only [Act.put, List.setIfInBounds_toArray, List.set_cons_zero, List.set_cons_succ])
        (apply lexg_take (by rfl); (focus (intro w hw; (try dsimp only at hw); go_simp; (try with_reducible rfl); done)); simp only [Act.put, List.setIfInBounds_toArray, List.set_cons_zero, List.set_cons_succ])
        (refine lexg_eff (by rfl) ?_; go_simp; ((go_at_call 74; (with_reducible refine (horder2 e (gt Lp k) _).mono ?_); rintro e w2 ⟨z, rfl, hz, hb⟩; have hbd : Below wr.heap.size wr w2 := (hbc.drew).trans (hb.mono (hbc.drew).size); clear hb)); refine lexg_both (by (first | exact hbc.drew | exact hbd)) (fun hS1 => ?_))
        (apply lexg_pure (by rfl); (focus (intro w; go_simp; (try with_reducible rfl); done)); simp only [Act.put, List.setIfInBounds_toArray, List.set_cons_zero, List.set_cons_succ])
        refine lexg_nil (fun _ => wpAnyG_done (by kernel_rfl) ?_ _)
        have b0' := b0 w2 hbd
        have b1' := b1 w2 hbd
        have c0' := c0 w2 hbd
        have y0' := y0 w2 hbd
        have y1' := y1 w2 hbd
        clear b0 b1 c0 y0 y1 hz
        cases hlt : ldLt e (gt Lp k) with
        | true =>
          have hok : HeapOk (Lp.set a e) := near_end HH.out.near HU.out (fun cc c0 cl pc => by
            have h1 := HS2.out cc c0 cl pc
            rw [HG.out]
            exact no_trans h1 (no_of_lt hlt))
          have HOK := hide hok
          clear hok hlt
          go_wp2_with fail
          with_reducible refine (FIN.out HOK.out w2 hbd).mono ?_
          rintro en w3 ⟨rfl, hfin⟩
          go_wp2
          go_end0
          exact ⟨rfl, hfin⟩
        | false =>
          have hst : Near (((Lp.set a (gt Lp k)).set k e)) k ∧ UpOk ((Lp.set a (gt Lp k)).set k e) k ∧ HV (upd f' (gt Lp k).id (some (a : Int))) ((Lp.set a (gt Lp k)).set k e) k ∧ ((Lp.set a (gt Lp k)).set k e).Perm L := by
            have ha' : a < (Lp.set a e).length := by rw [List.length_set]; exact hal
            have hq' : k < (Lp.set a e).length := by rw [List.length_set]; exact hkl
            have g1 : gt (Lp.set a e) k = gt Lp k := by rw [gt_set hal, if_neg (by omega)]
            have n1 := near_down HH.out.near HU.out hq' (by omega) pk (by rw [g1]; exact HS2.out) (by rw [HG.out, g1]; exact hlt)
            have v1 := HH.out.hv.step ha' hq' (by omega)
            have p1 := swap_perm ha' hq'
            rw [HG.out, g1, List.set_set] at n1 v1 p1
            exact ⟨n1.1, n1.2, v1, p1.trans HH.out.perm⟩
          have HST := hide hst
          have hsq : (f' (gt Lp k).id).isSome = true := by
            have := HH.out.hv.isSome (a := k) (by rw [List.length_set]; exact hkl)
            rw [gt_set hal, if_neg (by omega)] at this
            exact this
          have HSQ := hide hsq
          have hyid : i64ok (gt Lp k).id := by
            refine HID.out _ (HH.out.perm.subset ?_)
            have := gt_mem (M := Lp.set a e) (j := k) (by rw [List.length_set]; exact hkl)
            rw [gt_set hal, if_neg (by omega)] at this
            exact this
          have HY := hide hyid
          have HP1 := hide (HH.out.hp.below hbd)
          clear hst hsq hyid
          obtain ⟨y, hy⟩ : ∃ y, gt Lp k = y := ⟨_, rfl⟩
          rw [hy] at y0' y1' HST HSQ HY hlt
          rw [hy]
          clear hy hlt
          go_wp2_with fail
          with_reducible refine (put_again p (some ⟨g, 0, none⟩) cap bm c Lp f' a y w2 HP1.out hal HY.out hc hLp HSQ.out).mono ?_
          rintro en w3 ⟨rfl, h2, ch2⟩
          have hole2 : Hole w w3 p (some ⟨g, 0, none⟩) cap bm c nb L (Lp.set a y) e (upd f' y.id (some (a : Int))) k := by
            refine ⟨h2, by have := HH.out.len; omega, by rw [List.length_set]; exact HH.out.len, HST.out.2.2.1, HST.out.1, HST.out.2.2.2, (HH.out.blk.below hbd).chg ch2 ?_, (HH.out.chg.below hbd).same ch2, HH.out.nblo⟩
            intro hz
            have := HH.out.nblo
            have h5 := H.out.lt nb hz
            omega
          have HOLE2 := hide hole2
          have HU2 := hide HST.out.2.1
          have hll := HH.out.len
          clear hole2 h2 ch2 b0' b1' c0' y0' y1'
          go_wp2
          go_roundw
          case rel => exact ⟨k, _, _, rfl, HOLE2.out, HU2.out⟩
          case measure => simp [intOf]; omega
    · have hok : HeapOk (Lp.set a e) := near_end HH.out.near HU.out (fun cc c0 cl pc => by
        rw [List.length_set] at cl
        rcases K0 cc c0 pc with h3 | h3 <;> omega)
      have HOK := hide hok
      have c0r := c0 wr r0
      have b0' := b0 wr r0
      have b1' := b1 wr r0
      clear hok b0 b1 c0
      go_wp2_with fail
      with_reducible refine (FIN.out HOK.out wr r0).mono ?_
      rintro en w3 ⟨rfl, hfin⟩
      go_wp2
      go_end0
      exact ⟨rfl, hfin⟩
end Go.Proofs.Ytjdkafamaoeifaa
