/- The walks through rlog: New, Push, Get. -/
import Derived.Test.YtjdgkdaebkflpaaRlog
import Derived.Test.YtjdgkdaebkflpaaReg2
namespace Go.Proofs.Ytjdgkdaebkflpaa
open Go.RowKit

theorem Try.infoEnt : (Try.prog.info? 39).map (fun i => (i.zero, i.size, i.bytes)) = some (some (.agg #[.int .i64 0, .int .i64 0, .slice none 0 0]), 3, 40) := by kernel_rfl
theorem entCells_snoc (es : List Ent) (y : Ent) : entCells es ++ y.cells = entCells (es ++ [y]) := by simp [entCells]
theorem own_calls2 (x : Ent) (w : World) (h : EntOk w x) (hn : x.b.length ≤ 1099511627776) :
    Calls Try.prog 55 #[.agg #[.int .i64 x.t, .int .i64 x.k, .slice x.A x.b.length x.c]] w fun e w' => ∃ A' c', e = .returned (.agg #[.int .i64 x.t, .int .i64 x.k, .slice A' x.b.length c']) ∧ EntOk w' ⟨x.t, x.k, A', c', x.b⟩ ∧ Below w.heap.size w w' :=
  (own_calls x w h hn).mono fun e w' ⟨y, he, ⟨h1, h2, h3⟩, hy, hb⟩ => by
    obtain ⟨t, k, A, c, b⟩ := y
    dsimp only at h1 h2 h3
    subst h1 h2 h3
    exact ⟨A, c, he, hy, hb⟩
set_option maxHeartbeats 1000000 in
theorem new_calls (base term : Int) (w : World) (h0 : 0 ≤ base) (h1 : 0 ≤ term) :
    Calls Try.prog 19 #[.int .i64 base, .int .i64 term] w fun e w' => ∃ p, e = .returned (.pointer (some ⟨p, 0, none⟩)) ∧ w.heap.size ≤ p ∧ LogAt w' p none 0 base term [] ∧ Below w.heap.size w w' := by
  go_enter Try.func19, Try.ntmps19
  go_wp2
  go_ret
  exact ⟨w.heap.size, rfl, Nat.le_refl _, ⟨Blk.new rfl, ⟨rfl, Or.inl ⟨rfl, rfl⟩⟩, fun e he => by cases he⟩, (Below.refl _ _).alloc (Nat.le_refl _) _⟩
set_option maxHeartbeats 1000000 in
theorem new_none (base term : Int) (w : World) (h0 : base < 0 ∨ term < 0) :
    Calls Try.prog 19 #[.int .i64 base, .int .i64 term] w fun e w' => e = .returned (.pointer none) ∧ w = w' := by
  rcases h0 with h0 | h0
  · go_enter Try.func19, Try.ntmps19
    go_wp2
    go_ret
    exact ⟨rfl, rfl⟩
  · by_cases h1 : base < 0
    · go_enter Try.func19, Try.ntmps19
      go_wp2
      go_ret
      exact ⟨rfl, rfl⟩
    · go_enter Try.func19, Try.ntmps19
      go_wp2
      go_ret
      exact ⟨rfl, rfl⟩
set_option maxHeartbeats 2000000 in
theorem push_calls (p : Nat) (A : Option Addr) (cap : Nat) (base term : Int) (es : List Ent) (x : Ent) (w : World) (h : LogAt w p A cap base term es) (hx : EntOk w x) (h0 : 0 ≤ base) (h1 : base ≤ 4611686018427387904) (hn : es.length ≤ 1048576) (hxn : x.b.length ≤ 1099511627776) :
    Calls Try.prog 20 #[.pointer (some ⟨p, 0, none⟩), .agg #[.int .i64 x.t, .int .i64 x.k, .slice x.A x.b.length x.c]] w fun e w' => ∃ y A' cap', e = .returned (.int .i64 (base + es.length + 1)) ∧ x.is y ∧ LogAt w' p A' cap' base term (es ++ [y]) ∧ Chg (foot p A) w w' ∧ (∀ g ∈ foot p A', g ∈ foot p A ∨ w.heap.size ≤ g) := by
  obtain ⟨i0, hi, hz0, hz1, hz2⟩ := info_parts Try.infoEnt
  have B0 := Blk.new (w := w) (cs := x.cells) (t := 39) rfl
  have L0 := h.below ((Below.refl _ _).alloc (Nat.le_refl _) (.cells x.cells.toArray 39))
  have X0 := hx.below ((Below.refl _ _).alloc (Nat.le_refl _) (.cells x.cells.toArray 39))
  have R0 : Chg (foot p A) w (w.alloc (.cells x.cells.toArray 39)) := (Chg.refl _ w).alloc _
  obtain ⟨w0, hw0⟩ : ∃ w0, w.alloc (.cells x.cells.toArray 39) = w0 := ⟨_, rfl⟩
  go_enter Try.func20, Try.ntmps20
  go_wp2
  rw [show w.alloc (.cells #[.int .i64 x.t, .int .i64 x.k, .slice x.A x.b.length x.c] 39) = w0 from hw0]
  rw [hw0] at B0 L0 X0 R0
  clear hw0
  have c0 := L0.blk.rule 0 _ rfl
  have c2 := L0.blk.rule 2 _ rfl
  have b0 := B0.rule 0 _ rfl
  have b1 := B0.rule 1 _ rfl
  have b2 := B0.rule 2 _ rfl
  have r0 := Below.refl w0.heap.size w0
  refine region_lexg (fun w' => Below w0.heap.size w0 w') [8] 0 [(2, 0), (2, 1), (2, 2), (2, 3), (0, 4), (0, 5), (1, 6), (1, 7), (3, 8), (2, 9), (2, 10), (3, 11)] #[true, true, true, true, true, true, true, true, true, true, true, true] (by kernel_rfl) (by kernel_rfl) (by decide) (by kernel_rfl) (by kernel_rfl) (fun _ _ _ _ _ h => h) (by (first | exact r0.drew | exact hb1 | exact hb1.alloc hb1.size _)) (fun hS0 => ?_)
  simp only [List.map_cons, List.map_nil, List.getElem?_toArray, List.getElem?_cons_succ, List.getElem?_cons_zero]
  (apply lexg_pure (by rfl); (focus (intro w; go_simp; (try with_reducible rfl); done)); simp only [Act.put, List.setIfInBounds_toArray, List.set_cons_zero, List.set_cons_succ])
  (apply lexg_pure (by rfl); (focus (intro w; go_simp; (try with_reducible rfl); done)); simp only [Act.put, List.setIfInBounds_toArray, List.set_cons_zero, List.set_cons_succ])
  (apply lexg_pure (by rfl); (focus (intro w; go_simp; (try with_reducible rfl); done)); simp only [Act.put, List.setIfInBounds_toArray, List.set_cons_zero, List.set_cons_succ])
  (apply lexg_pure (by rfl); (focus (intro w; go_simp; (try with_reducible rfl); done)); simp only [Act.put, List.setIfInBounds_toArray, List.set_cons_zero, List.set_cons_succ])
  (apply lexg_take (by rfl); (focus (intro w hw; (try dsimp only at hw); go_simp; (try with_reducible rfl); done)); simp only [Act.put, List.setIfInBounds_toArray, List.set_cons_zero, List.set_cons_succ])
  (apply lexg_take (by rfl); (focus (intro w hw; (try dsimp only at hw); go_simp; (try with_reducible rfl); done)); simp only [Act.put, List.setIfInBounds_toArray, List.set_cons_zero, List.set_cons_succ])
  (refine lexg_eff (by rfl) ?_; go_simp; ((go_at_call 55; (with_reducible refine (own_calls2 x _ (X0.below r0.drew) hxn).mono ?_); rintro e w1 ⟨A', c', rfl, hy, hb⟩; have hb1 : Below w0.heap.size w0 w1 := r0.drew.trans hb; clear hb; have L1 := L0.below hb1)); refine lexg_both (by (first | exact r0.drew | exact hb1 | exact hb1.alloc hb1.size _)) (fun hS1 => ?_))
  (refine lexg_eff (by rfl) ?_; go_simp; refine lexg_both (by (first | exact r0.drew | exact hb1 | exact hb1.alloc hb1.size _)) (fun hS1 => ?_))
  (refine lexg_effN (by rfl) ?_; (refine app_wp _ _ 46 rfl 39 i0 _ 3 40 Try.underlying46 hi hz0 hz1 hz2 rfl (by decide) (.slice A es.length cap) es.length (entCells es) rfl (L1.own.alloc _) w1.heap.size 1 1 (Ent.cells ⟨x.t, x.k, A', c', x.b⟩) rfl (Blk.new rfl) rfl (by intro u hu; simp [Ent.cells] at hu; rcases hu with rfl | rfl | rfl <;> rfl) (by decide) (by unfold maxLen; omega) (by omega) ?_; intro g cap' w2 hown2 hch hor hlt; rw [ownBlock_slice] at hch hor; have P2 := (L1.blk.alloc _).chg hch L1.sep; have d2 := P2.cell 2; have d0 := P2.cell 0; have f2 := P2.frozen 2); simp only [Act.put, List.setIfInBounds_toArray, List.set_cons_zero, List.set_cons_succ])
  (apply lexg_pure (by rfl); (focus (intro w; go_simp; (try with_reducible rfl); done)); simp only [Act.put, List.setIfInBounds_toArray, List.set_cons_zero, List.set_cons_succ])
  (apply lexg_pure (by rfl); (focus (intro w; go_simp; (try with_reducible rfl); done)); simp only [Act.put, List.setIfInBounds_toArray, List.set_cons_zero, List.set_cons_succ])
  (refine lexg_effN (by rfl) ?_; go_simp)
  refine lexg_nil (fun _ => wpAnyG_done (by kernel_rfl) ?_ _)
  have E2 : ∀ e ∈ es ++ [⟨x.t, x.k, A', c', x.b⟩], EntOk w2 e := by
    have hnb : ∀ z ∈ (A.map Addr.block).toList, ¬ ByteBlk (w1.alloc (.cells (Ent.cells ⟨x.t, x.k, A', c', x.b⟩).toArray 39)) z := fun z hz =>
      (L1.below ((Below.refl _ _).alloc (Nat.le_refl _) _)).noByte z (by unfold foot; exact List.mem_cons_of_mem _ hz)
    intro e he
    rcases List.mem_append.1 he with he | he
    · exact ((L1.ok e he).below ((Below.refl _ _).alloc (Nat.le_refl _) _)).chg hch hnb
    · obtain rfl : e = ⟨x.t, x.k, A', c', x.b⟩ := by simpa using he
      exact (hy.below ((Below.refl _ _).alloc (Nat.le_refl _) _)).chg hch hnb
  have C2 : Chg (foot p A) w w2 := ((R0.below hb1).alloc _).trans hch (fun z hz => Or.inl (by unfold foot; exact List.mem_cons_of_mem _ hz))
  have hw01 : w.heap.size ≤ w1.heap.size := Nat.le_trans R0.size hb1.size
  have hg : g ∈ foot p A ∨ w.heap.size ≤ g := by
    rcases hor with hor | hor
    · exact Or.inl (by unfold foot; rw [hor]; simp)
    · exact Or.inr (by rw [hor]; simp; omega)
  have hgp : p ≠ g := by
    intro e
    obtain ⟨cs, hc⟩ := rowBlk hown2 (g := g) rfl
    rw [← e] at hc
    have := P2.symm.trans hc
    simp at this
  have P3 := P2.set 2 (.slice (some ⟨g, 0, none⟩) (es.length + 1) cap')
  have C3 : Chg [p] w2 (w2.setCell ⟨p, 2, none⟩ (.slice (some ⟨g, 0, none⟩) (es.length + 1) cap')) := (Chg.refl [p] w2).setCell (Or.inl (by simp)) _
  have O3 := own_chg hown2 C3 (fun z hz => by
    obtain rfl : g = z := by simpa [Value.ownBlock] using hz
    simpa using Ne.symm hgp)
  have E3 : ∀ e ∈ es ++ [⟨x.t, x.k, A', c', x.b⟩], EntOk (w2.setCell ⟨p, 2, none⟩ (.slice (some ⟨g, 0, none⟩) (es.length + 1) cap')) e := fun e he => (E2 e he).chg C3 (by simpa using P2.notByte (by decide))
  have LF : LogAt (w2.setCell ⟨p, 2, none⟩ (.slice (some ⟨g, 0, none⟩) (es.length + 1) cap')) p (some ⟨g, 0, none⟩) cap' base term (es ++ [⟨x.t, x.k, A', c', x.b⟩]) := by
    refine ⟨?_, ?_, E3⟩
    · have : (es ++ [(⟨x.t, x.k, A', c', x.b⟩ : Ent)]).length = es.length + 1 := by simp
      rw [this]; exact P3
    · have : (es ++ [(⟨x.t, x.k, A', c', x.b⟩ : Ent)]).length = es.length + 1 := by simp
      rw [this, ← entCells_snoc]; exact O3
  have CF : Chg (foot p A) w (w2.setCell ⟨p, 2, none⟩ (.slice (some ⟨g, 0, none⟩) (es.length + 1) cap')) := C2.trans C3 (fun z hz => Or.inl (by rw [List.mem_singleton.1 hz]; simp [foot]))
  have FF : ∀ z ∈ foot p (some ⟨g, 0, none⟩), z ∈ foot p A ∨ w.heap.size ≤ z := by
    intro z hz
    have : z = p ∨ z = g := by simpa [foot] using hz
    rcases this with rfl | rfl
    · exact Or.inl (by simp [foot])
    · exact hg
  have k0 := P3.cell 0
  have k2 := P3.cell 2
  simp only [List.set_cons_succ, List.set_cons_zero, List.getElem?_cons_zero, List.getElem?_cons_succ] at k0 k2
  generalize hw3 : w2.setCell ⟨p, 2, none⟩ (.slice (some ⟨g, 0, none⟩) (es.length + 1) cap') = w3 at *
  clear hw3 C2 C3 P2 P3 O3 E2 E3 d0 d2 f2 hch hown2 hor hlt hgp hg hw01 L1 hb1 hy c0 c2 b0 b1 b2 r0 R0 X0 L0 B0 hS1 hS0 hi
  have e1 : IntKind.i64.wrap (base + ((es.length : Int) + 1)) = base + es.length + 1 := by rw [IntWalk.i64_in _ (by omega)]; omega
  go_wp2
  go_quiet (fail)
  go_wp2
  go_ret
  exact ⟨⟨x.t, x.k, A', c', x.b⟩, _, _, rfl, ⟨rfl, rfl, rfl⟩, LF.drewN _, CF.drewN _, FF⟩
end Go.Proofs.Ytjdgkdaebkflpaa
