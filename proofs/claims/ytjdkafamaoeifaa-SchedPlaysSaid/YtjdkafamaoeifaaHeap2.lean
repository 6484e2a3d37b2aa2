/- The heap in memory; the walk through put. -/
import Derived.Test.YtjdkafamaoeifaaHeap
import Derived.Test.YtjdkafamaoeifaaReg2
namespace Go.Proofs.Ytjdkafamaoeifaa
open Go.RowKit Go.Proofs Go.Maps
set_option linter.unusedVariables false

/-- how many keys there are behind a store -/
def cntUp (c : Nat) (o : Option Int) : Nat := if o.isSome then c else c + 1
/-- a store into the map, in a region that draws -/
theorem IM.wp_put {o : Oper} {a : Act} {K : Act → World → Prop} {Q : Exit → Act → World → Prop} {w : World} {b c : Nat} {f : Int → Option Int} {k v : Int} (m x y : Operand)
    (ho : o.op = .mapUpdate 80 m x y) (hm : a.eval m = .map (some b)) (hx : a.eval x = .int .i64 k) (hy : a.eval y = .int .i64 v) (h : IM w b c f) (hk : i64ok k) (hv : i64ok v) (hc : c < 1000000)
    (hK : ∀ w', IM w' b (cntUp c (f k)) (upd f k (some v)) → Chg [b] w w' → K (a.put o.dst undef) w') : o.wp Try.prog a w K Q := by
  obtain ⟨w', hrun, r1, r2⟩ := h.put hk hv hc
  unfold Oper.wp
  simp [execOp, ho, hm, hx, hy, hrun, Result.andThen]
  exact hK w' r1 r2
/-- where a heap lies: in a block of its own, or as a part of one -/
structure Pl where
  b : Nat
  t : TypeId
  pre : List Value
  post : List Value
def Pl.o (p : Pl) : Nat := p.pre.length
def Pl.whole (b : Nat) : Pl := ⟨b, 82, [], []⟩
/-- the block, with a heap's two cells in their place -/
structure PBlk (w : World) (p : Pl) (sv mv : Value) : Prop where
  blk : Blk w p.b p.t (p.pre ++ sv :: mv :: p.post)
  ne : p.t ≠ 111
section
variable {w w' : World} {p : Pl} {sv mv u : Value} {L : List Nat}
theorem PBlk.cell0 (h : PBlk w p sv mv) : w.cell? ⟨p.b, p.o, none⟩ = some sv := by rw [h.blk.cell]; simp [Pl.o]
theorem PBlk.cell1 (h : PBlk w p sv mv) : w.cell? ⟨p.b, p.o + 1, none⟩ = some mv := by rw [h.blk.cell]; simp [Pl.o]
theorem PBlk.frozen0 (h : PBlk w p sv mv) : w.frozen? ⟨p.b, p.o, none⟩ = false := h.blk.frozen _
theorem PBlk.frozen1 (h : PBlk w p sv mv) : w.frozen? ⟨p.b, p.o + 1, none⟩ = false := h.blk.frozen _
theorem PBlk.lt (h : PBlk w p sv mv) : p.b < w.heap.size := h.blk.lt
theorem PBlk.chg (h : PBlk w p sv mv) (hc : Chg L w w') (hn : p.b ∉ L) : PBlk w' p sv mv := ⟨h.blk.chg hc hn, h.ne⟩
theorem PBlk.below (h : PBlk w p sv mv) (hc : Below w.heap.size w w') : PBlk w' p sv mv := ⟨h.blk.below hc, h.ne⟩
theorem PBlk.alloc (h : PBlk w p sv mv) (o : Obj) : PBlk (w.alloc o) p sv mv := ⟨h.blk.alloc o, h.ne⟩
theorem PBlk.set0 (h : PBlk w p sv mv) (u : Value) : PBlk (w.setCell ⟨p.b, p.o, none⟩ u) p u mv := ⟨by have := h.blk.set p.o u; simpa [Pl.o] using this, h.ne⟩
theorem PBlk.set1 (h : PBlk w p sv mv) (u : Value) : PBlk (w.setCell ⟨p.b, p.o + 1, none⟩ u) p sv u := ⟨by have := h.blk.set (p.o + 1) u; simpa [Pl.o, List.set_append] using this, h.ne⟩
theorem PBlk.rule0 (h : PBlk w p sv mv) : ∀ w', Below w.heap.size w w' → w'.cell? ⟨p.b, p.o, none⟩ = some sv := fun _ hb => (h.below hb).cell0
theorem PBlk.rule1 (h : PBlk w p sv mv) : ∀ w', Below w.heap.size w w' → w'.cell? ⟨p.b, p.o + 1, none⟩ = some mv := fun _ hb => (h.below hb).cell1
theorem PBlk.whole {b : Nat} (hb : w.heap.size = b) : PBlk (w.alloc (.cells [sv, mv].toArray 82)) (Pl.whole b) sv mv := ⟨Blk.new hb, by show 82 ≠ 111; decide⟩
end
/-- the heap in memory -/
structure HP (w : World) (p : Pl) (A : Option Addr) (cap bm c : Nat) (L : List Ld) (f : Int → Option Int) : Prop where
  blk : PBlk w p (.slice A L.length cap) (.map (some bm))
  own : w.ownsRow 0 111 2 (.slice A L.length cap) L.length (ldCells L)
  map : IM w bm c f
def hfoot (p : Pl) (A : Option Addr) (bm : Nat) : List Nat := p.b :: bm :: (A.map Addr.block).toList
theorem own_blk {w : World} {t : TypeId} {sz n c g : Nat} {A : Option Addr} {xs : List Value} (h : w.ownsRow 0 t sz (.slice A n c) n xs) (hg : (A.map Addr.block) = some g) : ∃ cs, w.heap[g]? = some (.cells cs t (0, 0)) := by
  rcases h.2 with ⟨e, _⟩ | ⟨g', cap, cur, e, _, hh, _⟩
  · cases e; cases hg
  · cases e; cases hg
    exact ⟨_, hh⟩
theorem IM.blk {w : World} {b c : Nat} {f : Int → Option Int} (h : IM w b c f) : ∃ es clock, w.heap[b]? = some (.map es clock) := by
  obtain ⟨D, ⟨es, clock, hb, _⟩, _⟩ := h
  exact ⟨es, clock, hb⟩
section
variable {w w' : World} {p : Pl} {cap bm c : Nat} {A : Option Addr} {L : List Ld} {f : Int → Option Int}
theorem HP.pm (h : HP w p A cap bm c L f) : p.b ≠ bm := by
  obtain ⟨es, clock, hb⟩ := h.map.blk
  intro e
  have := h.blk.blk
  unfold Blk at this
  rw [e, hb] at this
  cases this
theorem HP.pA (h : HP w p A cap bm c L f) {g : Nat} (hg : A.map Addr.block = some g) : g ≠ p.b := by
  obtain ⟨cs, hb⟩ := own_blk h.own hg
  intro e
  have := h.blk.blk
  unfold Blk at this
  rw [← e, hb] at this
  simp at this
  exact h.blk.ne this.2.symm
theorem HP.mA (h : HP w p A cap bm c L f) {g : Nat} (hg : A.map Addr.block = some g) : g ≠ bm := by
  obtain ⟨cs, hb⟩ := own_blk h.own hg
  obtain ⟨es, clock, hb2⟩ := h.map.blk
  intro e
  rw [e, hb2] at hb
  cases hb
theorem HP.lt (h : HP w p A cap bm c L f) : ∀ z ∈ hfoot p A bm, z < w.heap.size := by
  intro z hz
  unfold hfoot at hz
  rcases List.mem_cons.1 hz with rfl | hz
  · exact h.blk.lt
  · rcases List.mem_cons.1 hz with rfl | hz
    · exact h.map.lt
    · obtain ⟨cs, hb⟩ := own_blk h.own (by simpa using hz)
      exact heap_lt hb
theorem HP.below (h : HP w p A cap bm c L f) (hb : Below w.heap.size w w') : HP w' p A cap bm c L f :=
  ⟨h.blk.below hb, own_chg h.own (Chg.of_below (L := []) hb) (fun _ _ hx => by cases hx), h.map.chg (Chg.of_below (L := []) hb) (by simp)⟩
theorem HP.chg {F : List Nat} (h : HP w p A cap bm c L f) (hc : Chg F w w') (hF : ∀ z ∈ hfoot p A bm, z ∉ F) : HP w' p A cap bm c L f :=
  ⟨h.blk.chg hc (hF _ (by simp [hfoot])), own_chg h.own hc (fun g hg hx => by rw [ownBlock_slice] at hg; exact hF g (by simp [hfoot, hg]) hx), h.map.chg hc (hF _ (by simp [hfoot]))⟩
theorem HP.some (h : HP w p A cap bm c L f) (hl : 0 < L.length) : ∃ g, A = some ⟨g, 0, none⟩ := by
  rcases h.own.2 with ⟨e, _⟩ | ⟨g, cp, cur, e, _⟩
  · injection e with e1 e2 e3; omega
  · injection e with e1 e2 e3; exact ⟨g, e1⟩
end
theorem ldCells_set {L : List Ld} {i : Nat} (x : Ld) (h : i < L.length) : ((ldCells L).set (i * 2) (.int .i64 x.id)).set (i * 2 + 1) (.int .i64 x.n) = ldCells (L.set i x) := by
  refine List.ext_getElem? fun j => ?_
  have hl : (ldCells L).length = L.length * 2 := ldCells_length L
  have hl2 : (ldCells (L.set i x)).length = L.length * 2 := by rw [ldCells_length, List.length_set]
  rw [List.getElem?_set, List.getElem?_set, List.length_set, hl]
  by_cases hj : j < L.length * 2
  · have e : j = j / 2 * 2 + j % 2 := by omega
    have hk : j / 2 < L.length := by omega
    have a1 := ldCells_get L (j / 2) (j % 2) hk (by omega)
    have a2 := ldCells_get (L.set i x) (j / 2) (j % 2) (by rw [List.length_set]; exact hk) (by omega)
    rw [← e] at a1 a2
    rw [a1, a2, List.getElem_set]
    rcases (show j % 2 = 0 ∨ j % 2 = 1 by omega) with h2 | h2
    · rw [h2, if_neg (by omega)]
      by_cases e2 : i = j / 2
      · rw [if_pos (by omega), if_pos (by omega), if_pos e2]; rfl
      · rw [if_neg (by omega), if_neg e2]
    · rw [h2]
      by_cases e2 : i = j / 2
      · rw [if_pos (by omega), if_pos (by omega), if_pos e2]; rfl
      · rw [if_neg (by omega), if_neg (by omega), if_neg e2]
  · rw [if_neg (by omega), if_neg (by omega), List.getElem?_eq_none (by omega), List.getElem?_eq_none (by omega)]
set_option maxHeartbeats 4000000 in
set_option maxRecDepth 100000 in
theorem put_calls (p : Pl) (A : Option Addr) (cap bm c : Nat) (L : List Ld) (f : Int → Option Int) (i : Nat) (x : Ld) (w : World) (h : HP w p A cap bm c L f) (hi : i < L.length) (hx : i64ok x.id) (hc : c < 1000000) (hL : L.length ≤ 1000000) :
    Calls Try.prog 75 #[.pointer (some ⟨p.b, p.o, none⟩), .int .i64 i, .agg #[.int .i64 x.id, .int .i64 x.n]] w fun e w' =>
      e = .returned (.tuple #[]) ∧ HP w' p A cap bm (cntUp c (f x.id)) (L.set i x) (upd f x.id (some (i : Int))) ∧ Chg (hfoot p A bm) w w' := by
  obtain ⟨g, rfl⟩ := h.some (by omega)
  have H0 := h.below ((Below.refl w.heap.size w).alloc (Nat.le_refl _) (.cells #[.int .i64 x.id, .int .i64 x.n] 111))
  have B0 := Blk.new (w := w) (cs := x.cells) (t := 111) rfl
  have C0 : Chg (hfoot p (some ⟨g, 0, none⟩) bm) w (w.alloc (.cells #[.int .i64 x.id, .int .i64 x.n] 111)) := (Chg.refl _ w).alloc _
  have hw := Nat.lt_irrefl w.heap.size
  have hgw : g < w.heap.size := h.lt g (by simp [hfoot])
  have hpw : p.b < w.heap.size := h.lt p.b (by simp [hfoot])
  have hmw : bm < w.heap.size := h.lt bm (by simp [hfoot])
  obtain ⟨w0, hw0⟩ : ∃ w0, w.alloc (.cells x.cells.toArray 111) = w0 := ⟨_, rfl⟩
  obtain ⟨nb, hnb⟩ : ∃ nb, w.heap.size = nb := ⟨_, rfl⟩
  rw [show w.alloc (.cells #[.int .i64 x.id, .int .i64 x.n] 111) = w0 from hw0] at H0 C0
  rw [hw0, hnb] at B0
  rw [hnb] at hgw hpw hmw
  go_enter Try.func75, Try.ntmps75
  go_wp2
  rw [show w.alloc (.cells #[.int .i64 x.id, .int .i64 x.n] 111) = w0 from hw0]
  have HW := hide hw0
  have HNB := hide hnb
  clear hw0 hnb hw
  have c0 : w0.cell? ⟨p.b, p.o, none⟩ = some (.slice (some ⟨g, 0, none⟩) L.length cap) := H0.blk.cell0
  have b0 : w0.cell? ⟨nb, 0, none⟩ = some (.int .i64 x.id) := B0.cell 0
  have b1 : w0.cell? ⟨nb, 1, none⟩ = some (.int .i64 x.n) := B0.cell 1
  have i1 : (i : Int) < L.length := by omega
  have fz : ∀ j, w0.frozen? ⟨g, j, none⟩ = false := fun j => H0.own.frozenAt j
  have f0 := fz (i * 2)
  have f1 := fz (i * 2 + 1)
  have e0 : ∃ v, w0.cell? ⟨g, i * 2, none⟩ = some v := ⟨_, (H0.own.cellAt (i * 2) (by omega)).trans (ldCells_get L i 0 hi (by omega))⟩
  have e1 : ∃ v, w0.cell? ⟨g, i * 2 + 1, none⟩ = some v := ⟨_, (H0.own.cellAt (i * 2 + 1) (by omega)).trans (ldCells_get L i 1 hi (by omega))⟩
  obtain ⟨v0, e0⟩ := e0
  obtain ⟨v1, e1⟩ := e1
  clear fz
  go_region
  have ch1 : Chg [g] w0 ((w0.setCell ⟨g, i * 2, none⟩ (.int .i64 x.id)).setCell ⟨g, i * 2 + 1, none⟩ (.int .i64 x.n)).drew := (((Chg.refl [g] w0).setCell (Or.inl (by simp)) _).setCell (Or.inl (by simp)) _).drew
  have ow1 : ((w0.setCell ⟨g, i * 2, none⟩ (.int .i64 x.id)).setCell ⟨g, i * 2 + 1, none⟩ (.int .i64 x.n)).drew.ownsRow 0 111 2 (.slice (some ⟨g, 0, none⟩) L.length cap) L.length (ldCells (L.set i x)) := by
    have a := ((H0.own.stored (i * 2) (.int .i64 x.id)).1.stored (i * 2 + 1) (.int .i64 x.n)).1
    rw [ldCells_set x hi] at a
    exact a
  have h1 : HP ((w0.setCell ⟨g, i * 2, none⟩ (.int .i64 x.id)).setCell ⟨g, i * 2 + 1, none⟩ (.int .i64 x.n)).drew p (some ⟨g, 0, none⟩) cap bm c (L.set i x) f :=
    ⟨by rw [List.length_set]; exact H0.blk.chg ch1 (by simpa using Ne.symm (H0.pA rfl)), by rw [List.length_set]; exact ow1, H0.map.chg ch1 (by simpa using Ne.symm (H0.mA rfl))⟩
  have B1 := B0.chg ch1 (by simp; omega)
  have C1 : Chg (hfoot p (some ⟨g, 0, none⟩) bm) w ((w0.setCell ⟨g, i * 2, none⟩ (.int .i64 x.id)).setCell ⟨g, i * 2 + 1, none⟩ (.int .i64 x.n)).drew := C0.trans ch1 (fun z hz => Or.inl (by rw [List.mem_singleton.1 hz]; simp [hfoot]))
  clear ch1 ow1 c0 b0 b1 f0 f1 e0 e1
  generalize ((w0.setCell ⟨g, i * 2, none⟩ (.int .i64 x.id)).setCell ⟨g, i * 2 + 1, none⟩ (.int .i64 x.n)).drew = w1 at *
  have c1 : ∀ w', Below w1.heap.size w1 w' → w'.cell? ⟨p.b, p.o + 1, none⟩ = some (.map (some bm)) := h1.blk.rule1
  have b0 : ∀ w', Below w1.heap.size w1 w' → w'.cell? ⟨nb, 0, none⟩ = some (.int .i64 x.id) := B1.rule 0 _ rfl
  have r0 := Below.refl w1.heap.size w1
  have M1 := h1.map
  go_wp2
  refine region_lexg (fun w' => Below w1.heap.size w1 w') [7] 0 [(2, 0), (2, 1), (2, 2), (0, 3), (2, 4), (0, 5), (2, 6), (3, 7)] #[true, true, true, true, true, true, true, true] (by kernel_rfl) (by kernel_rfl) (by decide) (by kernel_rfl) (by kernel_rfl) (fun _ _ _ _ _ h => h) (by (exact r0.drew)) (fun hS0 => ?_)
  simp only [List.map_cons, List.map_nil, List.getElem?_toArray, List.getElem?_cons_succ, List.getElem?_cons_zero]
  (apply lexg_pure (by rfl); (focus (intro w; go_simp; (try with_reducible rfl); done)); simp only [Act.put, List.setIfInBounds_toArray, List.set_cons_zero, List.set_cons_succ])
  (apply lexg_pure (by rfl); (focus (intro w; go_simp; (try with_reducible rfl); done)); simp only [Act.put, List.setIfInBounds_toArray, List.set_cons_zero, List.set_cons_succ])
  (apply lexg_pure (by rfl); (focus (intro w; go_simp; (try with_reducible rfl); done)); simp only [Act.put, List.setIfInBounds_toArray, List.set_cons_zero, List.set_cons_succ])
  (apply lexg_take (by rfl); (focus (intro w hw; (try dsimp only at hw); go_simp; (try with_reducible rfl); done)); simp only [Act.put, List.setIfInBounds_toArray, List.set_cons_zero, List.set_cons_succ])
  (apply lexg_pure (by rfl); (focus (intro w; go_simp; (try with_reducible rfl); done)); simp only [Act.put, List.setIfInBounds_toArray, List.set_cons_zero, List.set_cons_succ])
  (apply lexg_take (by rfl); (focus (intro w hw; (try dsimp only at hw); go_simp; (try with_reducible rfl); done)); simp only [Act.put, List.setIfInBounds_toArray, List.set_cons_zero, List.set_cons_succ])
  (apply lexg_pure (by rfl); (focus (intro w; go_simp; (try with_reducible rfl); done)); simp only [Act.put, List.setIfInBounds_toArray, List.set_cons_zero, List.set_cons_succ])
  (refine lexg_effN (by rfl) ?_; (refine IM.wp_put _ _ _ rfl rfl rfl rfl (M1.chg (Chg.of_below (L := []) r0.drew) (by simp)) hx (by unfold i64ok; omega) hc ?_; intro w2 M2 ch2); simp only [Act.put])
  refine lexg_nil (fun _ => wpAnyG_done (by kernel_rfl) ?_ _)
  have C2 : Chg (hfoot p (some ⟨g, 0, none⟩) bm) w w2 := (C1.drew).trans ch2 (fun z hz => Or.inl (by rw [List.mem_singleton.1 hz]; simp [hfoot]))
  have h2 : HP w2 p (some ⟨g, 0, none⟩) cap bm (cntUp c (f x.id)) (L.set i x) (upd f x.id (some (i : Int))) :=
    ⟨(h1.blk.below r0.drew).chg ch2 (by simpa using h1.pm), own_chg (own_chg h1.own (Chg.of_below (L := []) r0.drew) (fun _ _ hx => by cases hx)) ch2 (fun g' hg' hx => by
      rw [ownBlock_slice] at hg'
      exact h1.mA hg' (by simpa using hx)), M2⟩
  clear hS0 c1 b0 r0
  go_wp2
  go_end0
  exact ⟨rfl, h2, C2⟩
end Go.Proofs.Ytjdkafamaoeifaa
