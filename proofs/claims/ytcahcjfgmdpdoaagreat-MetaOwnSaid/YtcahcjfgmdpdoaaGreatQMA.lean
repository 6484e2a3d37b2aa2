/- One text of: Mm Mw. -/
import Derived.Test.YtcahcjfgmdpdoaaGreatQVG
import Derived.Test.YtcahcjfgmdpdoaaGreatQBL
import Derived.Test.YtcahcjfgmdpdoaaGreatQND
import Derived.Test.YtcahcjfgmdpdoaaGreatQCmdb
set_option maxHeartbeats 4000000
set_option maxRecDepth 100000
namespace Go.Proofs.YtcahcjfgmdpdoaaGreat
open Go.RowKit Go.Proofs Go.Maps
set_option linter.unusedVariables false
set_option linter.unusedSimpArgs false

def VF (F : List Nat) (w : World) (b : Nat) (S : Vst) : Prop := ∃ no m1 m2 m3 V C, VM w no b m1 m2 m3 S V C ∧ ∀ x ∈ F, x ∈ no ∧ x ≠ b ∧ x ≠ m1 ∧ x ≠ m2 ∧ x ≠ m3
theorem VF.chg {F L : List Nat} {w w' : World} {b : Nat} {S : Vst} (h : VF F w b S) (hc : Chg L w w') (hL : ∀ x ∈ L, x ∈ F ∨ w.heap.size ≤ x) : VF F w' b S := by
 obtain ⟨no, m1, m2, m3, V, C, h, hk⟩ := h
 refine ⟨no, m1, m2, m3, V, C, h.other hc (fun x hx => ?_), hk⟩
 rcases hL x hx with h1 | h1
 ·exact ⟨Or.inl (hk x h1).1, (hk x h1).2⟩
 ·have g0 := h.blk.lt
  have g1 := h.t1.gm.lt; have g2 := h.t2.gm.lt; have g3 := h.t3.gm.lt
  exact ⟨Or.inr h1, by omega, by omega, by omega, by omega⟩
theorem VF.sub {F F' : List Nat} {w : World} {b : Nat} {S : Vst} (h : VF F w b S) (hs : ∀ x ∈ F', x ∈ F) : VF F' w b S := by
 obtain ⟨no, m1, m2, m3, V, C, h, hk⟩ := h
 exact ⟨no, m1, m2, m3, V, C, h, fun x hx => hk x (hs x hx)⟩
theorem VF.grow {F F' L : List Nat} {w w' : World} {b : Nat} {S : Vst} (h : VF F w b S) (hc : Chg L w w') (hL : ∀ x ∈ L, x ∈ F ∨ w.heap.size ≤ x) (hF : ∀ x ∈ F', (x ∈ F ∨ w.heap.size ≤ x) ∧ x < w'.heap.size) : VF F' w' b S := by
 obtain ⟨no, m1, m2, m3, V, C, h, hk⟩ := h; have g0 := h.blk.lt; have g1 := h.t1.gm.lt; have g2 := h.t2.gm.lt; have g3 := h.t3.gm.lt
 have hq : ∀ x, x ∈ F ∨ w.heap.size ≤ x → (x ∈ no ∨ w.heap.size ≤ x) ∧ x ≠ b ∧ x ≠ m1 ∧ x ≠ m2 ∧ x ≠ m3 := fun x hx => by
  rcases hx with h1 | h1
  ·exact ⟨Or.inl (hk x h1).1, (hk x h1).2⟩
  ·exact ⟨Or.inr h1, by omega, by omega, by omega, by omega⟩
 exact ⟨F' ++ no, m1, m2, m3, V, C, h.grow hc (fun x hx => hq x (hL x hx)) (G := F') (fun g hg => ⟨(hq g (hF g hg).1).1, (hF g hg).2⟩), fun x hx => ⟨List.mem_append_left _ hx, (hq x (hF x hx).1).2⟩⟩
theorem VF.lt {F : List Nat} {w : World} {b : Nat} {S : Vst} (h : VF F w b S) : b < w.heap.size := by
 obtain ⟨no, m1, m2, m3, V, C, h, hk⟩ := h
 exact h.blk.lt
theorem VF.step {w w' : World} {G F F' : List Nat} {b : Nat} {S : Vst} (h : VF (G ++ F) w b S) (hc : Chg F w w') (hF : ∀ z ∈ F', z ∈ F ∨ w.heap.size ≤ z) (hl : ∀ z ∈ F', z < w'.heap.size) (hG : ∀ g ∈ G, g < w'.heap.size) : VF (G ++ F') w' b S :=
 h.grow hc (fun z hz => Or.inl (List.mem_append_right _ hz)) (fun z hz => by
  rcases List.mem_append.1 hz with hz | hz
  ·exact ⟨Or.inl (List.mem_append_left _ hz), hG z hz⟩
  ·exact ⟨(hF z hz).imp (List.mem_append_right _) id, hl z hz⟩)
theorem VF.vs {F : List Nat} {w : World} {b n : Nat} {S : Vst} (h : VF F w b S) (ok : VOk S n) : VS w b S n := by
 obtain ⟨no, m1, m2, m3, V, C, h, _⟩ := h
 exact ⟨ok, no, m1, m2, m3, V, C, h⟩
theorem VF.below {F : List Nat} {w w' : World} {b : Nat} {S : Vst} (h : VF F w b S) (hb : Below w.heap.size w w') : VF F w' b S := h.chg (L := []) (Chg.of_below hb) (fun x hx => by cases hx)
theorem VF.ne {F : List Nat} {w : World} {b : Nat} {S : Vst} (h : VF F w b S) : b ∉ F := fun hx => by
 obtain ⟨no, m1, m2, m3, V, C, _, hk⟩ := h
 exact (hk b hx).2.1 rfl
theorem VF.hard {F : List Nat} {w : World} {b : Nat} {S : Vst} (h : VF F w b S) : HardL w [b] := by
 obtain ⟨no, m1, m2, m3, V, C, h, _⟩ := h
 exact HardL.cons (h.blk.hard (by decide) (by decide)) (fun g hg => by cases hg)
theorem VF.apply {F : List Nat} {w : World} {b n : Nat} {S : Vst} (h : VF F w b S) (hl : ∀ x ∈ F, x < w.heap.size) (ok : VOk S n) (hn : n ≤ 1000) (q : Cmd) (hq : q.ok) :
  Calls Tryz.prog 10 #[.pointer (some ⟨b, 0, none⟩), q.val] w fun e w' => e = .returned (.int .i64 (S.apply q).2) ∧ Chg [b] w w' ∧ VF F w' b (S.apply q).1 ∧ VOk (S.apply q).1 (n + 1) := by
 obtain ⟨no, m1, m2, m3, V, C, h, hk⟩ := h
 refine (vapplyN_calls w b n S q no m1 m2 m3 V C h ok hn hq).mono fun e w' ha => ?_
 obtain ⟨h0, no', a1, a2, a3, V', C', hv, hx, hm⟩ := ha.vs
 refine ⟨ha.ret, ha.chg, ⟨no', a1, a2, a3, V', C', hv, fun x h1 => ⟨hx x (hk x h1).1, (hk x h1).2.1, ?_⟩⟩, h0⟩
 rcases hm with ⟨rfl, rfl, rfl⟩ | ⟨g1, g2, g3⟩
 ·exact (hk x h1).2.2
 ·have := hl x h1
  omega
section
variable {w w' w1 : World} {nb : Nat} {p : Pl} {Fl Fv F G K : List Nat} {N : Nd}
theorem NodeM.hard (h : NodeM w nb F N) : HardL w F := by
 obtain ⟨p, Fl, Fv, h, rfl⟩ := h
 exact h.hard
theorem NodeM.lt (h : NodeM w nb F N) : ∀ x ∈ F, x < w.heap.size := fun x hx => (h.hard x hx).lt
theorem NodeM.other (h : NodeM w nb F N) (hc : Chg K w w') (hn : ∀ x ∈ F, x ∉ K) (hK : HardL w K) : NodeM w' nb F N := by
 obtain ⟨p, Fl, Fv, h, rfl⟩ := h; have n1 : ∀ x, x ∈ ft nb p Fl Fv → x ∉ K := hn
 exact ⟨p, Fl, Fv, ⟨h.blk.chg hc (n1 _ (ft_mem.2 (Or.inl rfl))), h.vlt.chg hc (fun x hx => n1 _ (ft_mem.2 (by simp [hx]))) hK.nob, h.log.keep hc (fun x hx => n1 _ (ft_mem.2 (by simp [hx]))) (fun x hx => (hK x hx).notByte), h.sm.chg hc hK, h.vo.chg hc hK, h.nx.chg hc (n1 _ (ft_mem.2 (by simp))), h.mx.chg hc (n1 _ (ft_mem.2 (by simp))), h.sep⟩, rfl⟩
end
def mnC (nb sb : Nat) (ix : Int) (rb : Nat) : List Value := [.pointer (some ⟨nb, 0, none⟩), .pointer (some ⟨sb, 0, none⟩), .int .i64 ix, .map (some rb)]
structure MP (w : World) (mb rb sb nb : Nat) (G F : List Nat) (N : Nd) (S : Vst) (n : Nat) (ix : Int) (cr : Nat) (R : Int → Option Value) : Prop where
 blk : Blk w mb 63 (mnC nb sb ix rb)
 np : NodeM w nb F N
 vf : VF (mb :: rb :: (G ++ F)) w sb S
 ok : VOk S n
 rm : GM w rb cr R
 cl : cr ≤ n
 ne : mb ≠ rb ∧ mb ∉ G ++ F ∧ rb ∉ G ++ F
 gl : ∀ x ∈ G, x < w.heap.size ∧ x ∉ F
section
variable {w w' : World} {mb rb sb nb n cr : Nat} {G F : List Nat} {N N' : Nd} {S : Vst} {ix : Int} {R : Int → Option Value}
theorem MP.below (h : MP w mb rb sb nb G F N S n ix cr R) (hb : Below w.heap.size w w') : MP w' mb rb sb nb G F N S n ix cr R :=
 ⟨h.blk.below hb, h.np.below hb, h.vf.below hb, h.ok, h.rm.chg (L := []) (Chg.of_below hb) (by simp), h.cl, h.ne, fun x hx => ⟨Nat.lt_of_lt_of_le (h.gl x hx).1 hb.size, (h.gl x hx).2⟩⟩
theorem MP.up (h : MP w mb rb sb nb G F N S n ix cr R) {m : Nat} (hm : n ≤ m) : MP w mb rb sb nb G F N S m ix cr R := ⟨h.blk, h.np, h.vf, h.ok.more hm, h.rm, Nat.le_trans h.cl hm, h.ne, h.gl⟩
theorem MP.lts (h : MP w mb rb sb nb G F N S n ix cr R) : ∀ x ∈ mb :: rb :: (G ++ F), x < w.heap.size := fun x hx => by
 rcases List.mem_cons.1 hx with rfl | hx
 ·exact h.blk.lt
 ·rcases List.mem_cons.1 hx with rfl | hx
  ·exact h.rm.lt
  ·exact (List.mem_append.1 hx).elim (fun h1 => (h.gl x h1).1) (h.np.lt x)
theorem MP.sne (h : MP w mb rb sb nb G F N S n ix cr R) : sb ≠ mb ∧ sb ≠ rb ∧ sb ∉ F := by
 have := h.vf.ne; simp only [List.mem_cons, List.mem_append, not_or] at this
 exact ⟨this.1, this.2.1, this.2.2.2⟩
theorem MP.raftF (h : MP w mb rb sb nb G F N S n ix cr R) {F' : List Nat} (h1 : NodeM w' nb F' N') (hc : Chg F w w') (hf : ∀ x ∈ F', x ∈ F ∨ w.heap.size ≤ x) : MP w' mb rb sb nb G F' N' S n ix cr R := by
 have hl := h.lts; have ne := h.ne; simp only [List.mem_append, not_or] at ne
 have nin : ∀ x, x < w.heap.size → x ∉ F → x ∉ F' := fun x hx hn hx' => (hf x hx').elim hn (fun h => by omega)
 have m1 := hl mb (by simp); have m2 := hl rb (by simp)
 refine ⟨h.blk.chg hc ne.2.1.2, h1, ?_, h.ok, h.rm.chg hc ne.2.2.2, h.cl, ⟨ne.1, ?_, ?_⟩, fun x hx => ⟨Nat.lt_of_lt_of_le (h.gl x hx).1 hc.size, nin x (h.gl x hx).1 (h.gl x hx).2⟩⟩
 ·have hs := h.vf.step (G := mb :: rb :: G) (F := F) (F' := F') hc hf h1.lt (fun g hg => Nat.lt_of_lt_of_le (hl g (by
   simp only [List.mem_cons, List.mem_append] at hg ⊢
   rcases hg with h | h | h
   ·exact Or.inl h
   ·exact Or.inr (Or.inl h)
   ·exact Or.inr (Or.inr (Or.inl h)))) hc.size)
  exact hs
 ·simp only [List.mem_append, not_or]; exact ⟨ne.2.1.1, nin mb m1 ne.2.1.2⟩
 ·simp only [List.mem_append, not_or]; exact ⟨ne.2.2.1, nin rb m2 ne.2.2.2⟩
theorem MP.raft (h : MP w mb rb sb nb G F N S n ix cr R) (ht : NodeT w w' nb F N') : ∃ F', MP w' mb rb sb nb G F' N' S n ix cr R ∧ Chg F w w' ∧ ∀ x ∈ F', x ∈ F ∨ w.heap.size ≤ x := by
 obtain ⟨F', h1, hc, hf⟩ := ht
 exact ⟨F', h.raftF h1 hc hf, hc, hf⟩
theorem MP.own (h : MP w mb rb sb nb G F N S n ix cr R) {ix' : Int} (hc : Chg [mb] w w') (hb : Blk w' mb 63 (mnC nb sb ix' rb)) : MP w' mb rb sb nb G F N S n ix' cr R := by
 have ne := h.ne; have hK : HardL w [mb] := HardL.cons (h.blk.hard (by decide) (by decide)) (fun g hg => by cases hg)
 exact ⟨hb, h.np.other hc (fun x hx hy => ne.2.1 (List.mem_append_right _ (List.mem_singleton.1 hy ▸ hx))) hK, h.vf.chg hc (fun x hx => Or.inl (by rw [List.mem_singleton.1 hx]; simp)), h.ok, h.rm.chg hc (fun hx => ne.1 (List.mem_singleton.1 hx).symm), h.cl, ne, fun x hx => ⟨Nat.lt_of_lt_of_le (h.gl x hx).1 hc.size, (h.gl x hx).2⟩⟩
theorem MP.put (h : MP w mb rb sb nb G F N S n ix cr R) {cr' : Nat} {R' : Int → Option Value} (hc : Chg [rb] w w') (hr : GM w' rb cr' R') (hcl : cr' ≤ n) : MP w' mb rb sb nb G F N S n ix cr' R' := by
 have ne := h.ne; have hK : HardL w [rb] := HardL.cons h.rm.hard (fun g hg => by cases hg)
 exact ⟨h.blk.chg hc (fun hx => ne.1 (List.mem_singleton.1 hx)), h.np.other hc (fun x hx hy => ne.2.2 (List.mem_append_right _ (List.mem_singleton.1 hy ▸ hx))) hK, h.vf.chg hc (fun x hx => Or.inl (by rw [List.mem_singleton.1 hx]; simp)), h.ok, hr, hcl, ne, fun x hx => ⟨Nat.lt_of_lt_of_le (h.gl x hx).1 hc.size, (h.gl x hx).2⟩⟩
theorem MP.state (h : MP w mb rb sb nb G F N S n ix cr R) {S' : Vst} {n' : Nat} (hc : Chg [sb] w w') (hv : VF (mb :: rb :: (G ++ F)) w' sb S') (ok : VOk S' n') (hn : n ≤ n') : MP w' mb rb sb nb G F N S' n' ix cr R := by
 have sn := h.sne
 exact ⟨h.blk.chg hc (fun hx => sn.1 (List.mem_singleton.1 hx).symm), h.np.other hc (fun x hx hy => sn.2.2 (List.mem_singleton.1 hy ▸ hx)) h.vf.hard, hv, ok, h.rm.chg hc (fun hx => sn.2.1 (List.mem_singleton.1 hx).symm), Nat.le_trans h.cl hn, h.ne, fun x hx => ⟨Nat.lt_of_lt_of_le (h.gl x hx).1 hc.size, (h.gl x hx).2⟩⟩
theorem MP.other (h : MP w mb rb sb nb G F N S n ix cr R) (hc : Chg G w w') (hG : HardL w G) : MP w' mb rb sb nb G F N S n ix cr R := by
 have ne := h.ne; simp only [List.mem_append, not_or] at ne
 exact ⟨h.blk.chg hc ne.2.1.1, h.np.other hc (fun x hx hy => (h.gl x hy).2 hx) hG, h.vf.chg hc (fun x hx => Or.inl (by simp [hx])), h.ok, h.rm.chg hc ne.2.2.1, h.cl, h.ne, fun x hx => ⟨Nat.lt_of_lt_of_le (h.gl x hx).1 hc.size, (h.gl x hx).2⟩⟩
theorem MP.beside (h : MP w mb rb sb nb G F N S n ix cr R) (hb : Below w.heap.size w w') {x : Nat} (h1 : w.heap.size ≤ x) (h2 : x < w'.heap.size) : MP w' mb rb sb nb (x :: G) F N S n ix cr R := by
 have hl := h.lts; have k := h.below hb; have ne := h.ne; have m1 := hl mb (by simp); have m2 := hl rb (by simp)
 refine ⟨k.blk, k.np, h.vf.grow (L := []) (Chg.of_below hb) (fun y hy => by cases hy) (fun y hy => ?_), k.ok, k.rm, k.cl, ⟨ne.1, ?_, ?_⟩, fun y hy => ?_⟩
 ·have hy' : y = x ∨ y ∈ mb :: rb :: (G ++ F) := by
   simp only [List.mem_cons, List.cons_append] at hy ⊢
   rcases hy with h | h | h | h
   ·exact Or.inr (Or.inl h)
   ·exact Or.inr (Or.inr (Or.inl h))
   ·exact Or.inl h
   ·exact Or.inr (Or.inr (Or.inr h))
  rcases hy' with rfl | hy'
  ·exact ⟨Or.inr h1, h2⟩
  ·exact ⟨Or.inl hy', Nat.lt_of_lt_of_le (hl y hy') hb.size⟩
 ·intro hx
  rcases List.mem_cons.1 hx with e | e
  ·omega
  ·exact ne.2.1 e
 ·intro hx
  rcases List.mem_cons.1 hx with e | e
  ·omega
  ·exact ne.2.2 e
 ·rcases List.mem_cons.1 hy with rfl | hy
  ·exact ⟨h2, fun hf => by have := h.np.lt _ hf; omega⟩
  ·exact k.gl y hy
end
theorem GM.wp_putV {mt et : TypeId} {o : Oper} {a : Act} {K : Act → World → Prop} {Q : Exit → Act → World → Prop} {w : World} {b c : Nat} {f : Int → Option Value} {k : Int} {v : Value} (m x y : Operand)
  (ho : o.op = .mapUpdate mt m x y) (hu : Tryz.prog.underlying mt = some (.map 3 et)) (hm : a.eval m = .map (some b)) (hx : a.eval x = .int .i64 k) (hy : a.eval y = v) (h : GM w b c f) (hk : i64ok k) (hc : c < 1000000)
  (hK : ∀ w', GM w' b (if (f k).isSome then c else c + 1) (updV f k (some v)) → Chg [b] w w' → K (a.put o.dst undef) w') : o.wp Tryz.prog a w K Q := by
 obtain ⟨w', hrun, r1, r2⟩ := h.put hk hu v hc; unfold Oper.wp
 simp [execOp, ho, hm, hx, hy, hrun, Result.andThen]
 exact hK w' r1 r2
theorem BytesAt.rd {w : World} {A : Option Addr} {b : List Nat} (h : BytesAt w A (bi b)) : Reads w w.heap.size 1 A b.length (bys b) :=
 ⟨by rw [bys_len, Nat.mul_one], fun h0 => by
  obtain ⟨z, o, e, hz, hc⟩ := h.2 (by rw [bi_len]; exact h0)
  refine ⟨z, o, e, hz.lt, fun j u hu => ?_⟩
  unfold bys at hu; rw [List.getElem?_map] at hu
  cases hj : b[j]? with
  |none => rw [hj] at hu; cases hu
  |some x =>
   rw [hj] at hu
   cases hu
   exact hc j x (by unfold bi; rw [List.getElem?_map, hj]; rfl)⟩

def stepA (i : Int) (c : Con) (x : Vst × (Int → Option Value)) : Vst × (Int → Option Value) :=
 if c.2.1 = 1 ∧ (rcmd (c.2.2.map Int.toNat)).2 = true then ((x.1.apply (rcmd (c.2.2.map Int.toNat)).1).1, updV x.2 i (some (.int .i64 (x.1.apply (rcmd (c.2.2.map Int.toNat)).1).2))) else x
def runA : Nat → List Con → Vst × (Int → Option Value) → Vst × (Int → Option Value)
 |_, [], x => x
 |i, c :: t, x => runA (i + 1) t (stepA ((i + 1 : Nat) : Int) c x)
theorem runA_drop {i : Nat} {L : List Con} {c : Con} (h : L[i]? = some c) (x : Vst × (Int → Option Value)) : runA i (L.drop i) x = runA (i + 1) (L.drop (i + 1)) (stepA ((i + 1 : Nat) : Int) c x) := by
 obtain ⟨hi, rfl⟩ := List.getElem?_eq_some_iff.1 h; rw [List.drop_eq_getElem_cons hi]
 rfl
theorem runA_end {i : Nat} {L : List Con} (h : L.length ≤ i) (x : Vst × (Int → Option Value)) : runA i (L.drop i) x = x := by
 rw [List.drop_of_length_le h]
 rfl
theorem bi_nat (b : List Nat) : (bi b).map Int.toNat = b := by
 unfold bi; rw [List.map_map]
 conv => rhs; rw [← List.map_id b]
 refine List.map_congr_left fun x _ => ?_
 simp
theorem rcmd_i64 {L : List Nat} (hb : ∀ x ∈ L, x < 256) : (rcmd L).1.ok := by
 cases h : (rcmd L).2 with
 |false =>
  rw [rcmd_no h]
  exact Cmd.ok_mk (by unfold i64ok; omega) (by unfold i64ok; omega) (by unfold i64ok; omega) (by unfold i64ok; omega)
 |true =>
  have h2 := (rcmd_ok hb h).2
  have h3 : ∀ n ∈ (rcmd L).1.nums, 0 ≤ n := by
   unfold rcmd at h ⊢
   split
   ·intro n hn
    simp only [Cmd.nums, Cmd.of, List.mem_cons, List.not_mem_nil, or_false] at hn
    rcases hn with rfl | rfl | rfl | rfl | rfl | rfl | rfl | rfl <;> exact Int.natCast_nonneg _
   ·intro n hn
    simp [Cmd.nums, Cmd.zero] at hn
    omega
  have h4 : ∀ n ∈ (rcmd L).1.nums, i64ok n := fun n hn => by
   have := h2 n hn; have := h3 n hn; unfold i64ok
   omega
  obtain ⟨q, hq⟩ : ∃ q, (rcmd L).1 = q := ⟨_, rfl⟩; rw [hq] at h4 ⊢
  exact ⟨h4 _ (by simp [Cmd.nums]), h4 _ (by simp [Cmd.nums]), h4 _ (by simp [Cmd.nums]), h4 _ (by simp [Cmd.nums])⟩
theorem apCells_get (X : List ApR) (k j : Nat) (hk : k < X.length) (hj : j < 4) : (apCells X)[k * 4 + j]? = X[k].cells[j]? := by
 induction X generalizing k with
 |nil => simp at hk
 |cons a t ih =>
  have hl : a.cells.length = 4 := rfl; unfold apCells at ih ⊢; rw [List.flatMap_cons]
  cases k with
  |zero => rw [List.getElem?_append_left (by omega)]; simp
  |succ k =>
   rw [List.getElem?_append_right (by omega), hl, show (k + 1) * 4 + j - 4 = k * 4 + j by omega, ih k (by simpa using hk)]
   rfl
theorem ap_at {w : World} {A : Option Addr} {c : Nat} {X : List ApR} (h : w.ownsRow 0 166 4 (.slice A X.length c) X.length (apCells X)) {j : Nat} (hj : j < X.length) :
  ∃ g, A = some ⟨g, 0, none⟩ ∧ g < w.heap.size ∧ X.length ≤ c ∧ w.cell? ⟨g, j * 4, none⟩ = some (.int .i64 X[j].i) ∧ w.cell? ⟨g, j * 4 + 1, none⟩ = some (.int .i64 X[j].e.t) ∧ w.cell? ⟨g, j * 4 + 2, none⟩ = some (.int .i64 X[j].e.k) ∧ w.cell? ⟨g, j * 4 + 3, none⟩ = some (.slice X[j].e.A X[j].e.b.length X[j].e.c) := by
 have hg : ∃ g, A = some ⟨g, 0, none⟩ ∧ X.length ≤ c := by
  rcases h.2 with ⟨e, e2⟩ | ⟨g, cap, cur, e2, _, _, hn, _⟩
  ·omega
  ·cases e2
   exact ⟨g, rfl, hn⟩
 obtain ⟨g, rfl, hn⟩ := hg
 have hc : ∀ q, q < 4 → ∀ v, X[j].cells[q]? = some v → w.cell? ⟨g, j * 4 + q, none⟩ = some v := fun q hq v hv => by
  have := h.cells (g := g) rfl (j * 4 + q) v (by rw [apCells_get X j q hj hq]; exact hv); rw [add_addr, Nat.zero_add] at this
  exact this
 exact ⟨g, rfl, own_lt h rfl, hn, hc 0 (by omega) _ rfl, hc 1 (by omega) _ rfl, hc 2 (by omega) _ rfl, hc 3 (by omega) _ rfl⟩
def AInv (W w1 wr : World) (mb rb sb nb : Nat) (G F : List Nat) (N : Nd) (n i : Nat) (L : List Con) (Q : Vst × (Int → Option Value)) : Prop := ∃ S R cr, MP wr mb rb sb nb G F N S n (i : Nat) cr R ∧ runA i (L.drop i) (S, R) = Q ∧ Chg [mb, sb, rb] w1 wr
def APD (W w w' : World) (mb rb sb nb : Nat) (G F : List Nat) (N : Nd) (n tn : Nat) (Q : Vst × (Int → Option Value)) : Prop := ∃ F' cr', MP w' mb rb sb nb G F' (N.tell (N.L.length : Nat)) Q.1 (n + (N.L.length - tn)) (N.L.length : Nat) cr' Q.2 ∧ (∀ x ∈ mb :: rb :: sb :: F', W.heap.size ≤ x) ∧ Below W.heap.size W w' ∧ Chg (mb :: rb :: sb :: F) w w'
section
variable {W w w' : World} {mb rb sb nb n cr tn : Nat} {G F : List Nat} {N : Nd} {S : Vst} {R : Int → Option Value}
theorem mapply_calls (h : MP w mb rb sb nb G F N S n (tn : Nat) cr R) (hge : ∀ x ∈ mb :: rb :: sb :: F, W.heap.size ≤ x) (hW : Below W.heap.size W w) (hk : ConOk N.L) (hl : N.L.length ≤ 900) (ht : N.told = tn) (hc : N.commit = N.L.length) (htn : tn ≤ N.L.length) (hn : n + N.L.length ≤ 900) :
  Calls Tryz.prog 43 #[.pointer (some ⟨mb, 0, none⟩)] w fun e w' => e = .returned (.bool true) ∧ APD W w w' mb rb sb nb G F N n tn (runA tn (N.L.drop tn) (S, R)) := by
 obtain ⟨Q, hQ⟩ : ∃ Q, runA tn (N.L.drop tn) (S, R) = Q := ⟨_, rfl⟩; rw [hQ]; obtain ⟨p, Fl, Fv, hnp, hF⟩ := h.np; have y0 : w.cell? ⟨mb, 0, none⟩ = some (.pointer (some ⟨nb, 0, none⟩)) := h.blk.cell 0; have HRE := hide (nrest_no hnp); have HAP := hide (napplied_calls (tn := tn) (cn := N.L.length) hnp hk.few (by omega) ht hc htn (Nat.le_refl _)); have H := hd7 h hge hW hk hl htn hn; have HF := hide hF; clear h hge hW hk hl ht hc htn hn hnp hF
 go_enter Tryz.func43, Tryz.ntmps43
 go_wp2_with fail
 with_reducible refine HRE.out.mono ?_
 rintro e w' ⟨rfl, rfl⟩; clear HRE; go_wp2_with fail
 with_reducible refine HAP.out.mono ?_
 rintro e w1 ⟨A, c, X, rfl, hap, hXn, hX, hn1, hc1⟩; obtain ⟨F1, hM1, hc1', hf1⟩ := H.out.1.raft (N' := N.tell (N.L.length : Nat)) ⟨F, ⟨p, Fl, Fv, hn1, HF.out⟩, hc1.mono (fun x hx => Or.inl (by rw [HF.out, List.mem_singleton.1 hx]; exact ft_mem.2 (Or.inl rfl))), fun x hx => Or.inl hx⟩
 have hge1 : ∀ x ∈ mb :: rb :: sb :: F1, W.heap.size ≤ x := fun x hx => by
  simp only [List.mem_cons] at hx
  rcases hx with rfl | rfl | rfl | hx
  ·exact H.out.2.1 _ (by simp)
  ·exact H.out.2.1 _ (by simp)
  ·exact H.out.2.1 _ (by simp)
  ·exact (hf1 x hx).elim (fun h => H.out.2.1 x (by simp [h])) (fun h => Nat.le_trans H.out.2.2.1.size h)
 have hW1 : Below W.heap.size W w1 := Chg.onto H.out.2.2.1 H.out.2.2.1.size hc1' (fun x hx => H.out.2.1 x (by simp [hx])); obtain ⟨m, hm⟩ : ∃ m, X.length = m := ⟨_, rfl⟩; have HI : Hid (AInv W w1 w1 mb rb sb nb G F1 (N.tell (N.L.length : Nat)) n tn N.L Q) := hide ⟨S, R, cr, hM1, hQ, Chg.refl _ _⟩
 have hmt : tn + m = N.L.length := by have := H.out; omega
 have hlo : mb < w.heap.size ∧ rb < w.heap.size ∧ sb < w.heap.size := by
  have hl := H.out.1.lts
  exact ⟨hl mb (by simp), hl rb (by simp), H.out.1.vf.lt⟩
 have hh1 : HardL w1 [mb, sb, rb] := HardL.cons (hM1.blk.hard (by decide) (by decide)) (HardL.cons (hM1.vf.hard sb (by simp)) (HardL.cons hM1.rm.hard (fun g hg => by cases hg))); have HH1 := hide hh1; have HX := hd5 hap hX hm hmt hlo; have H1 := hd2 hge1 hW1; have HCF := hide hc1'; rw [hm]; clear hap hXn hX hn1 hc1 hM1 hc1' hf1 hge1 hW1 hm hQ hmt hlo hh1 HAP y0
 have hm9 : m ≤ 900 := by have := HX.out.2.2.2.1; have := H.out; omega
 have HM9 := hide hm9; clear hm9; go_wp2
 go_loopw [9, 10, 11, 43, 44, 45, 46, 47, 48, 49, 50, 51, 52, 53, 54, 55, 56, 57, 58, 59, 60, 61, 62, 63, 64, 65, 66, 67, 68, 69, 70, 71, 72, 73, 74, 75, 76, 77, 78] (fun _ _ _ iv _ _ _ _ _ _ _ _ _ _ _ _ _ _ _ _ _ _ _ _ _ _ _ _ _ _ _ _ _ _ _ _ _ _ _ wr => ∃ (j : Nat), j ≤ m ∧ iv = .int .i64 j ∧ Hid (AInv W w1 wr mb rb sb nb G F1 (N.tell (N.L.length : Nat)) (n + j) (tn + j) N.L Q)) (fun _ _ _ iv _ _ _ _ _ _ _ _ _ _ _ _ _ _ _ _ _ _ _ _ _ _ _ _ _ _ _ _ _ _ _ _ _ _ _ _ => m - (Go.RowKit.intOf iv).toNat)
 case atStart => exact ⟨0, Nat.zero_le _, rfl, HI⟩
 case round =>
  clear HI; obtain ⟨j, hj, rfl, hI⟩ := hrel
  by_cases hlt : j < m
  ·have i1 : (j : Int) < m := by omega
   have i9 : j ≤ 900 := by have := HM9.out; omega
   obtain ⟨S1, R1, cr1, hmp, hq, hcg⟩ := hI.out
   have hjX : j < X.length := by rw [HX.out.2.2.1]; exact hlt
   have hrow := own_chg HX.out.1.1 hcg (fun g hg hx => by
    rw [owS] at hg; have h9 := HX.out.1.2.2 g hg; have h8 := HX.out.2.2.2.2; simp only [List.mem_cons, List.not_mem_nil, or_false] at hx
    omega)
   obtain ⟨gX, rfl, hgl, hmc, e0, e1, e2, e3⟩ := ap_at hrow hjX; obtain ⟨hL, hcon⟩ := HX.out.2.1 j hjX; have heo := EntOk.chg (HX.out.1.2.1 X[j] (List.getElem_mem _)) hcg (fun z hz => (HH1.out z hz).notByte); obtain ⟨x, hx⟩ : ∃ x, X[j] = x := ⟨_, rfl⟩; rw [hx] at e0 e1 e2 e3 hcon heo; rw [HX.out.2.2.1] at hmc; obtain ⟨xi, ⟨xt, xk, xA, xc, xb⟩⟩ := x; have hbb : ∀ z ∈ xb, 0 ≤ z ∧ z ≤ 255 := heo.2.2.1
   obtain ⟨b, rfl⟩ : ∃ b : List Nat, xb = bi b := ⟨xb.map Int.toNat, by
    unfold bi; rw [List.map_map]
    conv => lhs; rw [← List.map_id xb]
    refine List.map_congr_left fun z hz => ?_
    have := hbb z hz
    simp
    omega⟩
   have hb6 : ∀ z ∈ b, z < 256 := fun z hz => by have := hbb (z : Int) (by unfold bi; exact List.mem_map_of_mem hz); omega
   have hrd : BytesAt wr xA (bi b) := heo.2.2.2.2; unfold ApR.con Ent.con at hcon; simp only [Prod.mk.injEq] at hcon; obtain ⟨hxi, hcn⟩ := hcon
   have hbl : b.length ≤ 50000 := by
    obtain ⟨t', k', b', e', _, _, _, h5⟩ := H.out.2.2.2.1 _ (List.getElem_mem hL); rw [← hcn] at e'; have := congrArg (fun z : Con => z.2.2.length) e'; simp only [bi_len] at this
    omega
   rw [runA_drop (c := (xt, xk, bi b)) (by rw [List.getElem?_eq_getElem hL, ← hcn])] at hq; simp only [bi_len] at e0 e1 e2 e3; obtain ⟨bl, hbn⟩ : ∃ n, b.length = n := ⟨_, rfl⟩; rw [hbn] at e3; obtain ⟨wb, hwb⟩ : ∃ wb, wr.alloc (.cells #[.int .i64 xi, .int .i64 xt, .int .i64 xk, .slice xA bl xc] 166) = wb := ⟨_, rfl⟩; obtain ⟨bb, hbb2⟩ : ∃ bb, wr.heap.size = bb := ⟨_, rfl⟩
   have hbB : Below wr.heap.size wr wb := hwb ▸ belowL (Below.refl _ _) _
   have bX : Blk wb bb 166 [.int .i64 xi, .int .i64 xt, .int .i64 xk, .slice xA bl xc] := by rw [← hwb, ← hbb2]; exact Blk.new rfl
   have q2 := (hmp.below hbB).blk.cell 2; have f2 := (hmp.below hbB).blk.frozen 2; simp only [mnC, List.getElem?_cons_succ, List.getElem?_cons_zero] at q2; have x0 : wb.cell? ⟨bb, 0, none⟩ = some (.int .i64 xi) := bX.cell 0; have HB := hd7 hbB bX hb6 hrd hxi hbl hbn; have HWB := hd2 hwb hbb2; have HMP := hd3 hmp hq hcg; clear hbB bX hb6 hrd hxi hbl hbn hwb hbb2 hmp hq hcg hbb heo hcn hx hrow hI hjX hL
   go_upto_region 10 with fail
   rw [HWB.out.1, HWB.out.2]
   go_upto_region 11 with fail
   have hbbv : bb = wr.heap.size := HWB.out.2.symm; obtain ⟨wc, hwc⟩ : ∃ wc, wb.setCell ⟨mb, 2, none⟩ (.int .i64 xi) = wc := ⟨_, rfl⟩
   have cC : Chg [mb] wb wc := by rw [← hwc]; exact (Chg.refl [mb] wb).setCell (p := ⟨mb, 2, none⟩) (Or.inl (by simp)) _
   have bM := (HMP.out.1.below HB.out.1).blk.set 2 (.int .i64 xi); rw [hwc] at bM; have hMc := (HMP.out.1.below HB.out.1).own cC bM; have hml : mb < wr.heap.size := HMP.out.1.blk.lt; have bXc := HB.out.2.1.chg cC (fun hx => by have := List.mem_singleton.1 hx; omega); have hby := ((HB.out.2.2.2.1.below HB.out.1).chg cC (fun z hz => by rw [List.mem_singleton.1 hz]; exact ((HMP.out.1.below HB.out.1).blk.hard (by decide) (by decide)).notByte)).rd; have HRD := vread_calls wc xA xc b hby (by have := HB.out; omega) HB.out.2.2.1; rw [HB.out.2.2.2.2.2.2] at HRD; obtain ⟨⟨q, is⟩, hqq⟩ : ∃ z, rcmd b = z := ⟨_, rfl⟩; rw [hqq] at HRD; obtain ⟨k0, a0, b0, c0, ⟨qr, qw, ql, qb⟩⟩ := q; unfold Cmd.val Cmd.cells at HRD; simp only [] at HRD; have HRD := hide HRD; have x3 : wc.cell? ⟨bb, 3, none⟩ = some (.slice xA bl xc) := bXc.cell 3; have cW : Chg [mb, sb, rb] w1 wc := (HMP.out.2.2.below HB.out.1).trans cC (fun z hz => Or.inl (by rw [List.mem_singleton.1 hz]; simp)); have HC := hd5 hMc bXc cW hqq hbbv; rw [hwc]; clear cC bM hMc hml bXc hby hwc cW hqq hbbv e0 e1 e2 e3 q2 f2 x0; go_wp2_with fail
   with_reducible refine HRD.out.mono ?_
   rintro e w5 ⟨rfl, hb5⟩; obtain ⟨w6, hw6⟩ : ∃ w6, w5.alloc (.cells #[.int .i64 k0, .int .i64 a0, .int .i64 b0, .int .i64 c0, .int .i64 qr, .int .i64 qw, .int .i64 ql, .int .i64 qb] 35) = w6 := ⟨_, rfl⟩; obtain ⟨cb, hcb⟩ : ∃ cb, w5.heap.size = cb := ⟨_, rfl⟩
   have hb6 : Below wc.heap.size wc w6 := hw6 ▸ belowL hb5 _
   have bC : Blk w6 cb 35 [.int .i64 k0, .int .i64 a0, .int .i64 b0, .int .i64 c0, .int .i64 qr, .int .i64 qw, .int .i64 ql, .int .i64 qb] := by rw [← hw6, ← hcb]; exact Blk.new rfl
   have bX6 := HC.out.2.1.below hb6; have hM6 := HC.out.1.below hb6; have x2 : w6.cell? ⟨bb, 2, none⟩ = some (.int .i64 xk) := bX6.cell 2; have HW6 := hd2 hw6 hcb; have HCB : Hid (wc.heap.size ≤ cb) := hide (by rw [← hcb]; exact hb5.size); have H6 := hd4 hb6 bC bX6 hM6; clear hw6 hcb hb6 bC bX6 hM6 hb5 HRD x3
   go_upto_region 12 with fail
   rw [HW6.out.1, HW6.out.2]; clear HW6 HWB
   by_cases hyes : xk = 1 ∧ is = true
   ·obtain ⟨rfl, rfl⟩ := hyes
    have hcl : cr1 ≤ n + j := HC.out.1.cl
    have HAPP := hide (fun (w' : World) (hb : Below w6.heap.size w6 w') => ((H6.out.2.2.2.below hb).vf.apply (H6.out.2.2.2.below hb).lts H6.out.2.2.2.ok (by have := H.out; have := HX.out.2.2.2.1; omega) ⟨k0, a0, b0, c0, ⟨qr, qw, ql, qb⟩⟩ (by
     have := rcmd_i64 HB.out.2.2.1; rw [HC.out.2.2.2.1] at this
     exact this)))
    unfold Cmd.val Cmd.cells at HAPP; simp only [] at HAPP; have sne := H6.out.2.2.2.sne; have hsl : sb < wc.heap.size := HC.out.1.vf.lt
    have n1 : mb ∉ [sb] := fun hx => sne.1 (List.mem_singleton.1 hx).symm
    have n2 : bb ∉ [sb] := fun hx => by
     have h1 := List.mem_singleton.1 hx; have h2 := HMP.out.1.vf.lt; have h3 := HC.out.2.2.2.2
     omega
    have n3 : cb ∉ [sb] := fun hx => by have h1 := List.mem_singleton.1 hx; have h2 := HCB.out; omega
    have z3 : ∀ w', Chg [sb] w6 w' → w'.cell? ⟨mb, 3, none⟩ = some (.map (some rb)) := fun w' hc => (H6.out.2.2.2.blk.chg hc n1).cell 3
    have z1 : ∀ w', Chg [sb] w6 w' → w'.cell? ⟨mb, 1, none⟩ = some (.pointer (some ⟨sb, 0, none⟩)) := fun w' hc => (H6.out.2.2.2.blk.chg hc n1).cell 1
    have z0 : ∀ w', Chg [sb] w6 w' → w'.cell? ⟨bb, 0, none⟩ = some (.int .i64 xi) := fun w' hc => (H6.out.2.2.1.chg hc n2).cell 0
    have v0 : ∀ w', Chg [sb] w6 w' → w'.cell? ⟨cb, 0, none⟩ = some (.int .i64 k0) := fun w' hc => (H6.out.2.1.chg hc n3).cell 0
    have v1 : ∀ w', Chg [sb] w6 w' → w'.cell? ⟨cb, 1, none⟩ = some (.int .i64 a0) := fun w' hc => (H6.out.2.1.chg hc n3).cell 1
    have v2 : ∀ w', Chg [sb] w6 w' → w'.cell? ⟨cb, 2, none⟩ = some (.int .i64 b0) := fun w' hc => (H6.out.2.1.chg hc n3).cell 2
    have v3 : ∀ w', Chg [sb] w6 w' → w'.cell? ⟨cb, 3, none⟩ = some (.int .i64 c0) := fun w' hc => (H6.out.2.1.chg hc n3).cell 3
    have v4 : ∀ w', Chg [sb] w6 w' → w'.cell? ⟨cb, 4, none⟩ = some (.int .i64 qr) := fun w' hc => (H6.out.2.1.chg hc n3).cell 4
    have v5 : ∀ w', Chg [sb] w6 w' → w'.cell? ⟨cb, 5, none⟩ = some (.int .i64 qw) := fun w' hc => (H6.out.2.1.chg hc n3).cell 5
    have v6 : ∀ w', Chg [sb] w6 w' → w'.cell? ⟨cb, 6, none⟩ = some (.int .i64 ql) := fun w' hc => (H6.out.2.1.chg hc n3).cell 6
    have v7 : ∀ w', Chg [sb] w6 w' → w'.cell? ⟨cb, 7, none⟩ = some (.int .i64 qb) := fun w' hc => (H6.out.2.1.chg hc n3).cell 7
    have r6 := Below.refl w6.heap.size w6; have rc := Chg.refl [sb] w6; have HGM := hide (fun (w' : World) (hc : Chg [sb] w6 w') => H6.out.2.2.2.rm.chg hc (fun hx => sne.2.1 (List.mem_singleton.1 hx).symm)); have HKI : Hid (i64ok xi) := hide (by have := HB.out.2.2.2.2.1; have := HX.out.2.2.2.1; have := H.out; unfold i64ok; omega); have HCL := hide hcl; clear hcl sne hsl n1 n2 n3
    go_upto_region 13 with fail
    refine region_lx (fun w' => Chg [sb] w6 w') [12] [2, 2, 2, 0, 2, 0, 2, 2, 2, 0, 0, 1, 3] (by (first | exact rc.drew | exact cA)) (fun hS0 => ?_)
    (iterate 11 (first | refine lxt ?_ | refine lxp ?_))
    (refine lxe ?_; go_simp; ((go_at_call 10; (with_reducible refine (HAPP.out _ r6.drew).mono ?_); rintro e w8 ⟨rfl, hc8, hv8, hok8⟩; have cA : Chg [sb] w6 w8 := rc.drew.trans hc8 (fun z hz => Or.inl hz))); refine lxB (by (first | exact rc.drew | exact cA)) (fun hS1 => ?_))
    (refine lxn ?_; (refine GM.wp_putV _ _ _ rfl Tryz.underlying61 rfl rfl rfl (HGM.out _ hS1) HKI.out (by have := HCL.out; have := HX.out.2.2.2.1; have := H.out; omega) ?_; intro w9 hg9 hc9); (try simp only [Act.put]))
    refine lxN ?_
    have HF9 : Hid (AInv W w1 w9 mb rb sb nb G F1 (N.tell (N.L.length : Nat)) (n + (j + 1)) (tn + (j + 1)) N.L Q) := by
     have h7 := H6.out.2.2.2.below r6.drew; have h8 := h7.state hc8 hv8 hok8 (Nat.le_succ _); have h9 := h8.put hc9 hg9 (by have := HCL.out; split <;> omega); rw [HB.out.2.2.2.2.1] at h9; have hq := HMP.out.2.1
     have hst : stepA ((tn + j + 1 : Nat) : Int) (xt, 1, bi b) (S1, R1) = ((S1.apply ⟨k0, a0, b0, c0, ⟨qr, qw, ql, qb⟩⟩).1, updV R1 ((tn + j + 1 : Nat) : Int) (some (.int .i64 (S1.apply ⟨k0, a0, b0, c0, ⟨qr, qw, ql, qb⟩⟩).2))) := by
      unfold stepA; simp only [bi_nat]; rw [HC.out.2.2.2.1, if_pos ⟨trivial, rfl⟩]
     rw [hst] at hq
     exact hide ⟨_, _, _, h9, hq, (((HC.out.2.2.1.below H6.out.1).below r6.drew).trans hc8 (fun z hz => Or.inl (by rw [List.mem_singleton.1 hz]; simp))).trans hc9 (fun z hz => Or.inl (by rw [List.mem_singleton.1 hz]; simp))⟩
    clear hg9 hc9 hc8 hv8 hok8 cA z0 z1 z3 v0 v1 v2 v3 v4 v5 v6 v7 rc r6 hS0 hS1 HGM HAPP x2; go_wp2
    go_roundw
    case rel => exact ⟨j + 1, by omega, by go_num, HF9⟩
    case measure => simp [Go.RowKit.intOf]; omega
   ·have hst : stepA ((tn + j + 1 : Nat) : Int) (xt, xk, bi b) (S1, R1) = (S1, R1) := by
     unfold stepA; simp only [bi_nat]; rw [HC.out.2.2.2.1, if_neg hyes]
    have HF9 : Hid (AInv W w1 w6 mb rb sb nb G F1 (N.tell (N.L.length : Nat)) (n + (j + 1)) (tn + (j + 1)) N.L Q) := by
     have h6 := H6.out.2.2.2; rw [HB.out.2.2.2.2.1] at h6; have hq := HMP.out.2.1; rw [hst] at hq
     exact hide ⟨S1, R1, cr1, h6.up (by omega), hq, HC.out.2.2.1.below H6.out.1⟩
    clear hst
    by_cases h1 : xk = 1
    ·subst h1
     obtain rfl : is = false := by
      cases is
      ·rfl
      ·exact absurd ⟨rfl, rfl⟩ hyes
     clear hyes; go_wp2
     go_roundw
     case rel => exact ⟨j + 1, by omega, by go_num, HF9⟩
     case measure => simp [Go.RowKit.intOf]; omega
    ·have u0 : (xk == 1) = false := by rw [beq_eq_false_iff_ne]; exact h1
     clear hyes h1; go_wp2
     go_roundw
     case rel => exact ⟨j + 1, by omega, by go_num, HF9⟩
     case measure => simp [Go.RowKit.intOf]; omega
  ·have i1 : ¬ (j : Int) < m := by omega
   have HF9 : Hid (APD W w wr mb rb sb nb G F N n tn Q) := by
    obtain ⟨S1, R1, cr1, hmp, hq, hcg⟩ := hI.out
    have e : j = m := by omega
    subst e; have hmt := HX.out.2.2.2.1; rw [runA_end (by omega)] at hq; rw [show n + j = n + (N.L.length - tn) by omega, hmt] at hmp; rw [← hq]
    exact hide ⟨F1, cr1, hmp, H1.out.1, Chg.onto H1.out.2 H1.out.2.size hcg (fun z hz => H1.out.1 z (by
     simp only [List.mem_cons, List.not_mem_nil, or_false] at hz ⊢
     rcases hz with rfl | rfl | rfl
     ·exact Or.inl rfl
     ·exact Or.inr (Or.inr (Or.inl rfl))
     ·exact Or.inr (Or.inl rfl))), (HCF.out.mono (fun z hz => Or.inl (by simp [hz]))).trans hcg (fun z hz => Or.inl (by
     simp only [List.mem_cons, List.not_mem_nil, or_false] at hz ⊢
     rcases hz with rfl | rfl | rfl
     ·exact Or.inl rfl
     ·exact Or.inr (Or.inr (Or.inl rfl))
     ·exact Or.inr (Or.inl rfl)))⟩
   clear hI; go_wp2; go_ret
   exact ⟨rfl, HF9.out⟩
end
end Go.Proofs.YtcahcjfgmdpdoaaGreat
