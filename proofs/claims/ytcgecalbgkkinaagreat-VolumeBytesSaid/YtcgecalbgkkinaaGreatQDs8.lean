/- One text of: Ds8. -/
import Derived.Deep.CutRange
import Derived.Deep.CutBlock
import Derived.Test.YtcgecalbgkkinaaGreatQDB
namespace Go.Proofs.YtcgecalbgkkinaaGreat
open Go.ChangeShapes Go.WideShapes Go.ChangeAt Go.RowKit Go.Joins Go.Deep Go.Maps
set_option linter.unusedVariables false
set_option linter.unusedSimpArgs false
theorem zA37 {α : Type} (l : List α) (i : Nat) (a : α) : l.toArray.setIfInBounds i a = (l.set i a).toArray := by simp
theorem zB37 {α : Type} (x a : α) (l : List α) : (x :: l).set 0 a = a :: l := rfl
theorem zC37 {α : Type} (x a : α) (l : List α) (n : Nat) : (x :: l).set (n + 1) a = x :: l.set n a := rfl

/-- what a command about a chunk does -/
def Vst.chunkQ (S : Vst) (q : Cmd) : Vst × Int := if q.k = 6 then S.drop q else if q.k = 7 then S.join q else S.promote q
theorem Vst.chunkQ_none {S : Vst} {q : Cmd} (h : fd Ck.id S.cs q.a = none) : S.chunkQ q = (S, 7) := by
  have ha : S.at_ q.a q.b = .error 7 := by unfold Vst.at_; rw [h]
  unfold Vst.chunkQ Vst.drop Vst.join Vst.promote
  rw [ha]
  split
  · rfl
  · split
    · split <;> rfl
    · rfl
theorem Vst.chunkQ_noserver {S : Vst} {q : Cmd} (h7 : q.k = 7) (h : fd Prod.fst S.sv q.c = none) : S.chunkQ q = (S, 7) := by
  unfold Vst.chunkQ Vst.join
  rw [if_neg (by omega), if_pos h7, h]
  rfl
theorem Vst.chunkQ_epoch {S : Vst} {q : Cmd} {y : Ck} (h : fd Ck.id S.cs q.a = some y) (he : y.ep ≠ q.b) (h7 : q.k = 7 → (fd Prod.fst S.sv q.c).isSome = true) : S.chunkQ q = (S, 10) := by
  have ha : S.at_ q.a q.b = .error 10 := by unfold Vst.at_; rw [h]; exact if_neg he
  unfold Vst.chunkQ Vst.drop Vst.join Vst.promote
  rw [ha]
  split
  · rfl
  · split
    · rename_i h1 h2
      rw [h7 h2]
      rfl
    · rfl
theorem Vst.chunkQ6 {S : Vst} {q : Cmd} {y : Ck} (h : fd Ck.id S.cs q.a = some y) (he : y.ep = q.b) (hk : q.k = 6) :
    S.chunkQ q = if !y.has q.c then (S, 1) else if y.me = [q.c] then (S, 9) else (S.turn { y with me := wout y.me q.c, jo := wout y.jo q.c }, 0) := by
  have ha : S.at_ q.a q.b = .ok y := by unfold Vst.at_; rw [h]; exact if_pos he
  unfold Vst.chunkQ Vst.drop
  rw [if_pos hk, ha]
theorem Vst.chunkQ7 {S : Vst} {q : Cmd} {y : Ck} (h : fd Ck.id S.cs q.a = some y) (he : y.ep = q.b) (hk : q.k = 7) (hs : (fd Prod.fst S.sv q.c).isSome = true) :
    S.chunkQ q = if y.has q.c then (S, 8) else if 4 ≤ y.me.length + y.jo.length then (S, 6) else (S.turn { y with jo := y.jo ++ [q.c] }, 0) := by
  have ha : S.at_ q.a q.b = .ok y := by unfold Vst.at_; rw [h]; exact if_pos he
  unfold Vst.chunkQ Vst.join
  rw [if_neg (by omega), if_pos hk, ha, hs]
  rfl
theorem Vst.chunkQ8 {S : Vst} {q : Cmd} {y : Ck} (h : fd Ck.id S.cs q.a = some y) (he : y.ep = q.b) (hk : q.k = 8) :
    S.chunkQ q = if !y.jo.contains q.c then (S, 1) else (S.turn { y with me := y.me ++ [q.c], jo := wout y.jo q.c }, 0) := by
  have ha : S.at_ q.a q.b = .ok y := by unfold Vst.at_; rw [h]; exact if_pos he
  unfold Vst.chunkQ Vst.promote
  rw [if_neg (by omega), if_neg (by omega), ha]
/-- a chunk's next epoch, in its place -/
theorem Vst.turn_set {S : Vst} (h : Rise Ck.id S.cs) {i : Nat} (hi : i < S.cs.length) {y : Ck} (e : S.cs[i].id = y.id) : S.turn y = { S with cs := S.cs.set i { y with ep := y.ep + 1 } } := by
  unfold Vst.turn
  rw [ins_set (x := { y with ep := y.ep + 1 }) h hi e]
/-- the two that the call is handed, boxed, and its result's box -/
structure ChIn (W v0 : World) (n0 : List Nat) (wr : World) (no av : List Nat) (x : DV) (S : Vst) (q : Cmd) (bs bc br : Nat) : Prop where
  ds : Blk wr bs 31 (x.cells S.nx)
  dc : Blk wr bc 38 q.cells
  dr : Blk wr br 31 [.slice none 0 0, .slice none 0 0, .slice none 0 0, .int .i64 0]
  dd : DO W wr no (bs :: bc :: br :: av) x S
  out : bs ∉ no ∧ bc ∉ no ∧ br ∉ no
  ne : bs ≠ bc ∧ bs ≠ br ∧ bc ≠ br
  ge : W.heap.size ≤ bs ∧ W.heap.size ≤ bc ∧ W.heap.size ≤ br
  bW : Below W.heap.size W wr
  cg : Chg n0 v0 wr
  nn : ∀ z ∈ no, z ∈ n0 ∨ v0.heap.size ≤ z
  gf : v0.heap.size ≤ bs ∧ v0.heap.size ≤ bc ∧ v0.heap.size ≤ br
section
variable {W v0 w wr w' : World} {n0 no av : List Nat} {x : DV} {S : Vst} {q : Cmd} {bs bc br : Nat}
theorem ChIn.below (h : ChIn W v0 n0 wr no av x S q bs bc br) (hb : Below wr.heap.size wr w') : ChIn W v0 n0 w' no av x S q bs bc br :=
  ⟨h.ds.below hb, h.dc.below hb, h.dr.below hb, h.dd.below hb, h.out, h.ne, h.ge, h.bW.trans (hb.mono h.bW.size), h.cg.below hb, h.nn, h.gf⟩
theorem ChIn.start (h : DO W w no av x S) (hW : Below W.heap.size W w) (q : Cmd) :
    ChIn W w no (((w.alloc (.cells (x.cells S.nx).toArray 31)).alloc (.cells q.cells.toArray 38)).alloc (.cells #[.slice none 0 0, .slice none 0 0, .slice none 0 0, .int .i64 0] 31)) no av x S q w.heap.size (w.heap.size + 1) (w.heap.size + 1 + 1) := by
  have hb : Below w.heap.size w (((w.alloc (.cells (x.cells S.nx).toArray 31)).alloc (.cells q.cells.toArray 38)).alloc (.cells #[.slice none 0 0, .slice none 0 0, .slice none 0 0, .int .i64 0] 31)) :=
    (((Below.refl _ _).alloc (Nat.le_refl _) _).alloc (by simp) _).alloc (by simp; omega) _
  have hs := hW.size
  have hno : ∀ z ∈ no, z < w.heap.size := fun z hz => h.lt z (h.sub z hz)
  refine ⟨((Blk.new rfl).alloc _).alloc _, (Blk.new (cs := q.cells) (by simp)).alloc _, Blk.new (by simp), h.avoid (fun z hz => ?_) (fun z hz => by simp [h.sub z hz]) hb (fun z hz => ?_), ⟨fun hx => ?_, fun hx => ?_, fun hx => ?_⟩, by omega, by omega, hW.trans (hb.mono hs), Chg.of_below hb, (fun z hz => Or.inl hz), by omega⟩
  · simp only [List.mem_cons] at hz
    rcases hz with rfl | rfl | rfl | hz
    · exact Or.inr (Nat.le_refl _)
    · exact Or.inr (by omega)
    · exact Or.inr (by omega)
    · exact Or.inl hz
  · simp only [List.mem_cons] at hz
    rcases hz with rfl | rfl | rfl | hz
    · simp; omega
    · simp
    · simp
    · have := h.lt z hz; simp; omega
  · have := hno _ hx; omega
  · have := hno _ hx; omega
  · have := hno _ hx; omega
/-- the state is handed back -/
theorem ChIn.ret (h : ChIn W v0 n0 wr no av x S q bs bc br) {a0 : List Nat} (ha : ∀ z ∈ a0, z ∈ av) {A1 A2 A3 : Value} {z : Value} :
    (∃ no' av', DO W ((((wr.setCell ⟨br, 0, none⟩ A1).setCell ⟨br, 1, none⟩ A2).setCell ⟨br, 2, none⟩ A3).setCell ⟨br, 3, none⟩ z) no' av' x S ∧ (∀ z ∈ no', z ∈ n0 ∨ v0.heap.size ≤ z) ∧ (∀ z ∈ a0, z ∈ av')) ∧ Below W.heap.size W ((((wr.setCell ⟨br, 0, none⟩ A1).setCell ⟨br, 1, none⟩ A2).setCell ⟨br, 2, none⟩ A3).setCell ⟨br, 3, none⟩ z) ∧ Chg n0 v0 ((((wr.setCell ⟨br, 0, none⟩ A1).setCell ⟨br, 1, none⟩ A2).setCell ⟨br, 2, none⟩ A3).setCell ⟨br, 3, none⟩ z) := by
  have hc : Chg [br] wr ((((wr.setCell ⟨br, 0, none⟩ A1).setCell ⟨br, 1, none⟩ A2).setCell ⟨br, 2, none⟩ A3).setCell ⟨br, 3, none⟩ z) :=
    ((((Chg.refl _ _).setCell (Or.inl (by simp)) _).setCell (Or.inl (by simp)) _).setCell (Or.inl (by simp)) _).setCell (Or.inl (by simp)) _
  exact ⟨⟨no, _, h.dd.chg hc (fun z hz => Or.inl (by rw [List.mem_singleton.1 hz]; simp)) (fun z hz hx => by rw [List.mem_singleton.1 hz] at hx; exact h.out.2.2 hx), h.nn, fun z hz => List.mem_cons_of_mem _ (List.mem_cons_of_mem _ (List.mem_cons_of_mem _ (ha z hz)))⟩, Chg.onto h.bW h.bW.size hc (fun z hz => by rw [List.mem_singleton.1 hz]; exact h.ge.2.2), h.cg.trans hc (fun z hz => Or.inr (by rw [List.mem_singleton.1 hz]; exact h.gf.2.2))⟩
end
/-- and its own chunk -/
structure KSt (W v0 : World) (n0 : List Nat) (wr : World) (no av : List Nat) (x : DV) (S : Vst) (q : Cmd) (bs bc br bk : Nat) (y : CkM) : Prop where
  ch : ChIn W v0 n0 wr no (bk :: av) x S q bs bc br
  dk : Blk wr bk 47 y.cells
  s1 : Sl wr (bs :: bc :: br :: bk :: av) y.A y.c y.k.me
  s2 : Sl wr (bs :: bc :: br :: bk :: av) y.B y.d y.k.jo
  ne : bk ∉ no ∧ bk ≠ bs ∧ bk ≠ bc ∧ bk ≠ br ∧ W.heap.size ≤ bk ∧ v0.heap.size ≤ bk
section
variable {W v0 w wr w' : World} {n0 no av : List Nat} {x : DV} {S : Vst} {q : Cmd} {bs bc br bk : Nat} {y : CkM}
theorem KSt.below (h : KSt W v0 n0 wr no av x S q bs bc br bk y) (hb : Below wr.heap.size wr w') : KSt W v0 n0 w' no av x S q bs bc br bk y :=
  ⟨h.ch.below hb, h.dk.below hb, h.s1.below hb, h.s2.below hb, h.ne⟩
theorem KSt.lts (h : KSt W v0 n0 wr no av x S q bs bc br bk y) : ∀ z ∈ bs :: bc :: br :: bk :: av, z < wr.heap.size := h.ch.dd.lt
theorem KSt.new (h : ChIn W v0 n0 wr no av x S q bs bc br) (y : CkM) (s1 : Sl wr (bs :: bc :: br :: av) y.A y.c y.k.me) (s2 : Sl wr (bs :: bc :: br :: av) y.B y.d y.k.jo) (hw : wr.alloc (.cells y.cells.toArray 47) = w') :
    KSt W v0 n0 w' no av x S q bs bc br wr.heap.size y := by
  subst hw
  have hb : Below wr.heap.size wr (wr.alloc (.cells y.cells.toArray 47)) := (Below.refl _ _).alloc (Nat.le_refl _) _
  have hp : ∀ z ∈ bs :: bc :: br :: wr.heap.size :: av, z ∈ bs :: bc :: br :: av ∨ wr.heap.size ≤ z := fun z hz => by
    simp only [List.mem_cons] at hz ⊢
    rcases hz with rfl | rfl | rfl | rfl | hz
    · exact Or.inl (Or.inl rfl)
    · exact Or.inl (Or.inr (Or.inl rfl))
    · exact Or.inl (Or.inr (Or.inr (Or.inl rfl)))
    · exact Or.inr (Nat.le_refl _)
    · exact Or.inl (Or.inr (Or.inr (Or.inr hz)))
  have hl := h.dd.lt
  have l1 := h.ds.lt
  have l2 := h.dc.lt
  have l3 := h.dr.lt
  refine ⟨⟨h.ds.below hb, h.dc.below hb, h.dr.below hb, h.dd.avoid hp (fun z hz => ?_) hb (fun z hz => ?_), h.out, h.ne, h.ge, h.bW.trans (hb.mono h.bW.size), h.cg.below hb, h.nn, h.gf⟩, Blk.new rfl, (s1.plus hp).below hb, (s2.plus hp).below hb, ⟨fun hx => ?_, by omega, by omega, by omega, h.bW.size, h.cg.size⟩⟩
  · have := h.dd.sub z hz
    simp only [List.mem_cons] at this ⊢
    rcases this with e | e | e | e
    · exact Or.inl e
    · exact Or.inr (Or.inl e)
    · exact Or.inr (Or.inr (Or.inl e))
    · exact Or.inr (Or.inr (Or.inr (Or.inr e)))
  · have hs : (wr.alloc (.cells y.cells.toArray 47)).heap.size = wr.heap.size + 1 := by simp
    rw [hs]
    rcases hp z hz with hz' | hz'
    · have := hl z hz'; omega
    · simp only [List.mem_cons] at hz
      rcases hz with rfl | rfl | rfl | rfl | hz
      · omega
      · omega
      · omega
      · omega
      · have := hl z (by simp [hz]); omega
  · have := hl _ (h.dd.sub _ hx); omega
theorem KSt.set (h : KSt W v0 n0 wr no av x S q bs bc br bk y) (i : Nat) (u : Value) (y' : CkM) (e : y.cells.set i u = y'.cells) (s1 : Sl wr (bs :: bc :: br :: bk :: av) y'.A y'.c y'.k.me) (s2 : Sl wr (bs :: bc :: br :: bk :: av) y'.B y'.d y'.k.jo) :
    KSt W v0 n0 (wr.setCell ⟨bk, i, none⟩ u) no av x S q bs bc br bk y' := by
  have hc : Chg [bk] wr (wr.setCell ⟨bk, i, none⟩ u) := (Chg.refl _ _).setCell (Or.inl (by simp)) _
  have hin : ∀ z ∈ [bk], z ∈ bs :: bc :: br :: bk :: av ∨ wr.heap.size ≤ z := fun z hz => Or.inl (by rw [List.mem_singleton.1 hz]; simp)
  obtain ⟨n1, n2, n3, n4, n5, n6⟩ := h.ne
  refine ⟨⟨h.ch.ds.chg hc (by simp; omega), h.ch.dc.chg hc (by simp; omega), h.ch.dr.chg hc (by simp; omega), h.ch.dd.chg hc hin (fun z hz hx => by rw [List.mem_singleton.1 hz] at hx; exact n1 hx), h.ch.out, h.ch.ne, h.ch.ge,
    Chg.onto h.ch.bW h.ch.bW.size hc (fun z hz => by rw [List.mem_singleton.1 hz]; exact n5), h.ch.cg.trans hc (fun z hz => Or.inr (by rw [List.mem_singleton.1 hz]; exact n6)), h.ch.nn, h.ch.gf⟩, e ▸ h.dk.set i u, s1.chg hc hin, s2.chg hc hin, h.ne⟩
/-- and s.Chunks[k] = it -/
theorem KSt.put (h : KSt W v0 n0 wr no av x S q bs bc br bk y) {k g : Nat} (hk : k < x.C.length) (hg : x.Ac = some ⟨g, 0, none⟩) :
    ChIn W v0 n0 (setAtW wr g (k * 5) y.cells) no (bk :: av) { x with C := x.C.set k y } { S with cs := S.cs.set k y.k } q bs bc br := by
  obtain ⟨h1, hc, hgn, hgW⟩ := h.ch.dd.setC hk hg y ⟨h.s1, h.s2⟩
  have o := h.ch.out
  refine ⟨?_, h.ch.dc.chg hc (fun hx => ?_), h.ch.dr.chg hc (fun hx => ?_), h1, h.ch.out, h.ch.ne, h.ch.ge, Chg.onto h.ch.bW h.ch.bW.size hc (fun z hz => by rw [List.mem_singleton.1 hz]; exact hgW), h.ch.cg.trans hc (fun z hz => by rw [List.mem_singleton.1 hz]; exact h.ch.nn _ hgn), h.ch.nn, h.ch.gf⟩
  · have := h.ch.ds.chg hc (fun hx => o.1 (by rw [List.mem_singleton.1 hx]; exact hgn))
    unfold DV.cells at this ⊢
    simp only [List.length_set]
    exact this
  · exact o.2.1 (by rw [List.mem_singleton.1 hx]; exact hgn)
  · exact o.2.2 (by rw [List.mem_singleton.1 hx]; exact hgn)
end
theorem Sl.app {w3 w8 : World} {no : List Nat} {l : List Int} {z : Int} {g8 cap : Nat} (h8 : w8.ownsRow 0 3 1 (.slice (some ⟨g8, 0, none⟩) (l.length + 1) cap) (l.length + 1) (l.map (Value.int .i64) ++ [.int .i64 z])) (hl : l.length + 1 ≤ 1024) (hg : w3.heap.size ≤ g8) (hno : ∀ x ∈ no, x < w3.heap.size) :
    Sl w8 no (some ⟨g8, 0, none⟩) cap (l ++ [z]) :=
  Sl.own (W := w3) (n := l.length + 1) (by rw [List.map_append]; exact h8) (by simp) hl (fun g e => by have e2 : g8 = g := (by simpa using e); omega) hno
theorem ek_set {S : Vst} (n : Nat) (h : VOk S n) (hn : n ≤ 1000) {a : Int} {y : Ck} (hf : fd Ck.id S.cs a = some y) : 1 ≤ y.ep ∧ y.ep ≤ 1001 ∧ y.me.length + y.jo.length ≤ 4 := by
  have := h.csa y (fd_some hf).1
  omega
/-- what is handed back -/
def ChOut18 (W v0 : World) (n0 a0 : List Nat) (w' : World) (S : Vst) (R : Vst × Int) (e : Ending) : Prop :=
  ∃ x' : DV, e = .returned (.tuple #[x'.val R.1.nx, .int .i64 R.2]) ∧ (∃ no' av', DO W w' no' av' x' R.1 ∧ (∀ z ∈ no', z ∈ n0 ∨ v0.heap.size ≤ z) ∧ (∀ z ∈ a0, z ∈ av')) ∧ Below W.heap.size W w' ∧ Chg n0 v0 w'
set_option maxHeartbeats 8000000 in
set_option maxRecDepth 100000 in
theorem dchunkq_calls (W w : World) (no av : List Nat) (x : DV) (S : Vst) (n : Nat) (q : Cmd) (h : DO W w no av x S) (hbW : Below W.heap.size W w) (ho : VOk S n) (hq : q.ok) (hk : q.k = 6 ∨ q.k = 7 ∨ q.k = 8) (hn : n ≤ 1000) (hlc : x.C.length ≤ 100000) :
    Calls Tryz.prog 52 #[x.val S.nx, q.val] w fun e w' => ChOut18 W w no av w' S (S.chunkQ q) e := by
  obtain ⟨i1, hi1, hp0, hp1, hp2⟩ := info_parts Tryz.infoI3
  have HO := hide ho
  have HQ := hide (And.intro hq hk)
  have hI := ChIn.start h hbW q
  obtain ⟨k0, a0, b0, c0, ⟨qr, qw, ql, qb⟩⟩ := q
  simp only [] at hk hq
  obtain ⟨Ap, cp, V, Av, cv, C, Ac, cc⟩ := x
  simp only [] at hlc
  simp only [DV.cells, Cmd.cells] at hI
  obtain ⟨w0, hw0⟩ : ∃ w0, ((w.alloc (.cells #[.slice Ap 16 cp, .slice Av V.length cv, .slice Ac C.length cc, .int .i64 S.nx] 31)).alloc (.cells #[.int .i64 k0, .int .i64 a0, .int .i64 b0, .int .i64 c0, .int .i64 qr, .int .i64 qw, .int .i64 ql, .int .i64 qb] 38)).alloc (.cells #[.slice none 0 0, .slice none 0 0, .slice none 0 0, .int .i64 0] 31) = w0 := ⟨_, rfl⟩
  have hI0 : ChIn W w no w0 no av ⟨Ap, cp, V, Av, cv, C, Ac, cc⟩ S ⟨k0, a0, b0, c0, ⟨qr, qw, ql, qb⟩⟩ w.heap.size (w.heap.size + 1) (w.heap.size + 1 + 1) := hw0 ▸ hI
  obtain ⟨bs, hbs⟩ : ∃ bs, w.heap.size = bs := ⟨_, rfl⟩
  obtain ⟨bc, hbc⟩ : ∃ bc, bs + 1 = bc := ⟨_, rfl⟩
  obtain ⟨br, hbr⟩ : ∃ br, bc + 1 = br := ⟨_, rfl⟩
  rw [hbs, hbc, hbr] at hI0
  have HI := hide hI0
  have HN := hide (And.intro hbs (And.intro hbc hbr))
  have HW := hide hw0
  have hCH := dchunk_calls w0 (bs :: bc :: br :: av) ⟨Ap, cp, V, Av, cv, C, Ac, cc⟩ S S.nx a0 hI0.dd.dm (by simp only []; omega)
  have s0 := hI0.ds.cell 0
  have s1 := hI0.ds.cell 1
  have s2 := hI0.ds.cell 2
  have s3 := hI0.ds.cell 3
  have c1 := hI0.dc.cell 1
  simp only [DV.cells, Cmd.cells, List.getElem?_cons_succ, List.getElem?_cons_zero] at s0 s1 s2 s3 c1
  unfold DV.val DV.cells at hCH
  simp only [] at hCH
  have HCH := hide hCH
  unfold ChOut18 DV.val DV.cells Cmd.val Cmd.cells
  simp only []
  clear h hbW ho hI hI0 hCH hw0 hq hbs hbc hbr
  go_enter Tryz.func52, Tryz.ntmps52
  go_upto_region 1 with fail
  rw [HW.out, HN.out.1, HN.out.2.1, HN.out.2.2]
  go_wp2_with fail
  refine HCH.out.mono ?_
  rintro e w1 ⟨i, rfl, hat, hb1⟩
  have HI1 := hide (HI.out.below hb1)
  clear s0 s1 s2 s3 c1 HCH hb1
  rcases hat with ⟨hno, rfl⟩ | ⟨at_, hat, hid, rfl⟩
  · have HQ0 := hide (Vst.chunkQ_none (q := ⟨k0, a0, b0, c0, ⟨qr, qw, ql, qb⟩⟩) hno)
    clear hno
    have a0 := HI1.out.ds.cell 0
    have a1 := HI1.out.ds.cell 1
    have a2 := HI1.out.ds.cell 2
    have a3 := HI1.out.ds.cell 3
    have r0 := HI1.out.dr.cell 0
    have r1 := HI1.out.dr.cell 1
    have r2 := HI1.out.dr.cell 2
    have r3 := HI1.out.dr.cell 3
    have rf := HI1.out.dr.frozen
    simp only [DV.cells, List.getElem?_cons_succ, List.getElem?_cons_zero] at a0 a1 a2 a3 r0 r1 r2 r3
    have HRT := hide (HI1.out.ret (a0 := av) (fun z hz => by first | exact hz | exact List.mem_cons_of_mem _ hz) (A1 := .slice Ap 16 cp) (A2 := .slice Av V.length cv) (A3 := .slice Ac C.length cc) (z := .int .i64 S.nx))
    go_wp2
    refine bodyPost_ret (v := .tuple #[.agg #[.slice Ap 16 cp, .slice Av V.length cv, .slice Ac C.length cc, .int .i64 S.nx], .int .i64 7]) (by simp [results, Tryz.results52, go_sem, r0, r1, r2, r3]) rfl ?_
    rw [HQ0.out]
    exact ⟨⟨Ap, cp, V, Av, cv, C, Ac, cc⟩, rfl, HRT.out.1, HRT.out.2⟩
  · have hlen := HI1.out.dd.lenC
    simp only [] at hlen
    have hatC : at_ < C.length := by omega
    obtain ⟨y, hy⟩ : ∃ y, C[at_] = y := ⟨_, rfl⟩
    have hyk : S.cs[at_] = y.k := by rw [← hy]; exact HI1.out.dd.dm.getC hatC
    have hfd : fd Ck.id S.cs a0 = some y.k := by
      rw [← hid, ← hyk]
      exact fd_mem HO.out.csr (List.getElem_mem hat)
    have hy1 : C[at_]? = some y := by rw [List.getElem?_eq_getElem hatC, hy]
    have hyk1 : S.cs[at_]? = some y.k := by rw [List.getElem?_eq_getElem hat, hyk]
    have hid1 : y.k.id = a0 := by rw [← hyk]; exact hid
    have HY := hide (And.intro hy1 (And.intro hyk1 (And.intro hfd (And.intro hatC (And.intro hat hid1)))))
    have hso := HO.out.so
    have HSO := hide hso
    obtain ⟨bad, hbad⟩ : ∃ bad : Bool, decide (k0 = 7 ∧ fd Prod.fst S.sv c0 = none) = bad := ⟨_, rfl⟩
    have HBAD := hide hbad
    have a0' := HI1.out.ds.cell 0
    have k0' := HI1.out.dc.cell 0
    have c3' := HI1.out.dc.cell 3
    simp only [DV.cells, Cmd.cells, List.getElem?_cons_succ, List.getElem?_cons_zero] at a0' k0' c3'
    clear hlen hy hyk hy1 hyk1 hid1 hfd hso hbad hid
    clear hatC hat
    go_upto_region 2 with fail
    go_cut [37] from 12 to 37 (fun s wx => s = .bool bad ∧ wx = w1)
    case first =>
      by_cases h7 : k0 = 7
      · by_cases hlo : c0 < 0
        · have hb : bad = true := by
            rw [← HBAD.out]
            refine decide_eq_true ⟨h7, ?_⟩
            cases hf : fd Prod.fst S.sv c0 with
            | none => rfl
            | some z => have h1 := HSO.out.sva z (fd_some hf).1; rw [(fd_some hf).2] at h1; omega
          have HBX := hide hb
          clear hb
          subst h7
          go_wp2
          go_meet
          exact ⟨by (rw [HBX.out]) <;> (congr 1 <;> exact decide_eq_false (by omega)), rfl⟩
        · by_cases hhi : 15 < c0
          · have hb : bad = true := by
              rw [← HBAD.out]
              refine decide_eq_true ⟨h7, ?_⟩
              cases hf : fd Prod.fst S.sv c0 with
              | none => rfl
              | some z => have h1 := HSO.out.sva z (fd_some hf).1; rw [(fd_some hf).2] at h1; omega
            have HBX := hide hb
            clear hb
            subst h7
            go_wp2
            go_meet
            exact ⟨by (rw [HBX.out]) <;> (congr 1 <;> exact decide_eq_false (by omega)), rfl⟩
          · obtain ⟨cn, hcn⟩ : ∃ cn : Nat, c0 = cn := ⟨c0.toNat, by omega⟩
            obtain ⟨bP, oP, eP, hbP, hcP⟩ := HI1.out.dd.dm.atP
            simp only [] at eP
            subst eP
            have g0 := hcP w1 (Below.refl _ _) cn (by omega)
            have hpz := Vst.pick_zero HSO.out (cn : Int)
            have hbb : bad = (S.pick cn == 0) := by
              rw [← HBAD.out, hcn]
              by_cases hz : S.pick cn = 0
              · rw [hz]; exact decide_eq_true ⟨h7, hpz.1 hz⟩
              · rw [beq_eq_false_iff_ne.2 hz]
                exact decide_eq_false fun h => hz (hpz.2 h.2)
            have HBB := hide hbb
            obtain ⟨pz, hpz⟩ : ∃ pz, S.pick (cn : Int) = pz := ⟨_, rfl⟩
            rw [hpz] at g0 HBB
            have i1 : (cn : Int) < 16 := by omega
            subst hcn
            subst h7
            clear hbb hcP
            by_cases hz : pz = 0
            · have t1 : (pz == 0) = true := beq_iff_eq.2 hz
              rw [t1] at HBB
              subst hz
              go_wp2
              go_meet
              exact ⟨by (rw [HBB.out]) <;> (congr 1 <;> exact decide_eq_false (by omega)), rfl⟩
            · have t1 : (pz == 0) = false := beq_eq_false_iff_ne.2 hz
              rw [t1] at HBB
              go_wp2
              go_meet
              exact ⟨by (rw [HBB.out]) <;> (congr 1 <;> exact decide_eq_false (by omega)), rfl⟩
      · have hb : bad = false := by rw [← HBAD.out]; exact decide_eq_false fun h => h7 h.1
        have HBX := hide hb
        clear hb
        go_wp2
        go_meet
        exact ⟨by (rw [HBX.out]) <;> (congr 1 <;> exact decide_eq_false (by omega)), rfl⟩
    case rest =>
      obtain ⟨rfl, rfl⟩ := hcut
      clear a0' k0' c3'
      cases bad with
      | true =>
        have h1 := of_decide_eq_true HBAD.out
        have HQ0 := hide (Vst.chunkQ_noserver (S := S) (q := ⟨k0, a0, b0, c0, ⟨qr, qw, ql, qb⟩⟩) h1.1 h1.2)
        clear h1
        have a0 := HI1.out.ds.cell 0
        have a1 := HI1.out.ds.cell 1
        have a2 := HI1.out.ds.cell 2
        have a3 := HI1.out.ds.cell 3
        have r0 := HI1.out.dr.cell 0
        have r1 := HI1.out.dr.cell 1
        have r2 := HI1.out.dr.cell 2
        have r3 := HI1.out.dr.cell 3
        have rf := HI1.out.dr.frozen
        simp only [DV.cells, List.getElem?_cons_succ, List.getElem?_cons_zero] at a0 a1 a2 a3 r0 r1 r2 r3
        have HRT := hide (HI1.out.ret (a0 := av) (fun z hz => by first | exact hz | exact List.mem_cons_of_mem _ hz) (A1 := .slice Ap 16 cp) (A2 := .slice Av V.length cv) (A3 := .slice Ac C.length cc) (z := .int .i64 S.nx))
        go_wp2
        refine bodyPost_ret (v := .tuple #[.agg #[.slice Ap 16 cp, .slice Av V.length cv, .slice Ac C.length cc, .int .i64 S.nx], .int .i64 7]) (by simp [results, Tryz.results52, go_sem, r0, r1, r2, r3]) rfl ?_
        rw [HQ0.out]
        exact ⟨⟨Ap, cp, V, Av, cv, C, Ac, cc⟩, rfl, HRT.out.1, HRT.out.2⟩
      | false =>
        obtain ⟨w1, hw1⟩ : ∃ w1, w1 = wc := ⟨_, rfl⟩
        subst hw1
        obtain ⟨b, o, eC, hbb, hcell⟩ := HI1.out.dd.dm.atC (k := at_) HY.out.2.2.2.1
        simp only [] at eC hcell
        subst eC
        have hyC : C[at_]'HY.out.2.2.2.1 = y := by have := HY.out.1; rw [List.getElem?_eq_getElem HY.out.2.2.2.1] at this; exact Option.some.inj this
        rw [hyC] at hcell
        have hsl := HI1.out.dd.sC y (by rw [← hyC]; exact List.getElem_mem _)
        have HSL := hide hsl
        obtain ⟨⟨yid, yvol, yep, yme, yjo⟩, yA, yc, yB, yd⟩ := y
        have g0 : w1.cell? ⟨b, o + at_ * 5, none⟩ = some (.int .i64 yid) := hcell w1 (Below.refl _ _) 0 (by omega)
        have g1 : w1.cell? ⟨b, o + at_ * 5 + 1, none⟩ = some (.int .i64 yvol) := hcell w1 (Below.refl _ _) 1 (by omega)
        have g2 : w1.cell? ⟨b, o + at_ * 5 + 2, none⟩ = some (.int .i64 yep) := hcell w1 (Below.refl _ _) 2 (by omega)
        have g3 : w1.cell? ⟨b, o + at_ * 5 + 3, none⟩ = some (.slice yA yme.length yc) := hcell w1 (Below.refl _ _) 3 (by omega)
        have g4 : w1.cell? ⟨b, o + at_ * 5 + 4, none⟩ = some (.slice yB yjo.length yd) := hcell w1 (Below.refl _ _) 4 (by omega)
        have e2 := HI1.out.ds.cell 2
        simp only [DV.cells, List.getElem?_cons_succ, List.getElem?_cons_zero] at e2
        have k1 : (at_ : Int) < C.length := by have := HY.out.2.2.2.1; omega
        clear hcell hyC hsl
        go_upto_region 5 with fail
        obtain ⟨w2, hw2⟩ : ∃ w2, w1.alloc (.cells #[.int .i64 yid, .int .i64 yvol, .int .i64 yep, .slice yA yme.length yc, .slice yB yjo.length yd] 47) = w2 := ⟨_, rfl⟩
        have hK := KSt.new HI1.out ⟨⟨yid, yvol, yep, yme, yjo⟩, yA, yc, yB, yd⟩ HSL.out.1 HSL.out.2 hw2
        obtain ⟨bk, hbk⟩ : ∃ bk, w1.heap.size = bk := ⟨_, rfl⟩
        rw [hbk] at hK
        have HK2 := hide hK
        have HEK := hide (ek_set n HO.out hn HY.out.2.2.1)
        rw [hw2, hbk]
        have HW2 := hide (And.intro hw2 hbk)
        have t2 := hK.dk.cell 2
        have q2 := hK.ch.dc.cell 2
        simp only [CkM.cells, Cmd.cells, List.getElem?_cons_succ, List.getElem?_cons_zero] at t2 q2
        clear g0 g1 g2 g3 g4 e2 k1 hK hw2 hbk HSL
        by_cases hep : yep = b0
        · have t1 : (yep != b0) = false := bne_eq_false_iff_eq.2 hep
          have t1' : (yep == b0) = true := beq_iff_eq.2 hep
          have HEP := hide hep
          clear hep
          have kc := HK2.out.ch.dc.cell 0
          have v0 := HK2.out.dk.cell 0
          have v1 := HK2.out.dk.cell 1
          have v3 := HK2.out.dk.cell 3
          have v4 := HK2.out.dk.cell 4
          have kc3 := HK2.out.ch.dc.cell 3
          simp only [CkM.cells, Cmd.cells, List.getElem?_cons_succ, List.getElem?_cons_zero] at kc v0 v1 v3 v4 kc3
          go_upto_block 0 with fail
          go_cut [52] from 52 to 134 (fun _ wx => ∃ (me jo : List Int) (A' B' : Option Addr) (c' d' : Nat), KSt W w no wx no av ⟨Ap, cp, V, Av, cv, C, some ⟨b, o, none⟩, cc⟩ S ⟨k0, a0, b0, c0, ⟨qr, qw, ql, qb⟩⟩ bs bc br bk ⟨⟨yid, yvol, yep, me, jo⟩, A', c', B', d'⟩ ∧
            S.chunkQ ⟨k0, a0, b0, c0, ⟨qr, qw, ql, qb⟩⟩ = (S.turn ⟨yid, yvol, yep, me, jo⟩, 0))
          case first =>
            rcases HQ.out.2 with h6 | h7 | h8
            · have h6' : k0 = 6 := h6
              have hcq := Vst.chunkQ6 (S := S) (q := ⟨k0, a0, b0, c0, ⟨qr, qw, ql, qb⟩⟩) HY.out.2.2.1 HEP.out h6
              simp only [] at hcq
              have HHAS := hide (dhas_calls ⟨⟨yid, yvol, yep, yme, yjo⟩, yA, yc, yB, yd⟩ c0 _ w2 HK2.out.s1 HK2.out.s2)
              unfold CkM.val CkM.cells at HHAS
              simp only [] at HHAS
              have HCQ := hide hcq
              obtain ⟨r, hr⟩ : ∃ r, (⟨yid, yvol, yep, yme, yjo⟩ : Ck).has c0 = r := ⟨_, rfl⟩
              rw [hr] at HCQ HHAS
              clear hcq hr h6
              subst h6'
              go_wp2_with fail
              refine HHAS.out.mono ?_
              rintro e w3 ⟨rfl, hb3⟩
              have HK3 := hide (HK2.out.below hb3)
              clear hb3 HHAS kc v0 v1 v3 v4 kc3
              cases r with
              | false =>
                have HQ0 := hide HCQ.out
                simp only [Bool.not_false, if_true] at HQ0
                have HKC := hide HK3.out.ch
                have a0 := HKC.out.ds.cell 0
                have a1 := HKC.out.ds.cell 1
                have a2 := HKC.out.ds.cell 2
                have a3 := HKC.out.ds.cell 3
                have r0 := HKC.out.dr.cell 0
                have r1 := HKC.out.dr.cell 1
                have r2 := HKC.out.dr.cell 2
                have r3 := HKC.out.dr.cell 3
                have rf := HKC.out.dr.frozen
                simp only [DV.cells, List.getElem?_cons_succ, List.getElem?_cons_zero] at a0 a1 a2 a3 r0 r1 r2 r3
                have HRT := hide (HKC.out.ret (a0 := av) (fun z hz => by first | exact hz | exact List.mem_cons_of_mem _ hz) (A1 := .slice Ap 16 cp) (A2 := .slice Av V.length cv) (A3 := .slice (some ⟨b, o, none⟩) C.length cc) (z := .int .i64 S.nx))
                go_wp2
                refine bodyPost_ret (v := .tuple #[.agg #[.slice Ap 16 cp, .slice Av V.length cv, .slice (some ⟨b, o, none⟩) C.length cc, .int .i64 S.nx], .int .i64 1]) (by simp [results, Tryz.results52, go_sem, r0, r1, r2, r3]) rfl ?_
                rw [HQ0.out]
                exact ⟨⟨Ap, cp, V, Av, cv, C, some ⟨b, o, none⟩, cc⟩, rfl, HRT.out.1, HRT.out.2⟩
              | true =>
                simp only [Bool.not_true, Bool.false_eq_true, if_false] at HCQ
                have r3 := Below.refl w3.heap.size w3
                have u3 := HK3.out.dk.rule 3 _ rfl
                have u4 := HK3.out.dk.rule 4 _ rfl
                have x3' := HK3.out.ch.dc.rule 3 _ rfl
                by_cases hone : yme = [c0]
                · obtain ⟨mb, mo, eA, hbA, hcell⟩ := HK3.out.s1.rd.2 (by simp [hone])
                  have g0 : ∀ w', Below w3.heap.size w3 w' → w'.cell? ⟨mb, mo, none⟩ = some (.int .i64 c0) := fun w' hb => (hb.cell (p := ⟨mb, mo, none⟩) hbA).trans (hcell 0 _ (by simp [hone]))
                  have HQ0 : Hid (S.chunkQ ⟨6, a0, b0, c0, ⟨qr, qw, ql, qb⟩⟩ = (S, 9)) := hide (by rw [HCQ.out, if_pos hone])
                  simp only [] at eA
                  subst eA
                  have hl1' : ((yme.length : Int) == 1) = true := by simp [hone]
                  have hz : (c0 == c0) = true := by simp
                  have hln : 0 < yme.length := by simp [hone]
                  have i0 : (0 : Int) < yme.length := by omega
                  clear hcell hbA hone
                  go_upto_region 11 with fail
                  refine region_q (fun w' => Below w3.heap.size w3 w') (by kernel_rfl) (by kernel_rfl) (by (exact r3.drew)) ?_
                  (iterate 5 ((refine wq_step (fun K hK => ?_); apply q_take (by rfl); (focus (intro w hw; (try dsimp only at hw); go_simp; (try with_reducible rfl); done)); simp only [Act.put, zA37, zB37, zC37]; refine hK _ ?_; clear hK K))); (iterate 7 ((refine wq_step (fun K hK => ?_); apply q_take (by kernel_rfl); (focus (intro w hw; (try dsimp only at hw); go_simp; (try with_reducible rfl); done)); simp only [Act.put, zA37, zB37, zC37]; refine hK _ ?_; clear hK K))); (refine wq_step (fun K hK => ?_); apply q_take (by rfl); (focus (intro w hw; (try dsimp only at hw); go_simp; (try with_reducible rfl); done)); simp only [Act.put, zA37, zB37, zC37]; refine hK _ ?_; clear hK K)
                  refine wq_nil ?_
                  intro wq hwq
                  have HK4 := hide (HK3.out.below hwq)
                  clear g0 hl1' hz hln i0 hwq u3 u4 x3'
                  have HKC := hide HK4.out.ch
                  have a0 := HKC.out.ds.cell 0
                  have a1 := HKC.out.ds.cell 1
                  have a2 := HKC.out.ds.cell 2
                  have a3 := HKC.out.ds.cell 3
                  have r0 := HKC.out.dr.cell 0
                  have r1 := HKC.out.dr.cell 1
                  have r2 := HKC.out.dr.cell 2
                  have r3 := HKC.out.dr.cell 3
                  have rf := HKC.out.dr.frozen
                  simp only [DV.cells, List.getElem?_cons_succ, List.getElem?_cons_zero] at a0 a1 a2 a3 r0 r1 r2 r3
                  have HRT := hide (HKC.out.ret (a0 := av) (fun z hz => by first | exact hz | exact List.mem_cons_of_mem _ hz) (A1 := .slice Ap 16 cp) (A2 := .slice Av V.length cv) (A3 := .slice (some ⟨b, o, none⟩) C.length cc) (z := .int .i64 S.nx))
                  go_wp2
                  refine bodyPost_ret (v := .tuple #[.agg #[.slice Ap 16 cp, .slice Av V.length cv, .slice (some ⟨b, o, none⟩) C.length cc, .int .i64 S.nx], .int .i64 9]) (by simp [results, Tryz.results52, go_sem, r0, r1, r2, r3]) rfl ?_
                  rw [HQ0.out]
                  exact ⟨⟨Ap, cp, V, Av, cv, C, some ⟨b, o, none⟩, cc⟩, rfl, HRT.out.1, HRT.out.2⟩
                · have HQ1 : Hid (S.chunkQ ⟨6, a0, b0, c0, ⟨qr, qw, ql, qb⟩⟩ = (S.turn ⟨yid, yvol, yep, wout yme c0, wout yjo c0⟩, 0)) := hide (by rw [HCQ.out, if_neg hone])
                  by_cases hl1 : yme.length = 1
                  · obtain ⟨z, hme⟩ : ∃ z, yme = [z] := List.length_eq_one_iff.1 hl1
                    have hz : (z == c0) = false := by
                      have : z ≠ c0 := fun e => hone (by rw [hme, e])
                      simpa using this
                    obtain ⟨mb, mo, eA, hbA, hcell⟩ := HK3.out.s1.rd.2 (by simp [hl1])
                    have g0 : ∀ w', Below w3.heap.size w3 w' → w'.cell? ⟨mb, mo, none⟩ = some (.int .i64 z) := fun w' hb => (hb.cell (p := ⟨mb, mo, none⟩) hbA).trans (hcell 0 _ (by simp [hme]))
                    simp only [] at eA
                    subst eA
                    have hl1' : ((yme.length : Int) == 1) = true := by simp [hme]
                    have hln : 0 < yme.length := by omega
                    have i0 : (0 : Int) < yme.length := by omega
                    clear hcell hbA hone hl1 hme
                    go_upto_region 11 with fail
                    refine region_q (fun w' => Below w3.heap.size w3 w') (by kernel_rfl) (by kernel_rfl) (by (exact r3.drew)) ?_
                    (iterate 5 ((refine wq_step (fun K hK => ?_); apply q_take (by rfl); (focus (intro w hw; (try dsimp only at hw); go_simp; (try with_reducible rfl); done)); simp only [Act.put, zA37, zB37, zC37]; refine hK _ ?_; clear hK K))); (iterate 7 ((refine wq_step (fun K hK => ?_); apply q_take (by kernel_rfl); (focus (intro w hw; (try dsimp only at hw); go_simp; (try with_reducible rfl); done)); simp only [Act.put, zA37, zB37, zC37]; refine hK _ ?_; clear hK K))); (refine wq_step (fun K hK => ?_); apply q_take (by rfl); (focus (intro w hw; (try dsimp only at hw); go_simp; (try with_reducible rfl); done)); simp only [Act.put, zA37, zB37, zC37]; refine hK _ ?_; clear hK K)
                    refine wq_nil ?_
                    intro wq hwq
                    have HK4 := hide (HK3.out.below hwq)
                    clear g0 hl1' hz hln i0 hwq u3 u4 x3'
                    have y3 := HK4.out.dk.cell 3
                    have yc3 := HK4.out.ch.dc.cell 3
                    have yf3 := HK4.out.dk.frozen 3
                    simp only [CkM.cells, Cmd.cells, List.getElem?_cons_succ, List.getElem?_cons_zero] at y3 yc3
                    have HWA := hide (dwithout_calls wq (some ⟨mb, mo, none⟩) yc yme c0 HK4.out.s1.rd (Nat.le_trans (show yme.length ≤ 1024 from HK4.out.s1.ln) (by decide)))
                    go_wp2_with fail
                    refine HWA.out.mono ?_
                    rintro e w5 ⟨A5, c5, rfl, ho5, hb5⟩
                    have HK5 := hide ((HK4.out.below hb5).set 3 (.slice A5 (wout yme c0).length c5) ⟨⟨yid, yvol, yep, wout yme c0, yjo⟩, A5, c5, yB, yd⟩ rfl (ho5.sl (Nat.le_trans (wout_len yme c0) HK4.out.s1.ln) HK4.out.lts) (HK4.out.s2.below hb5))
                    have y3' := (HK4.out.below hb5).dk.cell 3
                    have yf3' := (HK4.out.below hb5).dk.frozen 3
                    clear ho5 hb5 HWA y3 yc3 yf3
                    obtain ⟨w6, hw6⟩ : ∃ w6, w5.setCell ⟨bk, 3, none⟩ (.slice A5 (wout yme c0).length c5) = w6 := ⟨_, rfl⟩
                    rw [hw6] at HK5
                    have HW6 := hide hw6
                    have y4 := HK5.out.dk.cell 4
                    have yc3 := HK5.out.ch.dc.cell 3
                    have yf4 := HK5.out.dk.frozen 4
                    simp only [CkM.cells, Cmd.cells, List.getElem?_cons_succ, List.getElem?_cons_zero] at y4 yc3
                    have HWB := hide (dwithout_calls w6 yB yd yjo c0 HK5.out.s2.rd (Nat.le_trans (show yjo.length ≤ 1024 from HK5.out.s2.ln) (by decide)))
                    clear hw6
                    go_upto_region 14 with fail
                    rw [HW6.out]
                    clear y3' yf3'
                    go_wp2_with fail
                    refine HWB.out.mono ?_
                    rintro e w7 ⟨A7, c7, rfl, ho7, hb7⟩
                    have HK7 := hide ((HK5.out.below hb7).set 4 (.slice A7 (wout yjo c0).length c7) ⟨⟨yid, yvol, yep, wout yme c0, wout yjo c0⟩, A5, c5, A7, c7⟩ rfl (HK5.out.s1.below hb7) (ho7.sl (Nat.le_trans (wout_len yjo c0) HK4.out.s2.ln) HK5.out.lts))
                    have y4' := (HK5.out.below hb7).dk.cell 4
                    have yf4' := (HK5.out.below hb7).dk.frozen 4
                    clear ho7 hb7 HWB y4 yc3 yf4
                    go_wp2
                    go_meet
                    exact ⟨_, _, _, _, _, _, HK7.out, HQ1.out⟩
                  · have hl1' : ((yme.length : Int) == 1) = false := by
                      have : (yme.length : Int) ≠ 1 := by omega
                      simpa using this
                    clear hone hl1
                    go_upto_region 11 with fail
                    refine region_q (fun w' => Below w3.heap.size w3 w') (by kernel_rfl) (by kernel_rfl) (by (exact r3.drew)) ?_
                    (iterate 5 ((refine wq_step (fun K hK => ?_); apply q_take (by rfl); (focus (intro w hw; (try dsimp only at hw); go_simp; (try with_reducible rfl); done)); simp only [Act.put, zA37, zB37, zC37]; refine hK _ ?_; clear hK K))); (iterate 7 ((refine wq_step (fun K hK => ?_); refine q_skip (by kernel_rfl) ?_; simp only [Act.put, zA37, zB37, zC37]; refine hK _ ?_; clear hK K))); (refine wq_step (fun K hK => ?_); apply q_take (by rfl); (focus (intro w hw; (try dsimp only at hw); go_simp; (try with_reducible rfl); done)); simp only [Act.put, zA37, zB37, zC37]; refine hK _ ?_; clear hK K)
                    refine wq_nil ?_
                    intro wq hwq
                    have HK4 := hide (HK3.out.below hwq)
                    clear hl1' hwq u3 u4 x3'
                    have y3 := HK4.out.dk.cell 3
                    have yc3 := HK4.out.ch.dc.cell 3
                    have yf3 := HK4.out.dk.frozen 3
                    simp only [CkM.cells, Cmd.cells, List.getElem?_cons_succ, List.getElem?_cons_zero] at y3 yc3
                    have HWA := hide (dwithout_calls wq yA yc yme c0 HK4.out.s1.rd (Nat.le_trans (show yme.length ≤ 1024 from HK4.out.s1.ln) (by decide)))
                    go_wp2_with fail
                    refine HWA.out.mono ?_
                    rintro e w5 ⟨A5, c5, rfl, ho5, hb5⟩
                    have HK5 := hide ((HK4.out.below hb5).set 3 (.slice A5 (wout yme c0).length c5) ⟨⟨yid, yvol, yep, wout yme c0, yjo⟩, A5, c5, yB, yd⟩ rfl (ho5.sl (Nat.le_trans (wout_len yme c0) HK4.out.s1.ln) HK4.out.lts) (HK4.out.s2.below hb5))
                    have y3' := (HK4.out.below hb5).dk.cell 3
                    have yf3' := (HK4.out.below hb5).dk.frozen 3
                    clear ho5 hb5 HWA y3 yc3 yf3
                    obtain ⟨w6, hw6⟩ : ∃ w6, w5.setCell ⟨bk, 3, none⟩ (.slice A5 (wout yme c0).length c5) = w6 := ⟨_, rfl⟩
                    rw [hw6] at HK5
                    have HW6 := hide hw6
                    have y4 := HK5.out.dk.cell 4
                    have yc3 := HK5.out.ch.dc.cell 3
                    have yf4 := HK5.out.dk.frozen 4
                    simp only [CkM.cells, Cmd.cells, List.getElem?_cons_succ, List.getElem?_cons_zero] at y4 yc3
                    have HWB := hide (dwithout_calls w6 yB yd yjo c0 HK5.out.s2.rd (Nat.le_trans (show yjo.length ≤ 1024 from HK5.out.s2.ln) (by decide)))
                    clear hw6
                    go_upto_region 14 with fail
                    rw [HW6.out]
                    clear y3' yf3'
                    go_wp2_with fail
                    refine HWB.out.mono ?_
                    rintro e w7 ⟨A7, c7, rfl, ho7, hb7⟩
                    have HK7 := hide ((HK5.out.below hb7).set 4 (.slice A7 (wout yjo c0).length c7) ⟨⟨yid, yvol, yep, wout yme c0, wout yjo c0⟩, A5, c5, A7, c7⟩ rfl (HK5.out.s1.below hb7) (ho7.sl (Nat.le_trans (wout_len yjo c0) HK4.out.s2.ln) HK5.out.lts))
                    have y4' := (HK5.out.below hb7).dk.cell 4
                    have yf4' := (HK5.out.below hb7).dk.frozen 4
                    clear ho7 hb7 HWB y4 yc3 yf4
                    go_wp2
                    go_meet
                    exact ⟨_, _, _, _, _, _, HK7.out, HQ1.out⟩
            · have h7' : k0 = 7 := h7
              have hsv : (fd Prod.fst S.sv c0).isSome = true := by
                have := of_decide_eq_false HBAD.out
                cases hf : fd Prod.fst S.sv c0 with
                | none => exact absurd ⟨h7, hf⟩ this
                | some z => rfl
              have hcq := Vst.chunkQ7 (S := S) (q := ⟨k0, a0, b0, c0, ⟨qr, qw, ql, qb⟩⟩) HY.out.2.2.1 HEP.out h7 hsv
              simp only [] at hcq
              have HHAS := hide (dhas_calls ⟨⟨yid, yvol, yep, yme, yjo⟩, yA, yc, yB, yd⟩ c0 _ w2 HK2.out.s1 HK2.out.s2)
              unfold CkM.val CkM.cells at HHAS
              simp only [] at HHAS
              have HCQ := hide hcq
              obtain ⟨r, hr⟩ : ∃ r, (⟨yid, yvol, yep, yme, yjo⟩ : Ck).has c0 = r := ⟨_, rfl⟩
              rw [hr] at HCQ HHAS
              clear hcq hr h7 hsv
              subst h7'
              go_wp2_with fail
              refine HHAS.out.mono ?_
              rintro e w3 ⟨rfl, hb3⟩
              have HK3 := hide (HK2.out.below hb3)
              clear hb3 HHAS kc v0 v1 v3 v4 kc3
              cases r with
              | true =>
                have HQ0 := hide HCQ.out
                simp only [if_true] at HQ0
                have HKC := hide HK3.out.ch
                have a0 := HKC.out.ds.cell 0
                have a1 := HKC.out.ds.cell 1
                have a2 := HKC.out.ds.cell 2
                have a3 := HKC.out.ds.cell 3
                have r0 := HKC.out.dr.cell 0
                have r1 := HKC.out.dr.cell 1
                have r2 := HKC.out.dr.cell 2
                have r3 := HKC.out.dr.cell 3
                have rf := HKC.out.dr.frozen
                simp only [DV.cells, List.getElem?_cons_succ, List.getElem?_cons_zero] at a0 a1 a2 a3 r0 r1 r2 r3
                have HRT := hide (HKC.out.ret (a0 := av) (fun z hz => by first | exact hz | exact List.mem_cons_of_mem _ hz) (A1 := .slice Ap 16 cp) (A2 := .slice Av V.length cv) (A3 := .slice (some ⟨b, o, none⟩) C.length cc) (z := .int .i64 S.nx))
                go_wp2
                refine bodyPost_ret (v := .tuple #[.agg #[.slice Ap 16 cp, .slice Av V.length cv, .slice (some ⟨b, o, none⟩) C.length cc, .int .i64 S.nx], .int .i64 8]) (by simp [results, Tryz.results52, go_sem, r0, r1, r2, r3]) rfl ?_
                rw [HQ0.out]
                exact ⟨⟨Ap, cp, V, Av, cv, C, some ⟨b, o, none⟩, cc⟩, rfl, HRT.out.1, HRT.out.2⟩
              | false =>
                simp only [Bool.false_eq_true, if_false] at HCQ
                have v3 := HK3.out.dk.cell 3
                have v4 := HK3.out.dk.cell 4
                simp only [CkM.cells, List.getElem?_cons_succ, List.getElem?_cons_zero] at v3 v4
                have hlw : IntKind.i64.wrap ((yme.length : Int) + yjo.length) = (yme.length : Int) + yjo.length := IntWalk.i64_in _ (by have := HEK.out.2.2; omega)
                by_cases h4 : 4 ≤ yme.length + yjo.length
                · have h4' : (4 : Int) ≤ (yme.length : Int) + yjo.length := by omega
                  have HQ0 : Hid (S.chunkQ ⟨7, a0, b0, c0, ⟨qr, qw, ql, qb⟩⟩ = (S, 6)) := hide (by rw [HCQ.out, if_pos h4])
                  have HKC := hide HK3.out.ch
                  clear h4
                  have a0 := HKC.out.ds.cell 0
                  have a1 := HKC.out.ds.cell 1
                  have a2 := HKC.out.ds.cell 2
                  have a3 := HKC.out.ds.cell 3
                  have r0 := HKC.out.dr.cell 0
                  have r1 := HKC.out.dr.cell 1
                  have r2 := HKC.out.dr.cell 2
                  have r3 := HKC.out.dr.cell 3
                  have rf := HKC.out.dr.frozen
                  simp only [DV.cells, List.getElem?_cons_succ, List.getElem?_cons_zero] at a0 a1 a2 a3 r0 r1 r2 r3
                  have HRT := hide (HKC.out.ret (a0 := av) (fun z hz => by first | exact hz | exact List.mem_cons_of_mem _ hz) (A1 := .slice Ap 16 cp) (A2 := .slice Av V.length cv) (A3 := .slice (some ⟨b, o, none⟩) C.length cc) (z := .int .i64 S.nx))
                  go_wp2
                  refine bodyPost_ret (v := .tuple #[.agg #[.slice Ap 16 cp, .slice Av V.length cv, .slice (some ⟨b, o, none⟩) C.length cc, .int .i64 S.nx], .int .i64 6]) (by simp [results, Tryz.results52, go_sem, r0, r1, r2, r3]) rfl ?_
                  rw [HQ0.out]
                  exact ⟨⟨Ap, cp, V, Av, cv, C, some ⟨b, o, none⟩, cc⟩, rfl, HRT.out.1, HRT.out.2⟩
                · have h4' : ¬ (4 : Int) ≤ (yme.length : Int) + yjo.length := by omega
                  have HQ1 : Hid (S.chunkQ ⟨7, a0, b0, c0, ⟨qr, qw, ql, qb⟩⟩ = (S.turn ⟨yid, yvol, yep, yme, yjo ++ [c0]⟩, 0)) := hide (by rw [HCQ.out, if_neg h4])
                  have hjl : yjo.length ≤ 4 := by omega
                  have HJL := hide hjl
                  clear h4 hjl
                  go_upto_region 20 with fail
                  clear v3 v4 hlw h4'
                  have r3 := Below.refl w3.heap.size w3
                  have u3 := HK3.out.dk.rule 3 _ rfl
                  have u4 := HK3.out.dk.rule 4 _ rfl
                  have x3' := HK3.out.ch.dc.rule 3 _ rfl
                  have f4 : ∀ w', Below w3.heap.size w3 w' → ∀ i, w'.frozen? ⟨bk, i, none⟩ = false := fun w' hb => (HK3.out.dk.below hb).frozen
                  refine lxR (fun w' => Below w3.heap.size w3 w') [9] 6 [(2, 1), (0, 2), (2, 4), (0, 5)] #[false, true, true, false, true, true, false, false, false, false] (by kernel_rfl) (by kernel_rfl) (by decide) (by kernel_rfl) (by kernel_rfl) (fun _ _ _ _ _ h => h) (by (first | assumption | with_reducible exact r3.drew | with_reducible exact bwA (by assumption) _ | with_reducible exact (bwA r3 _).drew | with_reducible exact (bwA (bwA r3 _) _).drew | with_reducible exact bwA (bwA r3 _).drew _)) (fun hS0 => ?_)
                  simp only [List.map_cons, List.map_nil, List.getElem?_toArray, List.getElem?_cons_succ, List.getElem?_cons_zero]
                  (apply lxP (by rfl); (focus (intro w; go_simp; (try with_reducible rfl); done)); simp only [Act.put, zA37, zB37, zC37]); (apply lxT (by rfl); (focus (intro w hw; (try dsimp only at hw); go_simp; (try with_reducible rfl); done)); simp only [Act.put, zA37, zB37, zC37]); (apply lxP (by rfl); (focus (intro w; go_simp; (try with_reducible rfl); done)); simp only [Act.put, zA37, zB37, zC37]); (apply lxT (by rfl); (focus (intro w hw; (try dsimp only at hw); go_simp; (try with_reducible rfl); done)); simp only [Act.put, zA37, zB37, zC37])
                  refine lxN (fun hS2 => ?_)
                  refine lexg_fork2 (i := 0) (j := 6) (by kernel_rfl) (by kernel_rfl : _ = #[true, true, true, false, true, true, false, false, false, false]) (by kernel_rfl : _ = #[false, true, true, false, true, true, true, false, false, false]) ?_ ?_
                  focus
                    apply lxA (by simp only [List.getElem?_toArray, List.getElem?_cons_succ, List.getElem?_cons_zero]; rfl) (by rfl)
                    go_simp
                    refine lxB (by (first | assumption | with_reducible exact r3.drew | with_reducible exact bwA (by assumption) _ | with_reducible exact (bwA r3 _).drew | with_reducible exact (bwA (bwA r3 _) _).drew | with_reducible exact bwA (bwA r3 _).drew _)) (fun hS1 => ?_)
                    refine lxM 5 [] #[true, true, true, false, true, true, false, false, false, false] (by kernel_rfl) (by decide) (by kernel_rfl) (by kernel_rfl) (fun _ _ _ _ _ h => h) (fun _ => by assumption) ?_
                    simp only [List.map_nil]
                    refine lxN (fun hS2 => ?_)
                    refine lexg_fork2 (i := 3) (j := 6) (by kernel_rfl) (by kernel_rfl : _ = #[true, true, true, true, true, true, false, false, false, false]) (by kernel_rfl : _ = #[true, true, true, false, true, true, true, false, false, false]) ?_ ?_
                    focus
                      apply lxA (by simp only [List.getElem?_toArray, List.getElem?_cons_succ, List.getElem?_cons_zero]; rfl) (by rfl)
                      (refine wp_app1 _ _ _ 27 rfl 3 i1 _ 1 8 Tryz.underlying27 hi1 hp0 hp1 hp2 rfl _ (by (repeat' (first | exact Blk.new rfl | exact Blk.new (cs := []) rfl | exact Blk.new (by simp) | exact Blk.new (cs := []) (by simp) | with_reducible refine Blk.drewC5 ?_ | with_reducible refine Blk.alloc ?_ _ | with_reducible refine Blk.below ?_ trivial))) rfl yB yjo.length yd w3.heap.size (yjo.map (Value.int .i64)) rfl (HK3.out.s2.rd.below (show Below w3.heap.size w3 _ from by assumption)) (by intro u hu; obtain ⟨z, _, rfl⟩ := List.mem_map.1 hu; rfl) (by have := HJL.out; unfold maxLen; omega) (by have := HJL.out; omega) ?_; intro g5 c5 w5 ho5 hb5 hg5 hgl5; have hb5q : Below w3.heap.size w3 w5 := bwP hb5 (by assumption); have hgg5 : w3.heap.size ≤ g5 := (by rcases hg5 with e | e <;> first | exact Nat.le_trans (Below.size (by assumption)) e | (subst e; first | omega | (simp; done) | (simp; omega))))
                      simp only [Act.put, zA37, zB37, zC37]
                      refine lxB (by (first | assumption | with_reducible exact r3.drew | with_reducible exact bwA (by assumption) _ | with_reducible exact (bwA r3 _).drew | with_reducible exact (bwA (bwA r3 _) _).drew | with_reducible exact bwA (bwA r3 _).drew _)) (fun hS1 => ?_)
                      refine lxM 0 [(1, 6), (1, 7), (2, 8), (3, 9)] #[true, true, true, true, true, true, true, true, true, true] (by kernel_rfl) (by decide) (by kernel_rfl) (by kernel_rfl) (fun _ _ _ _ _ h => h) (fun _ => by assumption) ?_
                      simp only [List.map_cons, List.map_nil, List.getElem?_toArray, List.getElem?_cons_succ, List.getElem?_cons_zero]
                      (refine lxE (by rfl) ?_; go_simp; refine lxB (by (first | assumption | with_reducible exact r3.drew | with_reducible exact bwA (by assumption) _ | with_reducible exact (bwA r3 _).drew | with_reducible exact (bwA (bwA r3 _) _).drew | with_reducible exact bwA (bwA r3 _).drew _)) (fun hS1 => ?_)); (refine lxE (by rfl) ?_; (refine app_wp _ _ 27 rfl 3 i1 _ 1 8 Tryz.underlying27 hi1 hp0 hp1 hp2 rfl (by decide) (.slice (some ⟨g5, 0, none⟩) yjo.length c5) yjo.length (yjo.map (Value.int .i64)) rfl (own_chg ho5 (Chg.of_below (L := []) (by first | with_reducible exact Below.refl _ _ | with_reducible exact bwA (Below.refl _ _) _)) (fun _ _ hx => by cases hx)) _ 1 1 [.int .i64 c0] rfl (by (repeat' (first | exact Blk.new rfl | exact Blk.new (cs := []) rfl | exact Blk.new (by simp) | exact Blk.new (cs := []) (by simp) | with_reducible refine Blk.drewC5 ?_ | with_reducible refine Blk.alloc ?_ _ | with_reducible refine Blk.below ?_ hb5))) rfl (by intro u hu; simp at hu; subst hu; rfl) (by decide) (by have := HJL.out; unfold maxLen; omega) (by have := HJL.out; omega) ?_; intro g8 cap8 w8 ho8 hch8 hor8 hgl8; rw [owS] at hch8 hor8; have hb8q : Below w3.heap.size w3 w8 := Chg.onto (show Below w3.heap.size w3 _ from by assumption) (Below.size (by assumption)) hch8 (fun q hq => by simp at hq; omega)); simp only [Act.put, zA37, zB37, zC37]; refine lxB (by (first | assumption | with_reducible exact r3.drew | with_reducible exact bwA (by assumption) _ | with_reducible exact (bwA r3 _).drew | with_reducible exact (bwA (bwA r3 _) _).drew | with_reducible exact bwA (bwA r3 _).drew _)) (fun hS1 => ?_)); (apply lxP (by rfl); (focus (intro w; go_simp; (try with_reducible rfl); done)); simp only [Act.put, zA37, zB37, zC37]); (refine lxF (by rfl) ?_; go_simp)
                      refine lxN (fun _ => wqD (by kernel_rfl) ?_ _)
                    rotate_left
                    focus
                      apply lxA (by simp only [List.getElem?_toArray, List.getElem?_cons_succ, List.getElem?_cons_zero]; rfl) (by rfl)
                      go_simp
                      refine lxB (by (first | assumption | with_reducible exact r3.drew | with_reducible exact bwA (by assumption) _ | with_reducible exact (bwA r3 _).drew | with_reducible exact (bwA (bwA r3 _) _).drew | with_reducible exact bwA (bwA r3 _).drew _)) (fun hS1 => ?_)
                      refine lxM 0 [(1, 3), (1, 7), (2, 8), (3, 9)] #[true, true, true, true, true, true, true, true, true, true] (by kernel_rfl) (by decide) (by kernel_rfl) (by kernel_rfl) (fun _ _ _ _ _ h => h) (fun _ => by assumption) ?_
                      simp only [List.map_cons, List.map_nil, List.getElem?_toArray, List.getElem?_cons_succ, List.getElem?_cons_zero]
                      (refine lxE (by rfl) ?_; (refine wp_app1 _ _ _ 27 rfl 3 i1 _ 1 8 Tryz.underlying27 hi1 hp0 hp1 hp2 rfl _ (by (repeat' (first | exact Blk.new rfl | exact Blk.new (cs := []) rfl | exact Blk.new (by simp) | exact Blk.new (cs := []) (by simp) | with_reducible refine Blk.drewC5 ?_ | with_reducible refine Blk.alloc ?_ _ | with_reducible refine Blk.below ?_ trivial))) rfl yB yjo.length yd w3.heap.size (yjo.map (Value.int .i64)) rfl (HK3.out.s2.rd.below (show Below w3.heap.size w3 _ from by assumption)) (by intro u hu; obtain ⟨z, _, rfl⟩ := List.mem_map.1 hu; rfl) (by have := HJL.out; unfold maxLen; omega) (by have := HJL.out; omega) ?_; intro g5 c5 w5 ho5 hb5 hg5 hgl5; have hb5q : Below w3.heap.size w3 w5 := bwP hb5 (by assumption); have hgg5 : w3.heap.size ≤ g5 := (by rcases hg5 with e | e <;> first | exact Nat.le_trans (Below.size (by assumption)) e | (subst e; first | omega | (simp; done) | (simp; omega)))); simp only [Act.put, zA37, zB37, zC37]; refine lxB (by (first | assumption | with_reducible exact r3.drew | with_reducible exact bwA (by assumption) _ | with_reducible exact (bwA r3 _).drew | with_reducible exact (bwA (bwA r3 _) _).drew | with_reducible exact bwA (bwA r3 _).drew _)) (fun hS1 => ?_)); (refine lxE (by rfl) ?_; (refine app_wp _ _ 27 rfl 3 i1 _ 1 8 Tryz.underlying27 hi1 hp0 hp1 hp2 rfl (by decide) (.slice (some ⟨g5, 0, none⟩) yjo.length c5) yjo.length (yjo.map (Value.int .i64)) rfl (own_chg ho5 (Chg.of_below (L := []) (by first | with_reducible exact Below.refl _ _ | with_reducible exact bwA (Below.refl _ _) _)) (fun _ _ hx => by cases hx)) _ 1 1 [.int .i64 c0] rfl (by (repeat' (first | exact Blk.new rfl | exact Blk.new (cs := []) rfl | exact Blk.new (by simp) | exact Blk.new (cs := []) (by simp) | with_reducible refine Blk.drewC5 ?_ | with_reducible refine Blk.alloc ?_ _ | with_reducible refine Blk.below ?_ hb5))) rfl (by intro u hu; simp at hu; subst hu; rfl) (by decide) (by have := HJL.out; unfold maxLen; omega) (by have := HJL.out; omega) ?_; intro g8 cap8 w8 ho8 hch8 hor8 hgl8; rw [owS] at hch8 hor8; have hb8q : Below w3.heap.size w3 w8 := Chg.onto (show Below w3.heap.size w3 _ from by assumption) (Below.size (by assumption)) hch8 (fun q hq => by simp at hq; omega)); simp only [Act.put, zA37, zB37, zC37]; refine lxB (by (first | assumption | with_reducible exact r3.drew | with_reducible exact bwA (by assumption) _ | with_reducible exact (bwA r3 _).drew | with_reducible exact (bwA (bwA r3 _) _).drew | with_reducible exact bwA (bwA r3 _).drew _)) (fun hS1 => ?_)); (apply lxP (by rfl); (focus (intro w; go_simp; (try with_reducible rfl); done)); simp only [Act.put, zA37, zB37, zC37]); (refine lxF (by rfl) ?_; go_simp)
                      refine lxN (fun _ => wqD (by kernel_rfl) ?_ _)
                    rotate_left
                  rotate_left 2
                  focus
                    apply lxA (by simp only [List.getElem?_toArray, List.getElem?_cons_succ, List.getElem?_cons_zero]; rfl) (by rfl)
                    go_simp
                    refine lxB (by (first | assumption | with_reducible exact r3.drew | with_reducible exact bwA (by assumption) _ | with_reducible exact (bwA r3 _).drew | with_reducible exact (bwA (bwA r3 _) _).drew | with_reducible exact bwA (bwA r3 _).drew _)) (fun hS1 => ?_)
                    refine lxM 0 [(1, 0), (1, 3), (1, 7), (2, 8), (3, 9)] #[true, true, true, true, true, true, true, true, true, true] (by kernel_rfl) (by decide) (by kernel_rfl) (by kernel_rfl) (fun _ _ _ _ _ h => h) (fun _ => by assumption) ?_
                    simp only [List.map_cons, List.map_nil, List.getElem?_toArray, List.getElem?_cons_succ, List.getElem?_cons_zero]
                    (refine lxE (by rfl) ?_; go_simp; refine lxB (by (first | assumption | with_reducible exact r3.drew | with_reducible exact bwA (by assumption) _ | with_reducible exact (bwA r3 _).drew | with_reducible exact (bwA (bwA r3 _) _).drew | with_reducible exact bwA (bwA r3 _).drew _)) (fun hS1 => ?_)); (refine lxE (by rfl) ?_; (refine wp_app1 _ _ _ 27 rfl 3 i1 _ 1 8 Tryz.underlying27 hi1 hp0 hp1 hp2 rfl _ (by (repeat' (first | exact Blk.new rfl | exact Blk.new (cs := []) rfl | exact Blk.new (by simp) | exact Blk.new (cs := []) (by simp) | with_reducible refine Blk.drewC5 ?_ | with_reducible refine Blk.alloc ?_ _ | with_reducible refine Blk.below ?_ trivial))) rfl yB yjo.length yd w3.heap.size (yjo.map (Value.int .i64)) rfl (HK3.out.s2.rd.below (show Below w3.heap.size w3 _ from by assumption)) (by intro u hu; obtain ⟨z, _, rfl⟩ := List.mem_map.1 hu; rfl) (by have := HJL.out; unfold maxLen; omega) (by have := HJL.out; omega) ?_; intro g5 c5 w5 ho5 hb5 hg5 hgl5; have hb5q : Below w3.heap.size w3 w5 := bwP hb5 (by assumption); have hgg5 : w3.heap.size ≤ g5 := (by rcases hg5 with e | e <;> first | exact Nat.le_trans (Below.size (by assumption)) e | (subst e; first | omega | (simp; done) | (simp; omega)))); simp only [Act.put, zA37, zB37, zC37]; refine lxB (by (first | assumption | with_reducible exact r3.drew | with_reducible exact bwA (by assumption) _ | with_reducible exact (bwA r3 _).drew | with_reducible exact (bwA (bwA r3 _) _).drew | with_reducible exact bwA (bwA r3 _).drew _)) (fun hS1 => ?_))
                    (refine lxE (by rfl) ?_; (refine app_wp _ _ 27 rfl 3 i1 _ 1 8 Tryz.underlying27 hi1 hp0 hp1 hp2 rfl (by decide) (.slice (some ⟨g5, 0, none⟩) yjo.length c5) yjo.length (yjo.map (Value.int .i64)) rfl (own_chg ho5 (Chg.of_below (L := []) (by first | with_reducible exact Below.refl _ _ | with_reducible exact bwA (Below.refl _ _) _)) (fun _ _ hx => by cases hx)) _ 1 1 [.int .i64 c0] rfl (by (repeat' (first | exact Blk.new rfl | exact Blk.new (cs := []) rfl | exact Blk.new (by simp) | exact Blk.new (cs := []) (by simp) | with_reducible refine Blk.drewC5 ?_ | with_reducible refine Blk.alloc ?_ _ | with_reducible refine Blk.below ?_ hb5))) rfl (by intro u hu; simp at hu; subst hu; rfl) (by decide) (by have := HJL.out; unfold maxLen; omega) (by have := HJL.out; omega) ?_; intro g8 cap8 w8 ho8 hch8 hor8 hgl8; rw [owS] at hch8 hor8; have hb8q : Below w3.heap.size w3 w8 := Chg.onto (show Below w3.heap.size w3 _ from by assumption) (Below.size (by assumption)) hch8 (fun q hq => by simp at hq; omega)); simp only [Act.put, zA37, zB37, zC37]; refine lxB (by (first | assumption | with_reducible exact r3.drew | with_reducible exact bwA (by assumption) _ | with_reducible exact (bwA r3 _).drew | with_reducible exact (bwA (bwA r3 _) _).drew | with_reducible exact bwA (bwA r3 _).drew _)) (fun hS1 => ?_)); (apply lxP (by rfl); (focus (intro w; go_simp; (try with_reducible rfl); done)); simp only [Act.put, zA37, zB37, zC37]); (refine lxF (by rfl) ?_; go_simp)
                    refine lxN (fun _ => wqD (by kernel_rfl) ?_ _)
                  rotate_left
                  all_goals
                    rename_i hunm
                    clear hunm
                    have hg8 : w3.heap.size ≤ g8 := by
                      rcases hor8 with e | e
                      · have : g5 = g8 := by simpa using e
                        omega
                      · rw [e]; exact Below.size (by assumption)
                    have HK8 := hide ((HK3.out.below hb8q).set 4 (.slice (some ⟨g8, 0, none⟩) (yjo.length + 1) cap8) ⟨⟨yid, yvol, yep, yme, yjo ++ [c0]⟩, yA, yc, some ⟨g8, 0, none⟩, cap8⟩ (by simp [CkM.cells]) (HK3.out.s1.below hb8q) (Sl.app ho8 (by have := HJL.out; omega) hg8 HK3.out.lts))
                    go_wp2
                    go_meet
                    exact ⟨_, _, _, _, _, _, HK8.out, HQ1.out⟩
            · have h8' : k0 = 8 := h8
              have hcq := Vst.chunkQ8 (S := S) (q := ⟨k0, a0, b0, c0, ⟨qr, qw, ql, qb⟩⟩) HY.out.2.2.1 HEP.out h8
              simp only [] at hcq
              have HHAS := hide (has15_calls yB yjo.length yd yjo c0 w2 rfl (Nat.le_trans (show yjo.length ≤ 1024 from HK2.out.s2.ln) (by decide)) HK2.out.s2.rd)
              have HCQ := hide hcq
              obtain ⟨r, hr⟩ : ∃ r, yjo.contains c0 = r := ⟨_, rfl⟩
              rw [hr] at HCQ HHAS
              clear hcq hr h8
              subst h8'
              go_wp2_with fail
              refine HHAS.out.mono ?_
              rintro e w3 ⟨rfl, hb3⟩
              obtain ⟨nq, hw3⟩ := hb3
              have HK3 := hide (HK2.out.below (show Below w2.heap.size w2 w3 from hw3 ▸ below_drewN (Below.refl _ _) nq))
              clear hw3 HHAS kc v0 v1 v3 v4 kc3
              cases r with
              | false =>
                have HQ0 := hide HCQ.out
                simp only [Bool.not_false, if_true] at HQ0
                have HKC := hide HK3.out.ch
                have a0 := HKC.out.ds.cell 0
                have a1 := HKC.out.ds.cell 1
                have a2 := HKC.out.ds.cell 2
                have a3 := HKC.out.ds.cell 3
                have r0 := HKC.out.dr.cell 0
                have r1 := HKC.out.dr.cell 1
                have r2 := HKC.out.dr.cell 2
                have r3 := HKC.out.dr.cell 3
                have rf := HKC.out.dr.frozen
                simp only [DV.cells, List.getElem?_cons_succ, List.getElem?_cons_zero] at a0 a1 a2 a3 r0 r1 r2 r3
                have HRT := hide (HKC.out.ret (a0 := av) (fun z hz => by first | exact hz | exact List.mem_cons_of_mem _ hz) (A1 := .slice Ap 16 cp) (A2 := .slice Av V.length cv) (A3 := .slice (some ⟨b, o, none⟩) C.length cc) (z := .int .i64 S.nx))
                go_wp2
                refine bodyPost_ret (v := .tuple #[.agg #[.slice Ap 16 cp, .slice Av V.length cv, .slice (some ⟨b, o, none⟩) C.length cc, .int .i64 S.nx], .int .i64 1]) (by simp [results, Tryz.results52, go_sem, r0, r1, r2, r3]) rfl ?_
                rw [HQ0.out]
                exact ⟨⟨Ap, cp, V, Av, cv, C, some ⟨b, o, none⟩, cc⟩, rfl, HRT.out.1, HRT.out.2⟩
              | true =>
                have HQ1 := hide HCQ.out
                simp only [Bool.not_true, Bool.false_eq_true, if_false] at HQ1
                have hjl : yme.length ≤ 4 := by have := HEK.out.2.2; omega
                have HJL := hide hjl
                clear hjl
                go_upto_region 24 with fail
                have r3 := Below.refl w3.heap.size w3
                have u3 := HK3.out.dk.rule 3 _ rfl
                have u4 := HK3.out.dk.rule 4 _ rfl
                have x3' := HK3.out.ch.dc.rule 3 _ rfl
                have f4 : ∀ w', Below w3.heap.size w3 w' → ∀ i, w'.frozen? ⟨bk, i, none⟩ = false := fun w' hb => (HK3.out.dk.below hb).frozen
                refine lxR (fun w' => Below w3.heap.size w3 w') [9] 6 [(2, 1), (0, 2), (2, 4), (0, 5)] #[false, true, true, false, true, true, false, false, false, false] (by kernel_rfl) (by kernel_rfl) (by decide) (by kernel_rfl) (by kernel_rfl) (fun _ _ _ _ _ h => h) (by (first | assumption | with_reducible exact r3.drew | with_reducible exact bwA (by assumption) _ | with_reducible exact (bwA r3 _).drew | with_reducible exact (bwA (bwA r3 _) _).drew | with_reducible exact bwA (bwA r3 _).drew _)) (fun hS0 => ?_)
                simp only [List.map_cons, List.map_nil, List.getElem?_toArray, List.getElem?_cons_succ, List.getElem?_cons_zero]
                (apply lxP (by rfl); (focus (intro w; go_simp; (try with_reducible rfl); done)); simp only [Act.put, zA37, zB37, zC37]); (apply lxT (by rfl); (focus (intro w hw; (try dsimp only at hw); go_simp; (try with_reducible rfl); done)); simp only [Act.put, zA37, zB37, zC37]); (apply lxP (by rfl); (focus (intro w; go_simp; (try with_reducible rfl); done)); simp only [Act.put, zA37, zB37, zC37]); (apply lxT (by rfl); (focus (intro w hw; (try dsimp only at hw); go_simp; (try with_reducible rfl); done)); simp only [Act.put, zA37, zB37, zC37])
                refine lxN (fun hS2 => ?_)
                refine lexg_fork2 (i := 0) (j := 6) (by kernel_rfl) (by kernel_rfl : _ = #[true, true, true, false, true, true, false, false, false, false]) (by kernel_rfl : _ = #[false, true, true, false, true, true, true, false, false, false]) ?_ ?_
                focus
                  apply lxA (by simp only [List.getElem?_toArray, List.getElem?_cons_succ, List.getElem?_cons_zero]; rfl) (by rfl)
                  go_simp
                  refine lxB (by (first | assumption | with_reducible exact r3.drew | with_reducible exact bwA (by assumption) _ | with_reducible exact (bwA r3 _).drew | with_reducible exact (bwA (bwA r3 _) _).drew | with_reducible exact bwA (bwA r3 _).drew _)) (fun hS1 => ?_)
                  refine lxM 5 [] #[true, true, true, false, true, true, false, false, false, false] (by kernel_rfl) (by decide) (by kernel_rfl) (by kernel_rfl) (fun _ _ _ _ _ h => h) (fun _ => by assumption) ?_
                  simp only [List.map_nil]
                  refine lxN (fun hS2 => ?_)
                  refine lexg_fork2 (i := 3) (j := 6) (by kernel_rfl) (by kernel_rfl : _ = #[true, true, true, true, true, true, false, false, false, false]) (by kernel_rfl : _ = #[true, true, true, false, true, true, true, false, false, false]) ?_ ?_
                  focus
                    apply lxA (by simp only [List.getElem?_toArray, List.getElem?_cons_succ, List.getElem?_cons_zero]; rfl) (by rfl)
                    (refine wp_app1 _ _ _ 27 rfl 3 i1 _ 1 8 Tryz.underlying27 hi1 hp0 hp1 hp2 rfl _ (by (repeat' (first | exact Blk.new rfl | exact Blk.new (cs := []) rfl | exact Blk.new (by simp) | exact Blk.new (cs := []) (by simp) | with_reducible refine Blk.drewC5 ?_ | with_reducible refine Blk.alloc ?_ _ | with_reducible refine Blk.below ?_ trivial))) rfl yA yme.length yc w3.heap.size (yme.map (Value.int .i64)) rfl (HK3.out.s1.rd.below (show Below w3.heap.size w3 _ from by assumption)) (by intro u hu; obtain ⟨z, _, rfl⟩ := List.mem_map.1 hu; rfl) (by have := HJL.out; unfold maxLen; omega) (by have := HJL.out; omega) ?_; intro g5 c5 w5 ho5 hb5 hg5 hgl5; have hb5q : Below w3.heap.size w3 w5 := bwP hb5 (by assumption); have hgg5 : w3.heap.size ≤ g5 := (by rcases hg5 with e | e <;> first | exact Nat.le_trans (Below.size (by assumption)) e | (subst e; first | omega | (simp; done) | (simp; omega))))
                    simp only [Act.put, zA37, zB37, zC37]
                    refine lxB (by (first | assumption | with_reducible exact r3.drew | with_reducible exact bwA (by assumption) _ | with_reducible exact (bwA r3 _).drew | with_reducible exact (bwA (bwA r3 _) _).drew | with_reducible exact bwA (bwA r3 _).drew _)) (fun hS1 => ?_)
                    refine lxM 0 [(1, 6), (1, 7), (2, 8), (3, 9)] #[true, true, true, true, true, true, true, true, true, true] (by kernel_rfl) (by decide) (by kernel_rfl) (by kernel_rfl) (fun _ _ _ _ _ h => h) (fun _ => by assumption) ?_
                    simp only [List.map_cons, List.map_nil, List.getElem?_toArray, List.getElem?_cons_succ, List.getElem?_cons_zero]
                    (refine lxE (by rfl) ?_; go_simp; refine lxB (by (first | assumption | with_reducible exact r3.drew | with_reducible exact bwA (by assumption) _ | with_reducible exact (bwA r3 _).drew | with_reducible exact (bwA (bwA r3 _) _).drew | with_reducible exact bwA (bwA r3 _).drew _)) (fun hS1 => ?_)); (refine lxE (by rfl) ?_; (refine app_wp _ _ 27 rfl 3 i1 _ 1 8 Tryz.underlying27 hi1 hp0 hp1 hp2 rfl (by decide) (.slice (some ⟨g5, 0, none⟩) yme.length c5) yme.length (yme.map (Value.int .i64)) rfl (own_chg ho5 (Chg.of_below (L := []) (by first | with_reducible exact Below.refl _ _ | with_reducible exact bwA (Below.refl _ _) _)) (fun _ _ hx => by cases hx)) _ 1 1 [.int .i64 c0] rfl (by (repeat' (first | exact Blk.new rfl | exact Blk.new (cs := []) rfl | exact Blk.new (by simp) | exact Blk.new (cs := []) (by simp) | with_reducible refine Blk.drewC5 ?_ | with_reducible refine Blk.alloc ?_ _ | with_reducible refine Blk.below ?_ hb5))) rfl (by intro u hu; simp at hu; subst hu; rfl) (by decide) (by have := HJL.out; unfold maxLen; omega) (by have := HJL.out; omega) ?_; intro g8 cap8 w8 ho8 hch8 hor8 hgl8; rw [owS] at hch8 hor8; have hb8q : Below w3.heap.size w3 w8 := Chg.onto (show Below w3.heap.size w3 _ from by assumption) (Below.size (by assumption)) hch8 (fun q hq => by simp at hq; omega)); simp only [Act.put, zA37, zB37, zC37]; refine lxB (by (first | assumption | with_reducible exact r3.drew | with_reducible exact bwA (by assumption) _ | with_reducible exact (bwA r3 _).drew | with_reducible exact (bwA (bwA r3 _) _).drew | with_reducible exact bwA (bwA r3 _).drew _)) (fun hS1 => ?_)); (apply lxP (by rfl); (focus (intro w; go_simp; (try with_reducible rfl); done)); simp only [Act.put, zA37, zB37, zC37]); (refine lxF (by rfl) ?_; go_simp)
                    refine lxN (fun _ => wqD (by kernel_rfl) ?_ _)
                  rotate_left
                  focus
                    apply lxA (by simp only [List.getElem?_toArray, List.getElem?_cons_succ, List.getElem?_cons_zero]; rfl) (by rfl)
                    go_simp
                    refine lxB (by (first | assumption | with_reducible exact r3.drew | with_reducible exact bwA (by assumption) _ | with_reducible exact (bwA r3 _).drew | with_reducible exact (bwA (bwA r3 _) _).drew | with_reducible exact bwA (bwA r3 _).drew _)) (fun hS1 => ?_)
                    refine lxM 0 [(1, 3), (1, 7), (2, 8), (3, 9)] #[true, true, true, true, true, true, true, true, true, true] (by kernel_rfl) (by decide) (by kernel_rfl) (by kernel_rfl) (fun _ _ _ _ _ h => h) (fun _ => by assumption) ?_
                    simp only [List.map_cons, List.map_nil, List.getElem?_toArray, List.getElem?_cons_succ, List.getElem?_cons_zero]
                    (refine lxE (by rfl) ?_; (refine wp_app1 _ _ _ 27 rfl 3 i1 _ 1 8 Tryz.underlying27 hi1 hp0 hp1 hp2 rfl _ (by (repeat' (first | exact Blk.new rfl | exact Blk.new (cs := []) rfl | exact Blk.new (by simp) | exact Blk.new (cs := []) (by simp) | with_reducible refine Blk.drewC5 ?_ | with_reducible refine Blk.alloc ?_ _ | with_reducible refine Blk.below ?_ trivial))) rfl yA yme.length yc w3.heap.size (yme.map (Value.int .i64)) rfl (HK3.out.s1.rd.below (show Below w3.heap.size w3 _ from by assumption)) (by intro u hu; obtain ⟨z, _, rfl⟩ := List.mem_map.1 hu; rfl) (by have := HJL.out; unfold maxLen; omega) (by have := HJL.out; omega) ?_; intro g5 c5 w5 ho5 hb5 hg5 hgl5; have hb5q : Below w3.heap.size w3 w5 := bwP hb5 (by assumption); have hgg5 : w3.heap.size ≤ g5 := (by rcases hg5 with e | e <;> first | exact Nat.le_trans (Below.size (by assumption)) e | (subst e; first | omega | (simp; done) | (simp; omega)))); simp only [Act.put, zA37, zB37, zC37]; refine lxB (by (first | assumption | with_reducible exact r3.drew | with_reducible exact bwA (by assumption) _ | with_reducible exact (bwA r3 _).drew | with_reducible exact (bwA (bwA r3 _) _).drew | with_reducible exact bwA (bwA r3 _).drew _)) (fun hS1 => ?_)); (refine lxE (by rfl) ?_; (refine app_wp _ _ 27 rfl 3 i1 _ 1 8 Tryz.underlying27 hi1 hp0 hp1 hp2 rfl (by decide) (.slice (some ⟨g5, 0, none⟩) yme.length c5) yme.length (yme.map (Value.int .i64)) rfl (own_chg ho5 (Chg.of_below (L := []) (by first | with_reducible exact Below.refl _ _ | with_reducible exact bwA (Below.refl _ _) _)) (fun _ _ hx => by cases hx)) _ 1 1 [.int .i64 c0] rfl (by (repeat' (first | exact Blk.new rfl | exact Blk.new (cs := []) rfl | exact Blk.new (by simp) | exact Blk.new (cs := []) (by simp) | with_reducible refine Blk.drewC5 ?_ | with_reducible refine Blk.alloc ?_ _ | with_reducible refine Blk.below ?_ hb5))) rfl (by intro u hu; simp at hu; subst hu; rfl) (by decide) (by have := HJL.out; unfold maxLen; omega) (by have := HJL.out; omega) ?_; intro g8 cap8 w8 ho8 hch8 hor8 hgl8; rw [owS] at hch8 hor8; have hb8q : Below w3.heap.size w3 w8 := Chg.onto (show Below w3.heap.size w3 _ from by assumption) (Below.size (by assumption)) hch8 (fun q hq => by simp at hq; omega)); simp only [Act.put, zA37, zB37, zC37]; refine lxB (by (first | assumption | with_reducible exact r3.drew | with_reducible exact bwA (by assumption) _ | with_reducible exact (bwA r3 _).drew | with_reducible exact (bwA (bwA r3 _) _).drew | with_reducible exact bwA (bwA r3 _).drew _)) (fun hS1 => ?_)); (apply lxP (by rfl); (focus (intro w; go_simp; (try with_reducible rfl); done)); simp only [Act.put, zA37, zB37, zC37]); (refine lxF (by rfl) ?_; go_simp)
                    refine lxN (fun _ => wqD (by kernel_rfl) ?_ _)
                  rotate_left
                rotate_left 2
                focus
                  apply lxA (by simp only [List.getElem?_toArray, List.getElem?_cons_succ, List.getElem?_cons_zero]; rfl) (by rfl)
                  go_simp
                  refine lxB (by (first | assumption | with_reducible exact r3.drew | with_reducible exact bwA (by assumption) _ | with_reducible exact (bwA r3 _).drew | with_reducible exact (bwA (bwA r3 _) _).drew | with_reducible exact bwA (bwA r3 _).drew _)) (fun hS1 => ?_)
                  refine lxM 0 [(1, 0), (1, 3), (1, 7), (2, 8), (3, 9)] #[true, true, true, true, true, true, true, true, true, true] (by kernel_rfl) (by decide) (by kernel_rfl) (by kernel_rfl) (fun _ _ _ _ _ h => h) (fun _ => by assumption) ?_
                  simp only [List.map_cons, List.map_nil, List.getElem?_toArray, List.getElem?_cons_succ, List.getElem?_cons_zero]
                  (refine lxE (by rfl) ?_; go_simp; refine lxB (by (first | assumption | with_reducible exact r3.drew | with_reducible exact bwA (by assumption) _ | with_reducible exact (bwA r3 _).drew | with_reducible exact (bwA (bwA r3 _) _).drew | with_reducible exact bwA (bwA r3 _).drew _)) (fun hS1 => ?_)); (refine lxE (by rfl) ?_; (refine wp_app1 _ _ _ 27 rfl 3 i1 _ 1 8 Tryz.underlying27 hi1 hp0 hp1 hp2 rfl _ (by (repeat' (first | exact Blk.new rfl | exact Blk.new (cs := []) rfl | exact Blk.new (by simp) | exact Blk.new (cs := []) (by simp) | with_reducible refine Blk.drewC5 ?_ | with_reducible refine Blk.alloc ?_ _ | with_reducible refine Blk.below ?_ trivial))) rfl yA yme.length yc w3.heap.size (yme.map (Value.int .i64)) rfl (HK3.out.s1.rd.below (show Below w3.heap.size w3 _ from by assumption)) (by intro u hu; obtain ⟨z, _, rfl⟩ := List.mem_map.1 hu; rfl) (by have := HJL.out; unfold maxLen; omega) (by have := HJL.out; omega) ?_; intro g5 c5 w5 ho5 hb5 hg5 hgl5; have hb5q : Below w3.heap.size w3 w5 := bwP hb5 (by assumption); have hgg5 : w3.heap.size ≤ g5 := (by rcases hg5 with e | e <;> first | exact Nat.le_trans (Below.size (by assumption)) e | (subst e; first | omega | (simp; done) | (simp; omega)))); simp only [Act.put, zA37, zB37, zC37]; refine lxB (by (first | assumption | with_reducible exact r3.drew | with_reducible exact bwA (by assumption) _ | with_reducible exact (bwA r3 _).drew | with_reducible exact (bwA (bwA r3 _) _).drew | with_reducible exact bwA (bwA r3 _).drew _)) (fun hS1 => ?_))
                  (refine lxE (by rfl) ?_; (refine app_wp _ _ 27 rfl 3 i1 _ 1 8 Tryz.underlying27 hi1 hp0 hp1 hp2 rfl (by decide) (.slice (some ⟨g5, 0, none⟩) yme.length c5) yme.length (yme.map (Value.int .i64)) rfl (own_chg ho5 (Chg.of_below (L := []) (by first | with_reducible exact Below.refl _ _ | with_reducible exact bwA (Below.refl _ _) _)) (fun _ _ hx => by cases hx)) _ 1 1 [.int .i64 c0] rfl (by (repeat' (first | exact Blk.new rfl | exact Blk.new (cs := []) rfl | exact Blk.new (by simp) | exact Blk.new (cs := []) (by simp) | with_reducible refine Blk.drewC5 ?_ | with_reducible refine Blk.alloc ?_ _ | with_reducible refine Blk.below ?_ hb5))) rfl (by intro u hu; simp at hu; subst hu; rfl) (by decide) (by have := HJL.out; unfold maxLen; omega) (by have := HJL.out; omega) ?_; intro g8 cap8 w8 ho8 hch8 hor8 hgl8; rw [owS] at hch8 hor8; have hb8q : Below w3.heap.size w3 w8 := Chg.onto (show Below w3.heap.size w3 _ from by assumption) (Below.size (by assumption)) hch8 (fun q hq => by simp at hq; omega)); simp only [Act.put, zA37, zB37, zC37]; refine lxB (by (first | assumption | with_reducible exact r3.drew | with_reducible exact bwA (by assumption) _ | with_reducible exact (bwA r3 _).drew | with_reducible exact (bwA (bwA r3 _) _).drew | with_reducible exact bwA (bwA r3 _).drew _)) (fun hS1 => ?_)); (apply lxP (by rfl); (focus (intro w; go_simp; (try with_reducible rfl); done)); simp only [Act.put, zA37, zB37, zC37]); (refine lxF (by rfl) ?_; go_simp)
                  refine lxN (fun _ => wqD (by kernel_rfl) ?_ _)
                rotate_left
                all_goals
                  rename_i hunm
                  clear hunm
                  have hg8 : w3.heap.size ≤ g8 := by
                    rcases hor8 with e | e
                    · have : g5 = g8 := by simpa using e
                      omega
                    · rw [e]; exact Below.size (by assumption)
                  have HK8 := hide ((HK3.out.below hb8q).set 3 (.slice (some ⟨g8, 0, none⟩) (yme.length + 1) cap8) ⟨⟨yid, yvol, yep, yme ++ [c0], yjo⟩, some ⟨g8, 0, none⟩, cap8, yB, yd⟩ (by simp [CkM.cells]) (Sl.app ho8 (by have := HJL.out; omega) hg8 HK3.out.lts) (HK3.out.s2.below hb8q))
                  obtain ⟨w9, hw9⟩ : ∃ w9, w8.setCell ⟨bk, 3, none⟩ (.slice (some ⟨g8, 0, none⟩) (yme.length + 1) cap8) = w9 := ⟨_, rfl⟩
                  rw [hw9] at HK8
                  rw [hw9]
                  have y4 := HK8.out.dk.cell 4
                  have yc3 := HK8.out.ch.dc.cell 3
                  have yf4 := HK8.out.dk.frozen 4
                  simp only [CkM.cells, Cmd.cells, List.getElem?_cons_succ, List.getElem?_cons_zero] at y4 yc3
                  have HWB := hide (dwithout_calls w9 yB yd yjo c0 HK8.out.s2.rd (Nat.le_trans (show yjo.length ≤ 1024 from HK8.out.s2.ln) (by decide)))
                  have HW9 := hide hw9
                  clear hw9 r3 u3 u4 x3' f4 ho8 hch8 hor8 hb8q hgl8 hg8 ho5 hb5 hb5q hg5 hgg5 hgl5 hS0
                  go_wp2_with fail
                  refine HWB.out.mono ?_
                  rintro e w7 ⟨A7, c7, rfl, ho7, hb7⟩
                  have HK7 := hide ((HK8.out.below hb7).set 4 (.slice A7 (wout yjo c0).length c7) ⟨⟨yid, yvol, yep, yme ++ [c0], wout yjo c0⟩, some ⟨g8, 0, none⟩, cap8, A7, c7⟩ rfl (HK8.out.s1.below hb7) (ho7.sl (Nat.le_trans (wout_len yjo c0) HK8.out.s2.ln) HK8.out.lts))
                  have y4' := (HK8.out.below hb7).dk.cell 4
                  have yf4' := (HK8.out.below hb7).dk.frozen 4
                  clear ho7 hb7 HWB y4 yc3 yf4
                  go_wp2
                  go_meet
                  exact ⟨_, _, _, _, _, _, HK7.out, HQ1.out⟩
          case rest =>
            obtain ⟨me, jo, A', B', c', d', hK5, hQ5⟩ := hcut
            have HK5 := hide hK5
            have HQ5 := hide hQ5
            have v2 := hK5.dk.cell 2
            have vf := hK5.dk.frozen 2
            have v2' := hK5.dk.cell 2
            simp only [CkM.cells, List.getElem?_cons_succ, List.getElem?_cons_zero] at v2
            have hwr : IntKind.i64.wrap (yep + 1) = yep + 1 := IntWalk.i64_in _ (by have e1 : 1 ≤ yep := HEK.out.1; have e2 : yep ≤ 1001 := HEK.out.2.1; omega)
            have hK6 := hK5.set 2 (.int .i64 (yep + 1)) ⟨⟨yid, yvol, yep + 1, me, jo⟩, A', c', B', d'⟩ rfl hK5.s1 hK5.s2
            obtain ⟨w6, hw6⟩ : ∃ w6, wc.setCell ⟨bk, 2, none⟩ (.int .i64 (yep + 1)) = w6 := ⟨_, rfl⟩
            rw [hw6] at hK6
            have HK6 := hide hK6
            have HW6 := hide hw6
            clear hK5 hQ5 t2 q2 hK6 hw6
            go_upto_region 27 with fail
            rw [HW6.out]
            clear v2 vf v2' hwr
            have hatC : at_ < C.length := HY.out.2.2.2.1
            obtain ⟨g, eg, hgn, hgW, hog⟩ := HK6.out.ch.dd.oc.2 (show 0 < C.length by omega)
            simp only [Option.some.injEq, Addr.mk.injEq] at eg
            obtain ⟨rfl, rfl, _⟩ := eg
            have hput := HK6.out.put (k := at_) (g := b) hatC rfl
            obtain ⟨w7, hw7⟩ : ∃ w7, setAtW w6 b (at_ * 5) (CkM.cells ⟨⟨yid, yvol, yep + 1, me, jo⟩, A', c', B', d'⟩) = w7 := ⟨_, rfl⟩
            rw [hw7] at hput
            have hch7 : (((((w6.setCell ⟨b, at_ * 5, none⟩ (.int .i64 yid)).setCell ⟨b, at_ * 5 + 1, none⟩ (.int .i64 yvol)).setCell ⟨b, at_ * 5 + 2, none⟩ (.int .i64 (yep + 1))).setCell ⟨b, at_ * 5 + 3, none⟩ (.slice A' me.length c')).setCell ⟨b, at_ * 5 + 4, none⟩ (.slice B' jo.length d')) = w7 := hw7
            have HPUT := hide hput
            have hQ6 : S.chunkQ ⟨k0, a0, b0, c0, ⟨qr, qw, ql, qb⟩⟩ = ({ S with cs := S.cs.set at_ ⟨yid, yvol, yep + 1, me, jo⟩ }, 0) := by
              have hat : at_ < S.cs.length := HY.out.2.2.2.2.1
              have hyk := HY.out.2.1
              rw [List.getElem?_eq_getElem hat] at hyk
              have hyk := Option.some.inj hyk
              rw [HQ5.out, Vst.turn_set (i := at_) HO.out.csr hat (y := ⟨yid, yvol, yep, me, jo⟩) (by rw [hyk])]
            have HQ6 := hide hQ6
            have hcell := HK6.out.ch.dd.dm.atC (k := at_) hatC
            obtain ⟨b', o', e', hbb', hcell'⟩ := hcell
            simp only [Option.some.injEq, Addr.mk.injEq] at e'
            obtain ⟨rfl, rfl, _⟩ := e'
            have hw := hcell' w6 (Below.refl _ _)
            simp only [Nat.zero_add] at hw
            have hyC : C[at_]'hatC = ⟨⟨yid, yvol, yep, yme, yjo⟩, yA, yc, yB, yd⟩ := by have := HY.out.1; rw [List.getElem?_eq_getElem hatC] at this; exact Option.some.inj this
            rw [hyC] at hw
            have p0 : w6.cell? ⟨b, at_ * 5, none⟩ = some (.int .i64 yid) := hw 0 (by omega)
            have p1 : w6.cell? ⟨b, at_ * 5 + 1, none⟩ = some (.int .i64 yvol) := hw 1 (by omega)
            have p2 : w6.cell? ⟨b, at_ * 5 + 2, none⟩ = some (.int .i64 yep) := hw 2 (by omega)
            have p3 : w6.cell? ⟨b, at_ * 5 + 3, none⟩ = some (.slice yA yme.length yc) := hw 3 (by omega)
            have p4 : w6.cell? ⟨b, at_ * 5 + 4, none⟩ = some (.slice yB yjo.length yd) := hw 4 (by omega)
            have pf : ∀ i, w6.frozen? ⟨b, i, none⟩ = false := by
              intro i
              rcases hog.2 with ⟨x, _⟩ | ⟨g', cap, cur, e, _, hgg, _⟩
              · cases x
              · cases e
                simp [World.frozen?, hgg]
            have z2 := HK6.out.ch.ds.cell 2
            have t0 := HK6.out.dk.cell 0
            have t1 := HK6.out.dk.cell 1
            have t2 := HK6.out.dk.cell 2
            have t3 := HK6.out.dk.cell 3
            have t4 := HK6.out.dk.cell 4
            simp only [CkM.cells, DV.cells, List.getElem?_cons_succ, List.getElem?_cons_zero] at z2 t0 t1 t2 t3 t4
            have kC : (at_ : Int) < C.length := by omega
            have HC7 := hide hch7
            clear hog hput hw7 hQ6 hcell' hw hbb' hyC hch7
            go_upto_region 28 with fail
            rw [HC7.out]
            clear p0 p1 p2 p3 p4 pf z2 t0 t1 t2 t3 t4
            have a0 := HPUT.out.ds.cell 0
            have a1 := HPUT.out.ds.cell 1
            have a2 := HPUT.out.ds.cell 2
            have a3 := HPUT.out.ds.cell 3
            have r0 := HPUT.out.dr.cell 0
            have r1 := HPUT.out.dr.cell 1
            have r2 := HPUT.out.dr.cell 2
            have r3 := HPUT.out.dr.cell 3
            have rf := HPUT.out.dr.frozen
            simp only [DV.cells, List.length_set, List.getElem?_cons_succ, List.getElem?_cons_zero] at a0 a1 a2 a3 r0 r1 r2 r3
            have HRT := hide (HPUT.out.ret (a0 := av) (fun z hz => by first | exact hz | exact List.mem_cons_of_mem _ hz) (A1 := .slice Ap 16 cp) (A2 := .slice Av V.length cv) (A3 := .slice (some ⟨b, 0, none⟩) C.length cc) (z := .int .i64 S.nx))
            go_wp2
            refine bodyPost_ret (v := .tuple #[.agg #[.slice Ap 16 cp, .slice Av V.length cv, .slice (some ⟨b, 0, none⟩) C.length cc, .int .i64 S.nx], .int .i64 0]) (by simp [results, Tryz.results52, go_sem, r0, r1, r2, r3]) rfl ?_
            rw [HQ6.out]
            refine ⟨⟨Ap, cp, V, Av, cv, C.set at_ ⟨⟨yid, yvol, yep + 1, me, jo⟩, A', c', B', d'⟩, some ⟨b, 0, none⟩, cc⟩, ?_, HRT.out.1, HRT.out.2⟩
            simp only [List.length_set]
        · have t1 : (yep != b0) = true := bne_iff_ne.2 hep
          have t1' : (yep == b0) = false := beq_eq_false_iff_ne.2 hep
          have HQ0 := hide (Vst.chunkQ_epoch (S := S) (q := ⟨k0, a0, b0, c0, ⟨qr, qw, ql, qb⟩⟩) HY.out.2.2.1 hep (fun h7 => by
            have := of_decide_eq_false HBAD.out
            cases hf : fd Prod.fst S.sv c0 with
            | none => exact absurd ⟨h7, hf⟩ this
            | some z => rfl))
          clear hep
          have HKC := hide HK2.out.ch
          have a0 := HKC.out.ds.cell 0
          have a1 := HKC.out.ds.cell 1
          have a2 := HKC.out.ds.cell 2
          have a3 := HKC.out.ds.cell 3
          have r0 := HKC.out.dr.cell 0
          have r1 := HKC.out.dr.cell 1
          have r2 := HKC.out.dr.cell 2
          have r3 := HKC.out.dr.cell 3
          have rf := HKC.out.dr.frozen
          simp only [DV.cells, List.getElem?_cons_succ, List.getElem?_cons_zero] at a0 a1 a2 a3 r0 r1 r2 r3
          have HRT := hide (HKC.out.ret (a0 := av) (fun z hz => by first | exact hz | exact List.mem_cons_of_mem _ hz) (A1 := .slice Ap 16 cp) (A2 := .slice Av V.length cv) (A3 := .slice (some ⟨b, o, none⟩) C.length cc) (z := .int .i64 S.nx))
          go_wp2
          refine bodyPost_ret (v := .tuple #[.agg #[.slice Ap 16 cp, .slice Av V.length cv, .slice (some ⟨b, o, none⟩) C.length cc, .int .i64 S.nx], .int .i64 10]) (by simp [results, Tryz.results52, go_sem, r0, r1, r2, r3]) rfl ?_
          rw [HQ0.out]
          exact ⟨⟨Ap, cp, V, Av, cv, C, some ⟨b, o, none⟩, cc⟩, rfl, HRT.out.1, HRT.out.2⟩
end Go.Proofs.YtcgecalbgkkinaaGreat
