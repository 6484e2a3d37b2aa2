/- One text of: Vm. -/
import Derived.Test.YtanfdnpnkdiiiaaGreatQVol
import Derived.Test.YtanfdnpnkdiiiaaGreatQBase
namespace Go.Proofs.YtanfdnpnkdiiiaaGreat
open Go.RowKit Go.Proofs Go.Maps
set_option linter.unusedVariables false

/-- a slice of numbers that nobody writes, beside the blocks 'no' -/
structure Sl (w : World) (no : List Nat) (A : Option Addr) (c : Nat) (l : List Int) : Prop where
  le : l.length ≤ c
  ln : l.length ≤ 1024
  rd : Reads w w.heap.size 1 A l.length (l.map (Value.int .i64))
  ap : ∀ a, A = some a → a.spot = none ∧ a.block ∉ no ∧ a.block < w.heap.size
section
variable {w w' : World} {no no' : List Nat} {A : Option Addr} {c : Nat} {l : List Int}
theorem Sl.chg (h : Sl w no A c l) (hc : Chg no' w w') (hs : ∀ x ∈ no', x ∈ no ∨ w.heap.size ≤ x) : Sl w' no A c l :=
  ⟨h.le, h.ln, ⟨h.rd.1, fun hn => by
    obtain ⟨b, o, e, hb, hcell⟩ := h.rd.2 hn
    refine ⟨b, o, e, Nat.lt_of_lt_of_le hb hc.size, fun j u hu => ?_⟩
    have hnb : b ∉ no' := fun hx => by
      rcases hs b hx with h1 | h1
      · exact (h.ap _ e).2.1 h1
      · omega
    exact (hc.cell (p := ⟨b, o + j, Option.none⟩) hb hnb).trans (hcell j u hu)⟩, fun a ha => ⟨(h.ap a ha).1, (h.ap a ha).2.1, Nat.lt_of_lt_of_le (h.ap a ha).2.2 hc.size⟩⟩
theorem Sl.below (h : Sl w no A c l) (hb : Below w.heap.size w w') : Sl w' no A c l := h.chg (no' := []) (Chg.of_below hb) (fun x hx => by cases hx)
theorem Sl.sub (h : Sl w no A c l) (hs : ∀ x ∈ no', x ∈ no) : Sl w no' A c l := ⟨h.le, h.ln, h.rd, fun a ha => ⟨(h.ap a ha).1, fun hx => (h.ap a ha).2.1 (hs _ hx), (h.ap a ha).2.2⟩⟩
theorem Sl.plus (h : Sl w no A c l) (hs : ∀ x ∈ no', x ∈ no ∨ w.heap.size ≤ x) : Sl w no' A c l := ⟨h.le, h.ln, h.rd, fun a ha => ⟨(h.ap a ha).1, fun hx => by
  rcases hs _ hx with h1 | h1
  · exact (h.ap a ha).2.1 h1
  · have := (h.ap a ha).2.2; omega, (h.ap a ha).2.2⟩⟩
theorem Sl.nil (w : World) (no : List Nat) (c : Nat) : Sl w no none c [] := ⟨Nat.zero_le _, by simp, Reads.none_, fun a ha => by cases ha⟩
/-- a slice that the call itself has made -/
theorem Sl.own {n : Nat} {W : World} (h : w.ownsRow 0 3 1 (.slice A n c) n (l.map (Value.int .i64))) (hn : l.length = n) (hln : n ≤ 1024) (hf : ∀ g, A.map Addr.block = some g → W.heap.size ≤ g) (hlt : ∀ x ∈ no, x < W.heap.size) : Sl w no A c l := by
  subst hn
  obtain ⟨A2, c2, e, h1, h2, h3, h4, h5⟩ := own_view h
  cases e
  refine ⟨h1, hln, h5 _ (fun g hg => own_lt h hg), fun a ha => ?_⟩
  subst ha
  rcases h.2 with ⟨h6, _⟩ | ⟨g, cap, cur, e2, _⟩
  · cases h6
  · cases e2
    exact ⟨rfl, fun hx => by have h1 : g < W.heap.size := hlt g hx; have := hf g rfl; omega, own_lt h rfl⟩
end
structure VoM where
  v : Vo
  A : Option Addr
  c : Nat
structure CkM where
  k : Ck
  A : Option Addr
  c : Nat
  B : Option Addr
  d : Nat
def VoM.cells (x : VoM) : List Value := [.int .i64 x.v.id, .int .i64 x.v.bl, .int .i64 x.v.p.r, .int .i64 x.v.p.w, .int .i64 x.v.p.l, .int .i64 x.v.p.b, .int .i64 x.v.ver, .slice x.A x.v.ch.length x.c]
def VoM.val (x : VoM) : Value := .agg x.cells.toArray
def CkM.cells (x : CkM) : List Value := [.int .i64 x.k.id, .int .i64 x.k.vol, .int .i64 x.k.ep, .slice x.A x.k.me.length x.c, .slice x.B x.k.jo.length x.d]
def CkM.val (x : CkM) : Value := .agg x.cells.toArray
def VoM.key (x : VoM) : Int := x.v.id
def CkM.key (x : CkM) : Int := x.k.id
def svVal (x : Int × Int) : Value := .int .i64 x.2
/-- the zero values of the maps' elements -/
def zVo : VoM := ⟨⟨0, 0, ⟨0, 0, 0, 0⟩, 0, []⟩, none, 0⟩
def zCk : CkM := ⟨⟨0, 0, 0, [], []⟩, none, 0, none, 0⟩

structure VM (w : World) (no : List Nat) (b m1 m2 m3 : Nat) (S : Vst) (V : List VoM) (C : List CkM) : Prop where
  blk : Blk w b 98 [.map (some m1), .map (some m2), .map (some m3), .int .i64 S.nx]
  t1 : Tab Prod.fst svVal w m1 S.sv
  t2 : Tab VoM.key VoM.val w m2 V
  t3 : Tab CkM.key CkM.val w m3 C
  eV : V.map VoM.v = S.vs
  eC : C.map CkM.k = S.cs
  sV : ∀ x ∈ V, Sl w no x.A x.c x.v.ch
  sC : ∀ x ∈ C, Sl w no x.A x.c x.k.me ∧ Sl w no x.B x.d x.k.jo
  ib : b ∈ no
  i1 : m1 ∈ no
  i2 : m2 ∈ no
  i3 : m3 ∈ no
  lt : ∀ x ∈ no, x < w.heap.size
  ne : m1 ≠ m2 ∧ m1 ≠ m3 ∧ m2 ≠ m3
theorem fd_map {α β : Type} (f : α → β) (key : β → Int) (L : List α) (k : Int) : fd key (L.map f) k = (fd (fun x => key (f x)) L k).map f := by
  induction L with
  | nil => rfl
  | cons y t ih =>
    rw [List.map_cons, fd_cons, fd_cons, ih]
    split <;> rfl
theorem ins_map {α β : Type} (f : α → β) (key : β → Int) (x : α) (L : List α) : (ins (fun x => key (f x)) x L).map f = ins key (f x) (L.map f) := by
  induction L with
  | nil => rfl
  | cons y t ih =>
    unfold ins
    rw [List.map_cons]
    simp only []
    split
    · rw [List.map_cons, ih]
    · split <;> simp
theorem out_map {α β : Type} (f : α → β) (key : β → Int) (k : Int) (L : List α) : (out (fun x => key (f x)) L k).map f = out key (L.map f) k := by
  unfold out
  rw [List.filter_map]
  rfl
section
variable {w w' : World} {no no' : List Nat} {b m1 m2 m3 : Nat} {S : Vst} {V : List VoM} {C : List CkM}
theorem GM.blk_ne {t : TypeId} {cs : List Value} {m n : Nat} {f : Int → Option Value} (h : GM w m n f) (hb : Blk w b t cs) : m ≠ b := by
  obtain ⟨D, ⟨es, clock, hm, _⟩, _⟩ := h
  intro e
  subst e
  unfold Blk at hb
  rw [hm] at hb
  cases hb
theorem VM.nb (h : VM w no b m1 m2 m3 S V C) : m1 ≠ b ∧ m2 ≠ b ∧ m3 ≠ b := ⟨h.t1.gm.blk_ne h.blk, h.t2.gm.blk_ne h.blk, h.t3.gm.blk_ne h.blk⟩
theorem VM.below (h : VM w no b m1 m2 m3 S V C) (hb : Below w.heap.size w w') : VM w' no b m1 m2 m3 S V C :=
  ⟨h.blk.below hb, h.t1.below hb, h.t2.below hb, h.t3.below hb, h.eV, h.eC, fun x hx => (h.sV x hx).below hb, fun x hx => ⟨(h.sC x hx).1.below hb, (h.sC x hx).2.below hb⟩, h.ib, h.i1, h.i2, h.i3,
    fun x hx => Nat.lt_of_lt_of_le (h.lt x hx) hb.size, h.ne⟩
theorem VM.fdV (h : VM w no b m1 m2 m3 S V C) (k : Int) : fd Vo.id S.vs k = (fd VoM.key V k).map VoM.v := by rw [← h.eV]; exact fd_map VoM.v Vo.id V k
theorem VM.fdC (h : VM w no b m1 m2 m3 S V C) (k : Int) : fd Ck.id S.cs k = (fd CkM.key C k).map CkM.k := by rw [← h.eC]; exact fd_map CkM.k Ck.id C k
theorem VM.cell (h : VM w no b m1 m2 m3 S V C) (i : Nat) : w.cell? ⟨b, i, none⟩ = ([.map (some m1), .map (some m2), .map (some m3), .int .i64 S.nx] : List Value)[i]? := h.blk.cell i
/-- a server is put -/
theorem VM.put1 (h : VM w no b m1 m2 m3 S V C) {L : List (Int × Int)} (ht : Tab Prod.fst svVal w' m1 L) (hc : Chg [m1] w w') : VM w' no b m1 m2 m3 { S with sv := L } V C :=
  have hn := h.nb
  have hne := h.ne
  ⟨h.blk.chg hc (by simpa using hn.1.symm), ht, h.t2.chg hc (by simpa using hne.1.symm), h.t3.chg hc (by simpa using hne.2.1.symm), h.eV, h.eC,
    fun x hx => (h.sV x hx).chg hc (by simpa using Or.inl h.i1), fun x hx => ⟨(h.sC x hx).1.chg hc (by simpa using Or.inl h.i1), (h.sC x hx).2.chg hc (by simpa using Or.inl h.i1)⟩,
    h.ib, h.i1, h.i2, h.i3, fun x hx => Nat.lt_of_lt_of_le (h.lt x hx) hc.size, h.ne⟩
/-- the volumes turn -/
theorem VM.put2 (h : VM w no b m1 m2 m3 S V C) {V' : List VoM} (ht : Tab VoM.key VoM.val w' m2 V') (hc : Chg [m2] w w') (hs : ∀ x ∈ V', x ∈ V ∨ Sl w no x.A x.c x.v.ch) {L : List Vo} (hL : V'.map VoM.v = L) : VM w' no b m1 m2 m3 { S with vs := L } V' C :=
  have hn := h.nb
  have hne := h.ne
  ⟨h.blk.chg hc (by simpa using hn.2.1.symm), h.t1.chg hc (by simpa using hne.1), ht, h.t3.chg hc (by simpa using hne.2.2.symm), hL, h.eC,
    fun x hx => ((hs x hx).elim (h.sV x) id).chg hc (by simpa using Or.inl h.i2), fun x hx => ⟨(h.sC x hx).1.chg hc (by simpa using Or.inl h.i2), (h.sC x hx).2.chg hc (by simpa using Or.inl h.i2)⟩,
    h.ib, h.i1, h.i2, h.i3, fun x hx => Nat.lt_of_lt_of_le (h.lt x hx) hc.size, h.ne⟩
/-- the chunks turn -/
theorem VM.put3 (h : VM w no b m1 m2 m3 S V C) {C' : List CkM} (ht : Tab CkM.key CkM.val w' m3 C') (hc : Chg [m3] w w') (hs : ∀ x ∈ C', x ∈ C ∨ (Sl w no x.A x.c x.k.me ∧ Sl w no x.B x.d x.k.jo)) {L : List Ck} (hL : C'.map CkM.k = L) : VM w' no b m1 m2 m3 { S with cs := L } V C' :=
  have hn := h.nb
  have hne := h.ne
  ⟨h.blk.chg hc (by simpa using hn.2.2.symm), h.t1.chg hc (by simpa using hne.2.1), h.t2.chg hc (by simpa using hne.2.2), ht, h.eV, hL,
    fun x hx => (h.sV x hx).chg hc (by simpa using Or.inl h.i3), fun x hx => ⟨((hs x hx).elim (fun h1 => (h.sC x h1).1) And.left).chg hc (by simpa using Or.inl h.i3), ((hs x hx).elim (fun h1 => (h.sC x h1).2) And.right).chg hc (by simpa using Or.inl h.i3)⟩,
    h.ib, h.i1, h.i2, h.i3, fun x hx => Nat.lt_of_lt_of_le (h.lt x hx) hc.size, h.ne⟩
/-- the next number -/
theorem VM.next (h : VM w no b m1 m2 m3 S V C) (z : Int) : VM (w.setCell ⟨b, 3, none⟩ (.int .i64 z)) no b m1 m2 m3 { S with nx := z } V C :=
  have hn := h.nb
  have hc : Chg [b] w (w.setCell ⟨b, 3, none⟩ (.int .i64 z)) := (Chg.refl [b] w).setCell (Or.inl (by simp)) _
  ⟨h.blk.set 3 (.int .i64 z), h.t1.chg hc (by simpa using hn.1), h.t2.chg hc (by simpa using hn.2.1), h.t3.chg hc (by simpa using hn.2.2), h.eV, h.eC,
    fun x hx => (h.sV x hx).chg hc (by simpa using Or.inl h.ib), fun x hx => ⟨(h.sC x hx).1.chg hc (by simpa using Or.inl h.ib), (h.sC x hx).2.chg hc (by simpa using Or.inl h.ib)⟩,
    h.ib, h.i1, h.i2, h.i3, fun x hx => Nat.lt_of_lt_of_le (h.lt x hx) hc.size, h.ne⟩
theorem VM.more (h : VM w no b m1 m2 m3 S V C) (hl : ∀ x ∈ no', x ∈ no) (ib : b ∈ no') (i1 : m1 ∈ no') (i2 : m2 ∈ no') (i3 : m3 ∈ no') : VM w no' b m1 m2 m3 S V C :=
  ⟨h.blk, h.t1, h.t2, h.t3, h.eV, h.eC, fun x hx => (h.sV x hx).sub hl, fun x hx => ⟨(h.sC x hx).1.sub hl, (h.sC x hx).2.sub hl⟩, ib, i1, i2, i3, fun x hx => h.lt x (hl x hx), h.ne⟩
end
/-- a state that n commands have made: to whoever only calls -/
def VS (w : World) (b : Nat) (S : Vst) (n : Nat) : Prop := VOk S n ∧ ∃ no m1 m2 m3 V C, VM w no b m1 m2 m3 S V C
theorem VS.below {w w' : World} {b n : Nat} {S : Vst} (h : VS w b S n) (hb : Below w.heap.size w w') : VS w' b S n := by
  obtain ⟨h0, no, m1, m2, m3, V, C, h⟩ := h
  exact ⟨h0, no, m1, m2, m3, V, C, h.below hb⟩
theorem VS.lt {w : World} {b n : Nat} {S : Vst} (h : VS w b S n) : b < w.heap.size := by
  obtain ⟨h0, no, m1, m2, m3, V, C, h⟩ := h
  exact h.blk.lt
theorem VOk.start : VOk ⟨[], [], [], 1⟩ 0 := ⟨List.Pairwise.nil, by simp, List.Pairwise.nil, List.Pairwise.nil, by simp, by simp, by simp, by simp⟩
end Go.Proofs.YtanfdnpnkdiiiaaGreat
