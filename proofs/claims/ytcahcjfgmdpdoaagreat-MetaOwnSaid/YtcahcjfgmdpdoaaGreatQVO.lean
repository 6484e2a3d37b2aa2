/- One text of: Vol Vm Vok Vok2 Vin. -/
import Derived.Test.YtcahcjfgmdpdoaaGreatQBask
import Derived.Test.YtcahcjfgmdpdoaaGreatQP0
import Derived.Test.YtcahcjfgmdpdoaaGreatQPL
import Derived.Test.YtcahcjfgmdpdoaaGreatQBase
namespace Go.Proofs.YtcahcjfgmdpdoaaGreat
open Go.RowKit Go.Proofs Go.Maps
set_option linter.unusedVariables false

structure Vo where
 id : Int
 bl : Int
 p : Pol
 ver : Int
 ch : List Int
structure Ck where
 id : Int
 vol : Int
 ep : Int
 me : List Int
 jo : List Int
structure Vst where
 sv : List (Int × Int)
 vs : List Vo
 cs : List Ck
 nx : Int
structure Cmd where
 k : Int
 a : Int
 b : Int
 c : Int
 p : Pol
def Cmd.cells (c : Cmd) : List Value := [.int .i64 c.k, .int .i64 c.a, .int .i64 c.b, .int .i64 c.c, .int .i64 c.p.r, .int .i64 c.p.w, .int .i64 c.p.l, .int .i64 c.p.b]
def Cmd.val (c : Cmd) : Value := .agg c.cells.toArray
def Ck.has (c : Ck) (s : Int) : Bool := c.me.contains s || c.jo.contains s
def hasAt (cs : List Ck) (k s : Int) : Bool := match fd Ck.id cs k with | some c => c.has s | none => false
def Vst.polOf (S : Vst) (s : Int) : List Pol := (S.vs.filter fun v => v.ch.any fun k => hasAt S.cs k s).map Vo.p
def Vst.admits (S : Vst) : Bool := S.sv.all fun x => Go.Proofs.YtcahcjfgmdpdoaaGreat.admits x.2 (S.polOf x.1)
def Vst.cnt (S : Vst) (s : Int) : Nat := (S.cs.filter fun c => c.has s).length
def Vst.loads (S : Vst) : List Ld := S.sv.map fun x => ⟨x.1, S.cnt x.1⟩
def lack (bl : Int) (ch : List Int) : Nat := ((bl + 7) / 8).toNat - ch.length
def growN : Nat → Vst → Int → List Int → Int → Vst × List Int
 |0, S, _, ch, _ => (S, ch)
 |n + 1, S, id, ch, copies => growN n { S with cs := ins Ck.id ⟨S.nx, id, 1, chosen S.loads (min copies S.sv.length), []⟩ S.cs, nx := S.nx + 1 } id (ch ++ [S.nx]) copies
def Vst.grow (S : Vst) (v : Vo) (copies : Int) : Vst :=
 let r := growN (lack v.bl v.ch) S v.id v.ch copies
 { r.1 with vs := ins Vo.id { v with ch := r.2 } r.1.vs }
def outs (cs : List Ck) : List Int → List Ck
 |[] => cs
 |k :: ks => outs (out Ck.id cs k) ks
def Vst.turn (S : Vst) (k : Ck) : Vst := { S with cs := ins Ck.id { k with ep := k.ep + 1 } S.cs }
def wout (l : List Int) (s : Int) : List Int := l.filter fun k => k != s
def Vst.at_ (S : Vst) (a b : Int) : Except Int Ck := match fd Ck.id S.cs a with | none => .error 7 | some k => if k.ep = b then .ok k else .error 10
def Vst.server (S : Vst) (c : Cmd) : Vst × Int :=
 if 0 ≤ c.a ∧ c.a ≤ 15 ∧ 1 ≤ c.b ∧ c.b ≤ 64 then ({ S with sv := ins Prod.fst (c.a, c.b) S.sv }, 0) else (S, 1)
def Vst.create (S : Vst) (c : Cmd) : Vst × Int :=
 if 0 ≤ c.a ∧ c.a ≤ 63 ∧ 1 ≤ c.b ∧ c.b ≤ 512 ∧ 1 ≤ c.c ∧ c.c ≤ 3 ∧ c.p.ok then
  if (fd Vo.id S.vs c.a).isSome then (S, 8) else if S.sv.length < c.c then (S, 7) else (S.grow ⟨c.a, c.b, c.p, 1, []⟩ c.c, 0)
 else (S, 1)
def Vst.remove (S : Vst) (c : Cmd) : Vst × Int :=
 match fd Vo.id S.vs c.a with
 |none => (S, 7)
 |some v => ({ S with cs := outs S.cs v.ch, vs := out Vo.id S.vs c.a }, 0)
def copiesOf (cs : List Ck) (ch : List Int) : Int := match ch with | [] => 0 | k :: _ => match fd Ck.id cs k with | some c => c.me.length | none => 0
def Vst.resize (S : Vst) (c : Cmd) : Vst × Int :=
 if 1 ≤ c.b ∧ c.b ≤ 512 then
  match fd Vo.id S.vs c.a with
  |none => (S, 7)
  |some v =>
   let keep := ((c.b + 7) / 8).toNat
   ({ S with cs := outs S.cs (v.ch.drop keep) }.grow { v with bl := c.b, ch := v.ch.take keep } (copiesOf S.cs v.ch), 0)
 else (S, 1)
def Vst.policy (S : Vst) (c : Cmd) : Vst × Int :=
 if c.p.ok then
  match fd Vo.id S.vs c.a with
  |none => (S, 7)
  |some v => ({ S with vs := ins Vo.id { v with p := c.p, ver := v.ver + 1 } S.vs }, 0)
 else (S, 1)
def Vst.drop (S : Vst) (c : Cmd) : Vst × Int :=
 match S.at_ c.a c.b with
 |.error e => (S, e)
 |.ok k => if !k.has c.c then (S, 1) else if k.me = [c.c] then (S, 9) else (S.turn { k with me := wout k.me c.c, jo := wout k.jo c.c }, 0)
def Vst.join (S : Vst) (c : Cmd) : Vst × Int :=
 if !(fd Prod.fst S.sv c.c).isSome then (S, 7)
 else match S.at_ c.a c.b with
  |.error e => (S, e)
  |.ok k => if k.has c.c then (S, 8) else if 4 ≤ k.me.length + k.jo.length then (S, 6) else (S.turn { k with jo := k.jo ++ [c.c] }, 0)
def Vst.promote (S : Vst) (c : Cmd) : Vst × Int :=
 match S.at_ c.a c.b with
 |.error e => (S, e)
 |.ok k => if !k.jo.contains c.c then (S, 1) else (S.turn { k with me := k.me ++ [c.c], jo := wout k.jo c.c }, 0)
def Vst.act (S : Vst) (c : Cmd) : Vst × Int :=
 if c.k = 1 then S.server c else if c.k = 2 then S.create c else if c.k = 3 then S.remove c else if c.k = 4 then S.resize c
 else if c.k = 5 then S.policy c else if c.k = 6 then S.drop c else if c.k = 7 then S.join c else if c.k = 8 then S.promote c else (S, 22)
def Vst.apply (S : Vst) (c : Cmd) : Vst × Int :=
 let r := S.act c
 if r.2 = 0 then if r.1.admits then r else (S, 14) else (S, r.2)

structure VOk (S : Vst) (n : Nat) : Prop where
 svr : Rise Prod.fst S.sv
 sva : ∀ x ∈ S.sv, 0 ≤ x.1 ∧ x.1 ≤ 15 ∧ 1 ≤ x.2 ∧ x.2 ≤ 64
 vsr : Rise Vo.id S.vs
 csr : Rise Ck.id S.cs
 vsa : ∀ v ∈ S.vs, 0 ≤ v.id ∧ v.id ≤ 63 ∧ 1 ≤ v.bl ∧ v.bl ≤ 512 ∧ v.ch.length = ((v.bl + 7) / 8).toNat ∧ 1 ≤ v.ver ∧ v.ver ≤ 1 + n ∧ ∀ k ∈ v.ch, i64ok k
 csa : ∀ c ∈ S.cs, 1 ≤ c.id ∧ c.id < S.nx ∧ 1 ≤ c.ep ∧ c.ep ≤ 1 + n ∧ c.me.length + c.jo.length ≤ 4
 nx1 : 1 ≤ S.nx
 nx2 : S.nx ≤ 1 + 64 * n

structure Sl (w : World) (no : List Nat) (A : Option Addr) (c : Nat) (l : List Int) : Prop where
 le : l.length ≤ c
 ln : l.length ≤ 1024
 rd : Reads w w.heap.size 1 A l.length (l.map (Value.int .i64))
 ap : ∀ a, A = some a → a.spot = none ∧ a.block ∉ no ∧ a.block < w.heap.size
section
variable {w w' : World} {no no' : List Nat} {A : Option Addr} {c : Nat} {l : List Int}
theorem Sl.chg (h : Sl w no A c l) (hc : Chg no' w w') (hs : ∀ x ∈ no', x ∈ no ∨ w.heap.size ≤ x) : Sl w' no A c l :=
 ⟨h.le, h.ln, ⟨h.rd.1, fun hn => by
  obtain ⟨b, o, e, hb, hcell⟩ := h.rd.2 hn
  refine ⟨b, o, e, Nat.lt_of_lt_of_le hb hc.size, fun j u hu => ?_⟩
  have hnb : b ∉ no' := fun hx => by
   rcases hs b hx with h1 | h1
   ·exact (h.ap _ e).2.1 h1
   ·omega
  exact (hc.cell (p := ⟨b, o + j, Option.none⟩) hb hnb).trans (hcell j u hu)⟩, fun a ha => ⟨(h.ap a ha).1, (h.ap a ha).2.1, Nat.lt_of_lt_of_le (h.ap a ha).2.2 hc.size⟩⟩
theorem Sl.below (h : Sl w no A c l) (hb : Below w.heap.size w w') : Sl w' no A c l := h.chg (no' := []) (Chg.of_below hb) (fun x hx => by cases hx)
theorem Sl.sub (h : Sl w no A c l) (hs : ∀ x ∈ no', x ∈ no) : Sl w no' A c l := ⟨h.le, h.ln, h.rd, fun a ha => ⟨(h.ap a ha).1, fun hx => (h.ap a ha).2.1 (hs _ hx), (h.ap a ha).2.2⟩⟩
theorem Sl.plus (h : Sl w no A c l) (hs : ∀ x ∈ no', x ∈ no ∨ w.heap.size ≤ x) : Sl w no' A c l := ⟨h.le, h.ln, h.rd, fun a ha => ⟨(h.ap a ha).1, fun hx => by
 rcases hs _ hx with h1 | h1
 ·exact (h.ap a ha).2.1 h1
 ·have := (h.ap a ha).2.2; omega, (h.ap a ha).2.2⟩⟩
theorem Sl.nil (w : World) (no : List Nat) (c : Nat) : Sl w no none c [] := ⟨Nat.zero_le _, by simp, Reads.none_, fun a ha => by cases ha⟩
theorem Sl.own {n : Nat} {W : World} (h : w.ownsRow 0 3 1 (.slice A n c) n (l.map (Value.int .i64))) (hn : l.length = n) (hln : n ≤ 1024) (hf : ∀ g, A.map Addr.block = some g → W.heap.size ≤ g) (hlt : ∀ x ∈ no, x < W.heap.size) : Sl w no A c l := by
 subst hn; obtain ⟨A2, c2, e, h1, h2, h3, h4, h5⟩ := own_view h
 cases e
 refine ⟨h1, hln, h5 _ (fun g hg => own_lt h hg), fun a ha => ?_⟩
 subst ha
 rcases h.2 with ⟨h6, _⟩ | ⟨g, cap, cur, e2, _⟩
 ·cases h6
 ·cases e2
  exact ⟨rfl, fun hx => by have h1 : g < W.heap.size := hlt g hx; have := hf g rfl; omega, own_lt h rfl⟩
end
structure VoM where
 v : Vo
 A : Option Addr
 c : Nat
structure CkM where
 k : Ck
 A : Option Addr
 c : Nat
 B : Option Addr
 d : Nat
def VoM.cells (x : VoM) : List Value := [.int .i64 x.v.id, .int .i64 x.v.bl, .int .i64 x.v.p.r, .int .i64 x.v.p.w, .int .i64 x.v.p.l, .int .i64 x.v.p.b, .int .i64 x.v.ver, .slice x.A x.v.ch.length x.c]
def VoM.val (x : VoM) : Value := .agg x.cells.toArray
def CkM.cells (x : CkM) : List Value := [.int .i64 x.k.id, .int .i64 x.k.vol, .int .i64 x.k.ep, .slice x.A x.k.me.length x.c, .slice x.B x.k.jo.length x.d]
def CkM.val (x : CkM) : Value := .agg x.cells.toArray
def VoM.key (x : VoM) : Int := x.v.id
def CkM.key (x : CkM) : Int := x.k.id
def svVal (x : Int × Int) : Value := .int .i64 x.2
def zVo : VoM := ⟨⟨0, 0, ⟨0, 0, 0, 0⟩, 0, []⟩, none, 0⟩
def zCk : CkM := ⟨⟨0, 0, 0, [], []⟩, none, 0, none, 0⟩

structure VM (w : World) (no : List Nat) (b m1 m2 m3 : Nat) (S : Vst) (V : List VoM) (C : List CkM) : Prop where
 blk : Blk w b 76 [.map (some m1), .map (some m2), .map (some m3), .int .i64 S.nx]
 t1 : Tab Prod.fst svVal w m1 S.sv
 t2 : Tab VoM.key VoM.val w m2 V
 t3 : Tab CkM.key CkM.val w m3 C
 eV : V.map VoM.v = S.vs
 eC : C.map CkM.k = S.cs
 sV : ∀ x ∈ V, Sl w no x.A x.c x.v.ch
 sC : ∀ x ∈ C, Sl w no x.A x.c x.k.me ∧ Sl w no x.B x.d x.k.jo
 ib : b ∈ no
 i1 : m1 ∈ no
 i2 : m2 ∈ no
 i3 : m3 ∈ no
 lt : ∀ x ∈ no, x < w.heap.size
 ne : m1 ≠ m2 ∧ m1 ≠ m3 ∧ m2 ≠ m3
theorem fd_map {α β : Type} (f : α → β) (key : β → Int) (L : List α) (k : Int) : fd key (L.map f) k = (fd (fun x => key (f x)) L k).map f := by
 induction L with
 |nil => rfl
 |cons y t ih =>
  rw [List.map_cons, fd_cons, fd_cons, ih]
  split <;> rfl
theorem ins_map {α β : Type} (f : α → β) (key : β → Int) (x : α) (L : List α) : (ins (fun x => key (f x)) x L).map f = ins key (f x) (L.map f) := by
 induction L with
 |nil => rfl
 |cons y t ih =>
  unfold ins; rw [List.map_cons]; simp only []
  split
  ·rw [List.map_cons, ih]
  ·split <;> simp
theorem out_map {α β : Type} (f : α → β) (key : β → Int) (k : Int) (L : List α) : (out (fun x => key (f x)) L k).map f = out key (L.map f) k := by
 unfold out; rw [List.filter_map]
 rfl
section
variable {w w' : World} {no no' : List Nat} {b m1 m2 m3 : Nat} {S : Vst} {V : List VoM} {C : List CkM}
theorem GM.blk_ne {t : TypeId} {cs : List Value} {m n : Nat} {f : Int → Option Value} (h : GM w m n f) (hb : Blk w b t cs) : m ≠ b := by
 obtain ⟨D, ⟨es, clock, hm, _⟩, _⟩ := h
 intro e
 subst e; unfold Blk at hb; rw [hm] at hb
 cases hb
theorem VM.nb (h : VM w no b m1 m2 m3 S V C) : m1 ≠ b ∧ m2 ≠ b ∧ m3 ≠ b := ⟨h.t1.gm.blk_ne h.blk, h.t2.gm.blk_ne h.blk, h.t3.gm.blk_ne h.blk⟩
theorem VM.below (h : VM w no b m1 m2 m3 S V C) (hb : Below w.heap.size w w') : VM w' no b m1 m2 m3 S V C :=
 ⟨h.blk.below hb, h.t1.below hb, h.t2.below hb, h.t3.below hb, h.eV, h.eC, fun x hx => (h.sV x hx).below hb, fun x hx => ⟨(h.sC x hx).1.below hb, (h.sC x hx).2.below hb⟩, h.ib, h.i1, h.i2, h.i3,
  fun x hx => Nat.lt_of_lt_of_le (h.lt x hx) hb.size, h.ne⟩
theorem VM.fdV (h : VM w no b m1 m2 m3 S V C) (k : Int) : fd Vo.id S.vs k = (fd VoM.key V k).map VoM.v := by rw [← h.eV]; exact fd_map VoM.v Vo.id V k
theorem VM.fdC (h : VM w no b m1 m2 m3 S V C) (k : Int) : fd Ck.id S.cs k = (fd CkM.key C k).map CkM.k := by rw [← h.eC]; exact fd_map CkM.k Ck.id C k
theorem VM.cell (h : VM w no b m1 m2 m3 S V C) (i : Nat) : w.cell? ⟨b, i, none⟩ = ([.map (some m1), .map (some m2), .map (some m3), .int .i64 S.nx] : List Value)[i]? := h.blk.cell i
theorem VM.put1 (h : VM w no b m1 m2 m3 S V C) {L : List (Int × Int)} (ht : Tab Prod.fst svVal w' m1 L) (hc : Chg [m1] w w') : VM w' no b m1 m2 m3 { S with sv := L } V C :=
 have hn := h.nb; have hne := h.ne
 ⟨h.blk.chg hc (by simpa using hn.1.symm), ht, h.t2.chg hc (by simpa using hne.1.symm), h.t3.chg hc (by simpa using hne.2.1.symm), h.eV, h.eC,
  fun x hx => (h.sV x hx).chg hc (by simpa using Or.inl h.i1), fun x hx => ⟨(h.sC x hx).1.chg hc (by simpa using Or.inl h.i1), (h.sC x hx).2.chg hc (by simpa using Or.inl h.i1)⟩,
  h.ib, h.i1, h.i2, h.i3, fun x hx => Nat.lt_of_lt_of_le (h.lt x hx) hc.size, h.ne⟩
theorem VM.put2 (h : VM w no b m1 m2 m3 S V C) {V' : List VoM} (ht : Tab VoM.key VoM.val w' m2 V') (hc : Chg [m2] w w') (hs : ∀ x ∈ V', x ∈ V ∨ Sl w no x.A x.c x.v.ch) {L : List Vo} (hL : V'.map VoM.v = L) : VM w' no b m1 m2 m3 { S with vs := L } V' C :=
 have hn := h.nb; have hne := h.ne
 ⟨h.blk.chg hc (by simpa using hn.2.1.symm), h.t1.chg hc (by simpa using hne.1), ht, h.t3.chg hc (by simpa using hne.2.2.symm), hL, h.eC,
  fun x hx => ((hs x hx).elim (h.sV x) id).chg hc (by simpa using Or.inl h.i2), fun x hx => ⟨(h.sC x hx).1.chg hc (by simpa using Or.inl h.i2), (h.sC x hx).2.chg hc (by simpa using Or.inl h.i2)⟩,
  h.ib, h.i1, h.i2, h.i3, fun x hx => Nat.lt_of_lt_of_le (h.lt x hx) hc.size, h.ne⟩
theorem VM.put3 (h : VM w no b m1 m2 m3 S V C) {C' : List CkM} (ht : Tab CkM.key CkM.val w' m3 C') (hc : Chg [m3] w w') (hs : ∀ x ∈ C', x ∈ C ∨ (Sl w no x.A x.c x.k.me ∧ Sl w no x.B x.d x.k.jo)) {L : List Ck} (hL : C'.map CkM.k = L) : VM w' no b m1 m2 m3 { S with cs := L } V C' :=
 have hn := h.nb; have hne := h.ne
 ⟨h.blk.chg hc (by simpa using hn.2.2.symm), h.t1.chg hc (by simpa using hne.2.1), h.t2.chg hc (by simpa using hne.2.2), ht, h.eV, hL,
  fun x hx => (h.sV x hx).chg hc (by simpa using Or.inl h.i3), fun x hx => ⟨((hs x hx).elim (fun h1 => (h.sC x h1).1) And.left).chg hc (by simpa using Or.inl h.i3), ((hs x hx).elim (fun h1 => (h.sC x h1).2) And.right).chg hc (by simpa using Or.inl h.i3)⟩,
  h.ib, h.i1, h.i2, h.i3, fun x hx => Nat.lt_of_lt_of_le (h.lt x hx) hc.size, h.ne⟩
theorem VM.next (h : VM w no b m1 m2 m3 S V C) (z : Int) : VM (w.setCell ⟨b, 3, none⟩ (.int .i64 z)) no b m1 m2 m3 { S with nx := z } V C :=
 have hn := h.nb; have hc : Chg [b] w (w.setCell ⟨b, 3, none⟩ (.int .i64 z)) := (Chg.refl [b] w).setCell (Or.inl (by simp)) _
 ⟨h.blk.set 3 (.int .i64 z), h.t1.chg hc (by simpa using hn.1), h.t2.chg hc (by simpa using hn.2.1), h.t3.chg hc (by simpa using hn.2.2), h.eV, h.eC,
  fun x hx => (h.sV x hx).chg hc (by simpa using Or.inl h.ib), fun x hx => ⟨(h.sC x hx).1.chg hc (by simpa using Or.inl h.ib), (h.sC x hx).2.chg hc (by simpa using Or.inl h.ib)⟩,
  h.ib, h.i1, h.i2, h.i3, fun x hx => Nat.lt_of_lt_of_le (h.lt x hx) hc.size, h.ne⟩
theorem VM.more (h : VM w no b m1 m2 m3 S V C) (hl : ∀ x ∈ no', x ∈ no) (ib : b ∈ no') (i1 : m1 ∈ no') (i2 : m2 ∈ no') (i3 : m3 ∈ no') : VM w no' b m1 m2 m3 S V C :=
 ⟨h.blk, h.t1, h.t2, h.t3, h.eV, h.eC, fun x hx => (h.sV x hx).sub hl, fun x hx => ⟨(h.sC x hx).1.sub hl, (h.sC x hx).2.sub hl⟩, ib, i1, i2, i3, fun x hx => h.lt x (hl x hx), h.ne⟩
end
def VS (w : World) (b : Nat) (S : Vst) (n : Nat) : Prop := VOk S n ∧ ∃ no m1 m2 m3 V C, VM w no b m1 m2 m3 S V C
theorem VS.below {w w' : World} {b n : Nat} {S : Vst} (h : VS w b S n) (hb : Below w.heap.size w w') : VS w' b S n := by
 obtain ⟨h0, no, m1, m2, m3, V, C, h⟩ := h
 exact ⟨h0, no, m1, m2, m3, V, C, h.below hb⟩
theorem VS.lt {w : World} {b n : Nat} {S : Vst} (h : VS w b S n) : b < w.heap.size := by
 obtain ⟨h0, no, m1, m2, m3, V, C, h⟩ := h
 exact h.blk.lt
theorem VOk.start : VOk ⟨[], [], [], 1⟩ 0 := ⟨List.Pairwise.nil, by simp, List.Pairwise.nil, List.Pairwise.nil, by simp, by simp, by simp, by simp⟩

section
variable {α : Type} {key : α → Int} {L : List α}
theorem rise_len {a b : Int} (h : Rise key L) (hb : ∀ x ∈ L, a ≤ key x ∧ key x < b) : L.length ≤ (b - a).toNat := by
 induction L generalizing a with
 |nil => simp
 |cons y t ih =>
  obtain ⟨h1, h2⟩ := List.pairwise_cons.1 h; have h3 := hb y (by simp); have := ih (a := key y + 1) h2 (fun x hx => ⟨by have := h1 x hx; omega, (hb x (List.mem_cons_of_mem _ hx)).2⟩); rw [List.length_cons]
  omega
end
structure COk (cs : List Ck) (nx e : Int) : Prop where
 rise : Rise Ck.id cs
 all : ∀ c ∈ cs, 1 ≤ c.id ∧ c.id < nx ∧ 1 ≤ c.ep ∧ c.ep ≤ e ∧ c.me.length + c.jo.length ≤ 4
theorem COk.more {cs : List Ck} {nx e nx' e' : Int} (h : COk cs nx e) (h1 : nx ≤ nx') (h2 : e ≤ e') : COk cs nx' e' :=
 ⟨h.rise, fun c hc => by have := h.all c hc; omega⟩
theorem COk.ins {cs : List Ck} {nx e : Int} (h : COk cs nx e) {c : Ck} (hc : 1 ≤ c.id ∧ c.id < nx ∧ 1 ≤ c.ep ∧ c.ep ≤ e ∧ c.me.length + c.jo.length ≤ 4) : COk (ins Ck.id c cs) nx e :=
 ⟨h.rise.ins c, fun x hx => by
  rcases (mem_ins h.rise).1 hx with rfl | ⟨h1, _⟩
  ·exact hc
  ·exact h.all x h1⟩
theorem mem_outs {cs : List Ck} {ks : List Int} {c : Ck} : c ∈ outs cs ks ↔ c ∈ cs ∧ c.id ∉ ks := by
 induction ks generalizing cs with
 |nil => simp [outs]
 |cons k t ih =>
  unfold outs; rw [ih, mem_out]; simp only [List.mem_cons, not_or]
  constructor
  ·rintro ⟨⟨h1, h2⟩, h3⟩; exact ⟨h1, h2, h3⟩
  ·rintro ⟨h1, h2, h3⟩; exact ⟨⟨h1, h2⟩, h3⟩
theorem outs_rise {cs : List Ck} {ks : List Int} (h : Rise Ck.id cs) : Rise Ck.id (outs cs ks) := by
 induction ks generalizing cs with
 |nil => exact h
 |cons k t ih => exact ih (h.out k)
theorem COk.outs {cs : List Ck} {nx e : Int} (h : COk cs nx e) (ks : List Int) : COk (outs cs ks) nx e :=
 ⟨outs_rise h.rise, fun c hc => h.all c (mem_outs.1 hc).1⟩
theorem chosen_le (l : List Ld) (m : Int) : (chosen l m).length ≤ m.toNat := by
 unfold chosen; rw [List.length_take]; omega
theorem growN_sv (n : Nat) (S : Vst) (id : Int) (ch : List Int) (cp : Int) : (growN n S id ch cp).1.sv = S.sv ∧ (growN n S id ch cp).1.vs = S.vs ∧ (growN n S id ch cp).1.nx = S.nx + n ∧
  (growN n S id ch cp).2 = ch ++ (List.range n).map fun (i : Nat) => S.nx + (i : Int) := by
 induction n generalizing S ch with
 |zero => simp [growN]
 |succ n ih =>
  obtain ⟨h1, h2, h3, h4⟩ := ih { S with cs := ins Ck.id ⟨S.nx, id, 1, chosen S.loads (min cp S.sv.length), []⟩ S.cs, nx := S.nx + 1 } (ch ++ [S.nx]); unfold growN
  refine ⟨h1, h2, by rw [h3]; simp only []; omega, ?_⟩
  rw [h4, List.range_succ_eq_map]; simp only [List.map_cons, List.map_map, List.append_assoc, List.cons_append, List.nil_append]
  congr 2
  ·simp
  ·apply List.map_congr_left
   intro i _
   simp only [Function.comp]
   omega
theorem growN_all {P : Ck → Prop} {S : Vst} {id cp : Int} (n : Nat) (ch : List Int) (hr : Rise Ck.id S.cs) (hlt : ∀ c ∈ S.cs, c.id < S.nx) (h0 : ∀ c ∈ S.cs, P c)
  (h1 : ∀ X : Vst, X.sv = S.sv → S.nx ≤ X.nx → X.nx < S.nx + n → P ⟨X.nx, id, 1, chosen X.loads (min cp S.sv.length), []⟩) :
  Rise Ck.id (growN n S id ch cp).1.cs ∧ (∀ c ∈ (growN n S id ch cp).1.cs, c.id < S.nx + n) ∧ (∀ c ∈ (growN n S id ch cp).1.cs, P c) ∧ (∀ c ∈ S.cs, c ∈ (growN n S id ch cp).1.cs) ∧
   (∀ c ∈ (growN n S id ch cp).1.cs, c ∈ S.cs ∨ (S.nx ≤ c.id ∧ c.id < S.nx + n ∧ c.vol = id)) ∧ ∀ k : Int, S.nx ≤ k → k < S.nx + n → ∃ c ∈ (growN n S id ch cp).1.cs, c.id = k ∧ c.vol = id := by
 induction n generalizing S ch with
 |zero =>
  refine ⟨hr, fun c hc => by have := hlt c hc; simpa using this, h0, fun c hc => hc, fun c hc => Or.inl hc, fun k h2 h3 => by omega⟩
 |succ n ih =>
  let K : Ck := ⟨S.nx, id, 1, chosen S.loads (min cp S.sv.length), []⟩
  have hK : P K := h1 S rfl (Int.le_refl _) (by omega)
  have hm : ∀ c, c ∈ ins Ck.id K S.cs ↔ c = K ∨ c ∈ S.cs := fun c => by
   rw [mem_ins hr]
   constructor
   ·rintro (h | ⟨h, _⟩)
    ·exact Or.inl h
    ·exact Or.inr h
   ·rintro (h | h)
    ·exact Or.inl h
    ·exact Or.inr ⟨h, by have := hlt c h; simp only [K]; omega⟩
  obtain ⟨r1, r2, r3, r4, r5, r6⟩ := ih (S := { S with cs := ins Ck.id K S.cs, nx := S.nx + 1 }) (ch ++ [S.nx]) (hr.ins K)
   (fun c hc => by
    rcases (hm c).1 hc with rfl | h
    ·simp only [K]; omega
    ·have := hlt c h; simp only []; omega)
   (fun c hc => by
    rcases (hm c).1 hc with rfl | h
    ·exact hK
    ·exact h0 c h)
   (fun X h2 h3 h4 => h1 X h2 (by simp only [] at h3; omega) (by simp only [] at h4; omega))
  simp only [] at r2 r3 r4 r5 r6; unfold growN
  refine ⟨r1, fun c hc => by have := r2 c hc; omega, r3, fun c hc => r4 c ((hm c).2 (Or.inr hc)), fun c hc => ?_, fun k h2 h3 => ?_⟩
  ·rcases r5 c hc with h | ⟨h2, h3, h4⟩
   ·rcases (hm c).1 h with rfl | h
    ·exact Or.inr ⟨Int.le_refl _, by simp only [K]; omega, rfl⟩
    ·exact Or.inl h
   ·exact Or.inr ⟨by omega, by omega, h4⟩
  ·by_cases e : k = S.nx
   ·exact ⟨K, r4 K ((hm K).2 (Or.inl rfl)), e.symm, rfl⟩
   ·exact r6 k (by omega) (by omega)

theorem lack_le2 (bl : Int) (ch : List Int) (h : bl ≤ 512) : lack bl ch ≤ 64 := by unfold lack; omega
theorem VOk.co {S : Vst} {n : Nat} (h : VOk S n) : COk S.cs S.nx (1 + n) := ⟨h.csr, h.csa⟩
theorem VOk.more {S : Vst} {n m : Nat} (h : VOk S n) (hm : n ≤ m) : VOk S m :=
 ⟨h.svr, h.sva, h.vsr, h.csr, fun v hv => by obtain ⟨a1, a2, a3, a4, a5, a6, a7, a8⟩ := h.vsa v hv; exact ⟨a1, a2, a3, a4, a5, a6, by omega, a8⟩,
  fun c hc => by have := h.csa c hc; omega, h.nx1, by have := h.nx2; omega⟩
theorem lack_ch (bl : Int) (ch : List Int) (h : ch.length ≤ ((bl + 7) / 8).toNat) : ch.length + lack bl ch = ((bl + 7) / 8).toNat := by unfold lack; omega
theorem VOk.grow {S : Vst} {n : Nat} {v : Vo} {cp : Int} (hn : n ≤ 1000) (svr : Rise Prod.fst S.sv) (sva : ∀ x ∈ S.sv, 0 ≤ x.1 ∧ x.1 ≤ 15 ∧ 1 ≤ x.2 ∧ x.2 ≤ 64) (vsr : Rise Vo.id S.vs)
  (vsa : ∀ v ∈ S.vs, 0 ≤ v.id ∧ v.id ≤ 63 ∧ 1 ≤ v.bl ∧ v.bl ≤ 512 ∧ v.ch.length = ((v.bl + 7) / 8).toNat ∧ 1 ≤ v.ver ∧ v.ver ≤ 1 + n ∧ ∀ k ∈ v.ch, i64ok k)
  (hc : COk S.cs S.nx (1 + n)) (n1 : 1 ≤ S.nx) (n2 : S.nx ≤ 1 + 64 * n) (h1 : 0 ≤ v.id ∧ v.id ≤ 63) (h2 : 1 ≤ v.bl ∧ v.bl ≤ 512) (h3 : v.ch.length ≤ ((v.bl + 7) / 8).toNat)
  (h4 : 1 ≤ v.ver ∧ v.ver ≤ 1 + n) (h5 : ∀ k ∈ v.ch, i64ok k) (hcp : cp ≤ 4) : VOk (S.grow v cp) (n + 1) := by
 have hl := lack_le2 v.bl v.ch h2.2; have hlc := lack_ch v.bl v.ch h3; obtain ⟨g1, g2, g3, g4⟩ := growN_sv (lack v.bl v.ch) S v.id v.ch cp
 obtain ⟨r1, r2, r3, _, _, _⟩ := growN_all (P := fun c => 1 ≤ c.id ∧ 1 ≤ c.ep ∧ c.ep ≤ 1 + (n : Int) ∧ c.me.length + c.jo.length ≤ 4) (id := v.id) (cp := cp) (lack v.bl v.ch) v.ch hc.rise (fun c h => (hc.all c h).2.1)
  (fun c h => by have := hc.all c h; exact ⟨by omega, by omega, by omega, by omega⟩)
  (fun X _ hX _ => ⟨by simp only []; omega, by simp, by simp only []; omega, by
   have := chosen_le X.loads (min cp S.sv.length); simp only [List.length_nil]
   omega⟩)
 unfold Vst.grow; simp only []; rw [g2]
 refine ⟨by simp only []; rw [g1]; exact svr, by simp only []; rw [g1]; exact sva, vsr.ins _, r1, fun x hx => ?_, fun c hcc => ?_, by simp only []; rw [g3]; omega, by simp only []; rw [g3]; omega⟩
 ·rcases (mem_ins vsr).1 hx with rfl | ⟨hx, _⟩
  ·refine ⟨h1.1, h1.2, h2.1, h2.2, ?_, h4.1, by simp only []; omega, fun k hk => ?_⟩
   ·simp only []
    rw [g4, List.length_append, List.length_map, List.length_range]
    exact hlc
   ·simp only [] at hk
    rw [g4] at hk
    rcases List.mem_append.1 hk with hk | hk
    ·exact h5 k hk
    ·obtain ⟨i, hi, rfl⟩ := List.mem_map.1 hk
     have := List.mem_range.1 hi; unfold i64ok
     omega
  ·obtain ⟨a1, a2, a3, a4, a5, a6, a7, a8⟩ := vsa x hx
   exact ⟨a1, a2, a3, a4, a5, a6, by omega, a8⟩
 ·have h8 := r2 c hcc
  have h9 := r3 c hcc
  refine ⟨h9.1, by simp only []; rw [g3]; exact h8, h9.2.1, by omega, h9.2.2.2⟩
theorem VOk.turn {S : Vst} {n : Nat} {k : Ck} (h : VOk S n) (h1 : 1 ≤ k.id ∧ k.id < S.nx) (h2 : 1 ≤ k.ep ∧ k.ep ≤ 1 + n) (h3 : k.me.length + k.jo.length ≤ 4) : VOk (S.turn k) (n + 1) := by
 have h' := h.more (Nat.le_succ n); unfold Vst.turn
 refine ⟨h'.svr, h'.sva, h'.vsr, h.csr.ins _, h'.vsa, fun c hc => ?_, h'.nx1, h'.nx2⟩
 rcases (mem_ins h.csr).1 hc with rfl | ⟨hc, _⟩
 ·exact ⟨h1.1, h1.2, by simp only []; omega, by simp only []; omega, h3⟩
 ·exact h'.csa c hc
theorem at_ok {S : Vst} {a b : Int} {k : Ck} (h : S.at_ a b = .ok k) : fd Ck.id S.cs a = some k ∧ k.ep = b := by
 unfold Vst.at_ at h
 split at h
 ·cases h
 ·split at h
  ·injection h with h; subst h; exact ⟨by assumption, by assumption⟩
  ·cases h
theorem wout_len (l : List Int) (s : Int) : (wout l s).length ≤ l.length := List.length_filter_le _ _
theorem wout_lt {l : List Int} {s : Int} (h : l.contains s = true) : (wout l s).length < l.length := by
 unfold wout; rw [List.contains_iff_mem] at h
 induction l with
 |nil => cases h
 |cons x t ih =>
  rw [List.filter_cons]
  rcases List.mem_cons.1 h with rfl | h
  ·have := List.length_filter_le (fun k => k != s) t
   simp
   omega
  ·have := ih h
   split <;> simp <;> omega
theorem VOk.cp {S : Vst} {n : Nat} (h : VOk S n) (ch : List Int) : 0 ≤ copiesOf S.cs ch ∧ copiesOf S.cs ch ≤ 4 := by
 unfold copiesOf
 split
 ·omega
 ·split
  ·rename_i c hc
   have := h.csa c (fd_some hc).1
   omega
  ·omega
theorem VOk.act {S : Vst} {n : Nat} (h : VOk S n) (hn : n ≤ 1000) (q : Cmd) : VOk (S.act q).1 (n + 1) := by
 have h' := h.more (Nat.le_succ n); unfold Vst.act
 split
 ·unfold Vst.server
  split
  ·rename_i hq
   refine ⟨h.svr.ins _, fun x hx => ?_, h'.vsr, h'.csr, h'.vsa, h'.csa, h'.nx1, h'.nx2⟩
   rcases (mem_ins h.svr).1 hx with rfl | ⟨hx, _⟩
   ·exact hq
   ·exact h.sva x hx
  ·exact h'
 split
 ·unfold Vst.create
  split
  ·rename_i hq
   split
   ·exact h'
   ·split
    ·exact h'
    ·exact VOk.grow hn h.svr h.sva h.vsr h.vsa h.co h.nx1 h.nx2 ⟨hq.1, hq.2.1⟩ ⟨hq.2.2.1, hq.2.2.2.1⟩ (by simp) ⟨by simp, by simp only []; omega⟩ (by simp) (by omega)
  ·exact h'
 split
 ·unfold Vst.remove
  split
  ·exact h'
  ·refine ⟨h'.svr, h'.sva, h.vsr.out _, outs_rise h.csr, fun v hv => h'.vsa v (mem_out.1 hv).1, fun c hc => h'.csa c (mem_outs.1 hc).1, h'.nx1, h'.nx2⟩
 split
 ·unfold Vst.resize
  split
  ·rename_i hq
   split
   ·exact h'
   ·rename_i v hv
    have hv1 := h.vsa v (fd_some hv).1
    refine VOk.grow hn h.svr h.sva h.vsr h.vsa (h.co.outs _) h.nx1 h.nx2 ⟨hv1.1, hv1.2.1⟩ hq ?_ ⟨hv1.2.2.2.2.2.1, hv1.2.2.2.2.2.2.1⟩ (fun k hk => hv1.2.2.2.2.2.2.2 k (List.mem_of_mem_take hk)) (h.cp _).2
    simp only []; rw [List.length_take]
    omega
  ·exact h'
 split
 ·unfold Vst.policy
  split
  ·split
   ·exact h'
   ·rename_i v hv
    have hv1 := h.vsa v (fd_some hv).1
    refine ⟨h'.svr, h'.sva, h.vsr.ins _, h'.csr, fun x hx => ?_, h'.csa, h'.nx1, h'.nx2⟩
    rcases (mem_ins h.vsr).1 hx with rfl | ⟨hx, _⟩
    ·obtain ⟨a1, a2, a3, a4, a5, a6, a7, a8⟩ := hv1
     exact ⟨a1, a2, a3, a4, a5, by simp only []; omega, by simp only []; omega, a8⟩
    ·exact h'.vsa x hx
  ·exact h'
 split
 ·unfold Vst.drop
  split
  ·exact h'
  ·rename_i k hk
   have hk1 := h.csa k (fd_some (at_ok hk).1).1
   split
   ·exact h'
   ·split
    ·exact h'
    ·refine h.turn ⟨hk1.1, hk1.2.1⟩ ⟨hk1.2.2.1, hk1.2.2.2.1⟩ ?_
     have := wout_len k.me q.c; have := wout_len k.jo q.c; simp only []
     omega
 split
 ·unfold Vst.join
  split
  ·exact h'
  ·split
   ·exact h'
   ·rename_i k hk
    have hk1 := h.csa k (fd_some (at_ok hk).1).1
    split
    ·exact h'
    ·split
     ·exact h'
     ·refine h.turn ⟨hk1.1, hk1.2.1⟩ ⟨hk1.2.2.1, hk1.2.2.2.1⟩ ?_
      simp only [List.length_append, List.length_singleton]
      omega
 split
 ·unfold Vst.promote
  split
  ·exact h'
  ·rename_i k hk
   have hk1 := h.csa k (fd_some (at_ok hk).1).1
   split
   ·exact h'
   ·rename_i hc
    have := wout_lt (l := k.jo) (s := q.c) (by simpa using hc)
    refine h.turn ⟨hk1.1, hk1.2.1⟩ ⟨hk1.2.2.1, hk1.2.2.2.1⟩ ?_
    simp only [List.length_append, List.length_singleton]
    omega
 ·exact h'
theorem VOk.apply {S : Vst} {n : Nat} (h : VOk S n) (hn : n ≤ 1000) (q : Cmd) : VOk (S.apply q).1 (n + 1) := by
 have h' := h.more (Nat.le_succ n); unfold Vst.apply; simp only []
 split
 ·split
  ·exact h.act hn q
  ·exact h'
 ·exact h'
theorem VOk.lens {S : Vst} {n : Nat} (h : VOk S n) (hn : n ≤ 1001) : S.sv.length ≤ 16 ∧ S.vs.length ≤ 64 ∧ S.cs.length ≤ 70000 ∧ S.nx ≤ 70000 := by
 have h1 := rise_len (a := 0) (b := 16) h.svr (fun x hx => by have := h.sva x hx; omega); have h2 := rise_len (a := 0) (b := 64) h.vsr (fun x hx => by have := h.vsa x hx; omega); have h3 := rise_len (a := 1) (b := S.nx) h.csr (fun x hx => by have := h.csa x hx; omega); have := h.nx2
 omega

structure VIn (S : Vst) : Prop where
 nd : ∀ c ∈ S.cs, (c.me ++ c.jo).Nodup
 mb : ∀ c ∈ S.cs, c.me ≠ []
 vc : ∀ v ∈ S.vs, ∀ k ∈ v.ch, ∃ c ∈ S.cs, c.id = k ∧ c.vol = v.id
 cv : ∀ c ∈ S.cs, ∃ v ∈ S.vs, v.id = c.vol ∧ c.id ∈ v.ch
 vr : ∀ v ∈ S.vs, v.ch.Pairwise (· < ·)
 sne : S.vs ≠ [] → S.sv ≠ []
theorem VIn.start : VIn ⟨[], [], [], 1⟩ := ⟨by simp, by simp, by simp, by simp, by simp, by simp⟩
section
variable {α : Type} {key : α → Int} {L : List α} {x y : α}
theorem Rise.inj (h : Rise key L) (hx : x ∈ L) (hy : y ∈ L) (e : key x = key y) : x = y := by
 have h1 := fd_mem h hx; have h2 := fd_mem h hy; rw [e, h2] at h1
 injection h1 with h1
 exact h1.symm
end
theorem loads_ids (S : Vst) : S.loads.map Ld.id = S.sv.map Prod.fst := by unfold Vst.loads; rw [List.map_map]; rfl
theorem chosen_nodup {S : Vst} (h : Rise Prod.fst S.sv) (m : Int) : (chosen S.loads m).Nodup := by
 unfold chosen
 refine List.Nodup.sublist (List.take_sublist _ _) ?_
 have hp : ((sortLd S.loads).map Ld.id).Perm (S.loads.map Ld.id) := (List.mergeSort_perm _ _).map _; rw [hp.nodup_iff, loads_ids]
 exact h.nodup
theorem chosen_len (l : List Ld) (m : Int) : (chosen l m).length = min m.toNat l.length := by
 unfold chosen; rw [List.length_take, List.length_map]; unfold sortLd; rw [List.length_mergeSort]
theorem chosen_sub {l : List Ld} {m : Int} {s : Int} (h : s ∈ chosen l m) : s ∈ l.map Ld.id := by
 unfold chosen at h; have h := List.mem_of_mem_take h; have hp : ((sortLd l).map Ld.id).Perm (l.map Ld.id) := (List.mergeSort_perm _ _).map _
 exact hp.mem_iff.1 h
theorem loads_len (S : Vst) : S.loads.length = S.sv.length := by unfold Vst.loads; rw [List.length_map]
theorem VIn.grow {S : Vst} {v : Vo} {cp : Int} (svr : Rise Prod.fst S.sv) (vsr : Rise Vo.id S.vs) (csr : Rise Ck.id S.cs) (hlt : ∀ c ∈ S.cs, c.id < S.nx) (hcp : 1 ≤ cp) (hsv : S.sv ≠ [])
  (nd : ∀ c ∈ S.cs, (c.me ++ c.jo).Nodup) (mb : ∀ c ∈ S.cs, c.me ≠ [])
  (h2 : ∀ u ∈ S.vs, u.id ≠ v.id → ∀ k ∈ u.ch, ∃ c ∈ S.cs, c.id = k ∧ c.vol = u.id) (h3 : ∀ k ∈ v.ch, ∃ c ∈ S.cs, c.id = k ∧ c.vol = v.id)
  (h4 : ∀ c ∈ S.cs, (c.vol = v.id ∧ c.id ∈ v.ch) ∨ ∃ u ∈ S.vs, u.id ≠ v.id ∧ u.id = c.vol ∧ c.id ∈ u.ch) (h5 : v.ch.Pairwise (· < ·)) (h6 : ∀ u ∈ S.vs, u.ch.Pairwise (· < ·)) : VIn (S.grow v cp) := by
 obtain ⟨g1, g2, g3, g4⟩ := growN_sv (lack v.bl v.ch) S v.id v.ch cp; have hs1 : 1 ≤ S.sv.length := List.length_pos_iff.2 hsv
 obtain ⟨r1, r2, r3, r4, r5, r6⟩ := growN_all (P := fun c => (c.me ++ c.jo).Nodup ∧ c.me ≠ []) (id := v.id) (cp := cp) (lack v.bl v.ch) v.ch csr hlt (fun c hc => ⟨nd c hc, mb c hc⟩)
  (fun X hX _ _ => by
   refine ⟨by simp only [List.append_nil]; exact chosen_nodup (by rw [hX]; exact svr) _, fun e => ?_⟩
   have hl := chosen_len X.loads (min cp S.sv.length); simp only [] at e; rw [e, loads_len, hX] at hl; simp only [List.length_nil] at hl
   omega)
 have hch : ∀ k, k ∈ (growN (lack v.bl v.ch) S v.id v.ch cp).2 ↔ k ∈ v.ch ∨ (S.nx ≤ k ∧ k < S.nx + lack v.bl v.ch) := fun k => by
  rw [g4, List.mem_append, List.mem_map]
  constructor
  ·rintro (h | ⟨i, hi, rfl⟩)
   ·exact Or.inl h
   ·have := List.mem_range.1 hi
    exact Or.inr ⟨by omega, by omega⟩
  ·rintro (h | ⟨ha, hb⟩)
   ·exact Or.inl h
   ·exact Or.inr ⟨(k - S.nx).toNat, List.mem_range.2 (by omega), by omega⟩
 have hold : ∀ k ∈ v.ch, k < S.nx := fun k hk => by
  obtain ⟨c, hc, rfl, _⟩ := h3 k hk
  exact hlt c hc
 unfold Vst.grow; simp only []; rw [g2]
 refine ⟨fun c hc => (r3 c hc).1, fun c hc => (r3 c hc).2, fun x hx k hk => ?_, fun c hc => ?_, fun x hx => ?_, fun _ => by simp only []; rw [g1]; exact hsv⟩
 ·rcases (mem_ins vsr).1 hx with rfl | ⟨hx, hne⟩
  ·simp only [] at hk ⊢
   rcases (hch k).1 hk with h | ⟨ha, hb⟩
   ·obtain ⟨c, hc, h7⟩ := h3 k h
    exact ⟨c, r4 c hc, h7⟩
   ·exact r6 k ha hb
  ·simp only [] at hne
   obtain ⟨c, hc, h7⟩ := h2 x hx hne k hk
   exact ⟨c, r4 c hc, h7⟩
 ·rcases r5 c hc with h | ⟨ha, hb, hv⟩
  ·rcases h4 c h with ⟨hv, hk⟩ | ⟨u, hu, hne, hv, hk⟩
   ·exact ⟨_, (mem_ins vsr).2 (Or.inl rfl), hv.symm, (hch _).2 (Or.inl hk)⟩
   ·exact ⟨u, (mem_ins vsr).2 (Or.inr ⟨hu, hne⟩), hv, hk⟩
  ·exact ⟨_, (mem_ins vsr).2 (Or.inl rfl), hv.symm, (hch _).2 (Or.inr ⟨ha, hb⟩)⟩
 ·rcases (mem_ins vsr).1 hx with rfl | ⟨hx, hne⟩
  ·simp only []
   rw [g4]
   refine List.pairwise_append.2 ⟨h5, ?_, fun a ha b hb => ?_⟩
   ·refine List.Pairwise.map _ (fun a b hab => ?_) List.pairwise_lt_range
    omega
   ·obtain ⟨i, _, rfl⟩ := List.mem_map.1 hb
    have := hold a ha
    omega
  ·exact h6 x hx
theorem VIn.turn {S : Vst} {k k' : Ck} (h : VIn S) (csr : Rise Ck.id S.cs) (hk : k ∈ S.cs) (e1 : k'.id = k.id) (e2 : k'.vol = k.vol) (nd : (k'.me ++ k'.jo).Nodup) (mb : k'.me ≠ []) : VIn (S.turn k') := by
 unfold Vst.turn
 have hm : ∀ c, c ∈ ins Ck.id { k' with ep := k'.ep + 1 } S.cs ↔ c = { k' with ep := k'.ep + 1 } ∨ (c ∈ S.cs ∧ c.id ≠ k'.id) := fun c => mem_ins csr
 refine ⟨fun c hc => ?_, fun c hc => ?_, fun v hv j hj => ?_, fun c hc => ?_, h.vr, h.sne⟩
 ·rcases (hm c).1 hc with rfl | ⟨hc, _⟩
  ·exact nd
  ·exact h.nd c hc
 ·rcases (hm c).1 hc with rfl | ⟨hc, _⟩
  ·exact mb
  ·exact h.mb c hc
 ·obtain ⟨c, hc, h1, h2⟩ := h.vc v hv j hj
  by_cases e : c.id = k'.id
  ·have : c = k := csr.inj hc hk (e.trans e1)
   subst this
   exact ⟨_, (hm _).2 (Or.inl rfl), by simp only []; rw [e1, h1], by simp only []; rw [e2, h2]⟩
  ·exact ⟨c, (hm c).2 (Or.inr ⟨hc, e⟩), h1, h2⟩
 ·rcases (hm c).1 hc with rfl | ⟨hc, _⟩
  ·obtain ⟨v, hv, h1, h2⟩ := h.cv k hk
   exact ⟨v, hv, by simp only []; rw [e2]; exact h1, by simp only []; rw [e1]; exact h2⟩
  ·exact h.cv c hc
theorem VIn.act {S : Vst} {n : Nat} (h : VIn S) (ok : VOk S n) (q : Cmd) : VIn (S.act q).1 := by
 have hlt : ∀ c ∈ S.cs, c.id < S.nx := fun c hc => (ok.csa c hc).2.1
 unfold Vst.act
 split
 ·unfold Vst.server
  split
  ·refine ⟨h.nd, h.mb, h.vc, h.cv, h.vr, fun _ e => ?_⟩
   have : ((q.a, q.b) : Int × Int) ∈ ins Prod.fst (q.a, q.b) S.sv := (mem_ins ok.svr).2 (Or.inl rfl); simp only [] at e; rw [e] at this
   cases this
  ·exact h
 split
 ·unfold Vst.create
  split
  ·rename_i hq
   split
   ·exact h
   ·rename_i hnot
    split
    ·exact h
    ·rename_i hlen
     have hnone : fd Vo.id S.vs q.a = none := by simpa using hnot
     have hne := fd_none.1 hnone
     refine VIn.grow ok.svr ok.vsr ok.csr hlt (by omega) (fun e => by rw [e] at hlen; simp at hlen; omega) h.nd h.mb (fun u hu _ => h.vc u hu) (by simp) (fun c hc => Or.inr ?_) List.Pairwise.nil h.vr
     obtain ⟨v, hv, h1, h2⟩ := h.cv c hc
     exact ⟨v, hv, hne v hv, h1, h2⟩
  ·exact h
 split
 ·unfold Vst.remove
  split
  ·exact h
  ·rename_i v hv
   obtain ⟨hvm, hvi⟩ := fd_some hv
   refine ⟨fun c hc => h.nd c (mem_outs.1 hc).1, fun c hc => h.mb c (mem_outs.1 hc).1, fun u hu k hk => ?_, fun c hc => ?_, fun u hu => h.vr u (mem_out.1 hu).1, fun hne => h.sne (fun e => hne (by simp only [] at *; rw [e]; rfl))⟩
   ·obtain ⟨hu1, hu2⟩ := mem_out.1 hu
    obtain ⟨c, hc, h1, h2⟩ := h.vc u hu1 k hk
    refine ⟨c, mem_outs.2 ⟨hc, fun hin => ?_⟩, h1, h2⟩
    obtain ⟨c', hc', h1', h2'⟩ := h.vc v hvm _ hin; have : c' = c := ok.csr.inj hc' hc h1'; subst this
    exact hu2 (by rw [← h2, h2', hvi])
   ·obtain ⟨hc1, hc2⟩ := mem_outs.1 hc
    obtain ⟨u, hu, h1, h2⟩ := h.cv c hc1
    refine ⟨u, mem_out.2 ⟨hu, fun e => hc2 ?_⟩, h1, h2⟩
    have : u = v := ok.vsr.inj hu hvm (by rw [e, hvi]); rw [← this]
    exact h2
 split
 ·unfold Vst.resize
  split
  ·split
   ·exact h
   ·rename_i v hv
    obtain ⟨hvm, hvi⟩ := fd_some hv
    have hvne : v.ch ≠ [] := fun e => by have := ok.vsa v hvm; rw [e] at this; simp at this; omega
    have hcp : 1 ≤ copiesOf S.cs v.ch := by
     unfold copiesOf
     cases hc : v.ch with
     |nil => exact absurd hc hvne
     |cons k t =>
      obtain ⟨c, hcm, h1, _⟩ := h.vc v hvm k (by rw [hc]; simp); simp only []; rw [← h1, fd_mem ok.csr hcm]; have := List.length_pos_iff.2 (h.mb c hcm); simp only []
      omega
    generalize ((q.b + 7) / 8).toNat = ka
    have hsplit := List.take_append_drop ka v.ch
    have hnd : ∀ k ∈ v.ch.take ka, k ∉ v.ch.drop ka := fun k hk hk2 => by
     have := h.vr v hvm; rw [← hsplit] at this
     exact Int.lt_irrefl _ ((List.pairwise_append.1 this).2.2 k hk k hk2)
    refine VIn.grow ok.svr ok.vsr (outs_rise ok.csr) (fun c hc => hlt c (mem_outs.1 hc).1) hcp (h.sne (fun e => by rw [e] at hvm; cases hvm)) (fun c hc => h.nd c (mem_outs.1 hc).1) (fun c hc => h.mb c (mem_outs.1 hc).1)
     (fun u hu hne k hk => ?_) (fun k hk => ?_) (fun c hc => ?_) (List.Pairwise.sublist (List.take_sublist _ _) (h.vr v hvm)) h.vr
    ·obtain ⟨c, hc, h1, h2⟩ := h.vc u hu k hk
     refine ⟨c, mem_outs.2 ⟨hc, fun hin => ?_⟩, h1, h2⟩
     obtain ⟨c', hc', h1', h2'⟩ := h.vc v hvm _ (List.mem_of_mem_drop hin); have : c' = c := ok.csr.inj hc' hc h1'; subst this
     exact hne (by rw [← h2, h2'])
    ·obtain ⟨c, hc, h1, h2⟩ := h.vc v hvm k (List.mem_of_mem_take hk)
     exact ⟨c, mem_outs.2 ⟨hc, by rw [h1]; exact hnd k hk⟩, h1, h2⟩
    ·obtain ⟨hc1, hc2⟩ := mem_outs.1 hc
     obtain ⟨u, hu, h1, h2⟩ := h.cv c hc1
     by_cases e : u.id = v.id
     ·have : u = v := ok.vsr.inj hu hvm e
      subst this
      refine Or.inl ⟨h1.symm, ?_⟩
      rw [← hsplit] at h2
      rcases List.mem_append.1 h2 with h2 | h2
      ·exact h2
      ·exact absurd h2 hc2
     ·exact Or.inr ⟨u, hu, e, h1, h2⟩
  ·exact h
 split
 ·unfold Vst.policy
  split
  ·split
   ·exact h
   ·rename_i v hv
    obtain ⟨hvm, hvi⟩ := fd_some hv
    have hm : ∀ u, u ∈ ins Vo.id { v with p := q.p, ver := v.ver + 1 } S.vs ↔ u = { v with p := q.p, ver := v.ver + 1 } ∨ (u ∈ S.vs ∧ u.id ≠ v.id) := fun u => mem_ins ok.vsr
    refine ⟨h.nd, h.mb, fun u hu k hk => ?_, fun c hc => ?_, fun u hu => ?_, fun _ => h.sne (fun e => by rw [e] at hvm; cases hvm)⟩
    ·rcases (hm u).1 hu with rfl | ⟨hu, _⟩
     ·exact h.vc v hvm k hk
     ·exact h.vc u hu k hk
    ·obtain ⟨u, hu, h1, h2⟩ := h.cv c hc
     by_cases e : u.id = v.id
     ·have : u = v := ok.vsr.inj hu hvm e
      subst this
      exact ⟨_, (hm _).2 (Or.inl rfl), h1, h2⟩
     ·exact ⟨u, (hm u).2 (Or.inr ⟨hu, e⟩), h1, h2⟩
    ·rcases (hm u).1 hu with rfl | ⟨hu, _⟩
     ·exact h.vr v hvm
     ·exact h.vr u hu
  ·exact h
 split
 ·unfold Vst.drop
  split
  ·exact h
  ·rename_i k hk
   have hkm := (fd_some (at_ok hk).1).1
   split
   ·exact h
   ·rename_i hhas
    split
    ·exact h
    ·rename_i hone
     have hnd := List.nodup_append.1 (h.nd k hkm)
     refine h.turn ok.csr hkm rfl rfl ?_ ?_
     ·refine List.nodup_append.2 ⟨hnd.1.filter _, hnd.2.1.filter _, fun a ha b hb => hnd.2.2 a (List.mem_filter.1 ha).1 b (List.mem_filter.1 hb).1⟩
     ·intro e
      simp only [] at e; unfold wout at e; rw [List.filter_eq_nil_iff] at e
      have hall : ∀ x ∈ k.me, x = q.c := fun x hx => by simpa using e x hx
      apply hone
      cases hme : k.me with
      |nil => exact absurd hme (h.mb k hkm)
      |cons x t =>
       have hx := hall x (by rw [hme]; simp)
       cases ht : t with
       |nil => rw [hx]
       |cons y t' =>
        have hy := hall y (by rw [hme, ht]; simp); have hn := hnd.1; rw [hme, ht, hx, hy] at hn
        simp at hn
 split
 ·unfold Vst.join
  split
  ·exact h
  ·split
   ·exact h
   ·rename_i k hk
    have hkm := (fd_some (at_ok hk).1).1
    split
    ·exact h
    ·rename_i hhas
     split
     ·exact h
     ·refine h.turn ok.csr hkm rfl rfl ?_ (h.mb k hkm)
      unfold Ck.has at hhas; simp only [Bool.or_eq_true, List.contains_iff_mem, not_or] at hhas; simp only []; rw [← List.append_assoc]
      refine List.nodup_append.2 ⟨h.nd k hkm, by simp, fun a ha b hb => ?_⟩
      rw [List.mem_singleton.1 hb]; rintro rfl
      rcases List.mem_append.1 ha with ha | ha
      ·exact hhas.1 ha
      ·exact hhas.2 ha
 split
 ·unfold Vst.promote
  split
  ·exact h
  ·rename_i k hk
   have hkm := (fd_some (at_ok hk).1).1
   split
   ·exact h
   ·rename_i hc
    have hc' : q.c ∈ k.jo := by simpa using hc
    have hnd := List.nodup_append.1 (h.nd k hkm)
    refine h.turn ok.csr hkm rfl rfl ?_ (by simp)
    simp only []
    have hnin : q.c ∉ k.me := fun hin => hnd.2.2 _ hin _ hc' rfl
    refine List.nodup_append.2 ⟨List.nodup_append.2 ⟨hnd.1, by simp, fun a ha b hb => ?_⟩, hnd.2.1.filter _, fun a ha b hb => ?_⟩
    ·rw [List.mem_singleton.1 hb]
     rintro rfl
     exact hnin ha
    ·have hb1 := List.mem_filter.1 hb
     rintro rfl
     rcases List.mem_append.1 ha with ha | ha
     ·exact hnd.2.2 _ ha _ hb1.1 rfl
     ·have := List.mem_singleton.1 ha
      simp [this] at hb1
 ·exact h
theorem VIn.apply {S : Vst} {n : Nat} (h : VIn S) (ok : VOk S n) (q : Cmd) : VIn (S.apply q).1 := by
 unfold Vst.apply; simp only []
 split
 ·split
  ·exact h.act ok q
  ·exact h
 ·exact h
end Go.Proofs.YtcahcjfgmdpdoaaGreat
