/- One text of: Ga Gb Gc Gd Ge. -/
import Derived.Test.YteppdlkmjgladaaGreatQND
namespace Go.Proofs.YteppdlkmjgladaaGreat
open Go.RowKit Go.Proofs Go.Maps
set_option linter.unusedVariables false
set_option linter.unusedSimpArgs false
theorem zA33 {α : Type} (l : List α) (i : Nat) (a : α) : l.toArray.setIfInBounds i a = (l.set i a).toArray := by simp
theorem zB33 {α : Type} (x a : α) (l : List α) : (x :: l).set 0 a = a :: l := rfl
theorem zC33 {α : Type} (x a : α) (l : List α) (n : Nat) : (x :: l).set (n + 1) a = x :: l.set n a := rfl

structure Gm where
 V : Vlt
 si : Int
 st : Int
 sm : List Int
 sb : List Nat
 li : Int
 lt : Int
 L : List Con
 votes : List Int
 next : Int → Option Int
 mat : Int → Option Int
 on : Nat
structure Gd where
 id : Int
 dead : Bool
 bt : Int
 bv : Int
 commit : Int
 told : Int
 fresh : Bool
 role : Int
 leader : Int
 quiet : Int
 beats : Int
 m : Gm
structure Gl where
 v : Nat
 d : Nat
 lb : Nat
 nx : Nat
 mx : Nat
 Am : Option Addr
 cm : Nat
 Ab : Option Addr
 cb : Nat
 Av : Option Addr
 cv : Nat
 Ao : Option Addr
 co : Nat
 Fl : List Nat
 Fv : List Nat
def Gd.cells (G : Gd) (q : Gl) : List Value := [.int .i64 G.id, .pointer (some ⟨q.v, 0, none⟩), .bool G.dead, .int .i64 G.bt, .int .i64 G.bv, .int .i64 G.m.si, .int .i64 G.m.st, .slice q.Am G.m.sm.length q.cm, .slice q.Ab G.m.sb.length q.cb, .pointer (some ⟨q.lb, 0, none⟩), .int .i64 G.commit, .int .i64 G.told, .bool G.fresh, .int .i64 G.role, .int .i64 G.leader, .int .i64 G.quiet, .int .i64 G.beats, .slice q.Av G.m.votes.length q.cv, .map (some q.nx), .map (some q.mx), .slice q.Ao G.m.on q.co]
def Gl.ob (q : Gl) : List Nat := (q.Ao.map Addr.block).toList
def Gl.vb (q : Gl) : List Nat := (q.Av.map Addr.block).toList
def gt (nb : Nat) (q : Gl) : List Nat := nb :: q.nx :: q.mx :: (q.ob ++ (q.Fl ++ q.Fv))
theorem gt_mem {nb x : Nat} {q : Gl} : x ∈ gt nb q ↔ x = nb ∨ x = q.nx ∨ x = q.mx ∨ x ∈ q.ob ∨ x ∈ q.Fl ∨ x ∈ q.Fv := by
 unfold gt
 simp only [List.mem_cons, List.mem_append]
structure GSep (nb : Nat) (q : Gl) : Prop where
 nx : q.nx ≠ nb
 mx : q.mx ≠ nb
 xx : q.nx ≠ q.mx
 o : ∀ x ∈ q.ob, x ≠ nb ∧ x ≠ q.nx ∧ x ≠ q.mx
 l : ∀ x ∈ q.Fl, x ≠ nb ∧ x ≠ q.nx ∧ x ≠ q.mx ∧ x ∉ q.ob
 v : ∀ x ∈ q.Fv, x ≠ nb ∧ x ≠ q.nx ∧ x ≠ q.mx ∧ x ∉ q.ob ∧ x ∉ q.Fl
 vs : ∀ x ∈ q.vb, ∀ a, q.Am = some a → a.block ≠ x
structure GP (w : World) (nb : Nat) (q : Gl) (G : Gd) : Prop where
 blk : Blk w nb 97 (G.cells q)
 vlt : VltM w q.v q.d q.Fv G.m.V
 log : LG w q.lb G.m.li G.m.lt G.m.L q.Fl
 sm : It w q.Am q.cm G.m.sm
 sb : True
 vo : w.ownsRow 0 3 1 (.slice q.Av G.m.votes.length q.cv) G.m.votes.length (G.m.votes.map (Value.int .i64))
 nx : IM w q.nx (cnt16 G.m.next) G.m.next
 mx : IM w q.mx (cnt16 G.m.mat) G.m.mat
 out : ∃ xs, w.ownsRow 0 138 5 (.slice q.Ao G.m.on q.co) G.m.on xs
 sep : GSep nb q
section
variable {w w' : World} {nb : Nat} {q q' : Gl} {G G' : Gd} {K : List Nat}
theorem GP.ohard (h : GP w nb q G) : HardL w q.ob := by
 obtain ⟨xs, ho⟩ := h.out
 intro x hx
 unfold Gl.ob at hx
 simp only [Option.mem_toList] at hx
 obtain ⟨cs, hb⟩ := own_blk ho hx
 exact hb.hard (by decide) (by decide)
theorem GP.hard (h : GP w nb q G) : HardL w (gt nb q) :=
 HardL.cons (h.blk.hard (by decide) (by decide)) (HardL.cons h.nx.hard (HardL.cons h.mx.hard (h.ohard.app (h.log.hard.app h.vlt.hard))))
theorem GP.vblk (h : GP w nb q G) : ∀ x ∈ q.vb, ∃ cs, Blk w x 3 cs := by
 intro x hx
 unfold Gl.vb at hx
 simp only [Option.mem_toList] at hx
 exact own_blk h.vo hx
theorem GP.vnot (h : GP w nb q G) : ∀ x ∈ q.vb, x ∉ gt nb q := fun x hx hg => by
 obtain ⟨cs, hb⟩ := h.vblk x hx
 exact (h.hard x hg).notBlk (Or.inr rfl) hb
theorem GP.vnb (h : GP w nb q G) (hK : ∀ x ∈ K, x ∈ gt nb q) : ∀ x ∈ q.vb, x ∉ K := fun x hx hk => h.vnot x hx (hK x hk)
theorem GP.vltS (h : GP w nb q G) (hc : Chg K w w') (hK : ∀ x ∈ K, x ∈ gt nb q) (hn : ∀ x ∈ q.Fv, x ∉ K) : VltM w' q.v q.d q.Fv G.m.V := h.vlt.chg hc hn (HardL.nob (fun x hx => h.hard x (hK x hx)))
theorem GP.logS (h : GP w nb q G) (hc : Chg K w w') (hK : ∀ x ∈ K, x ∈ gt nb q) (hn : ∀ x ∈ q.Fl, x ∉ K) : LG w' q.lb G.m.li G.m.lt G.m.L q.Fl := h.log.keep hc hn (fun x hx => (h.hard x (hK x hx)).notByte)
theorem GP.smS (h : GP w nb q G) (hc : Chg K w w') (hK : ∀ x ∈ K, x ∈ gt nb q) : It w' q.Am q.cm G.m.sm := h.sm.chg hc (fun x hx => h.hard x (hK x hx))
theorem GP.sbS (h : GP w nb q G) (hc : Chg K w w') (hK : ∀ x ∈ K, x ∈ gt nb q) (hF : ∀ x ∈ gt nb q' ++ q'.vb, x ∈ gt nb q ++ q.vb ∨ w.heap.size ≤ x) : True := trivial
theorem GP.voS (h : GP w nb q G) (hc : Chg K w w') (hK : ∀ x ∈ K, x ∈ gt nb q) : w'.ownsRow 0 3 1 (.slice q.Av G.m.votes.length q.cv) G.m.votes.length (G.m.votes.map (Value.int .i64)) :=
 own_chg h.vo hc (fun g hg hx => h.vnb hK g (by rw [owS] at hg; unfold Gl.vb; rw [hg]; simp) hx)
theorem GP.outS (h : GP w nb q G) (hc : Chg K w w') (hn : ∀ x ∈ q.ob, x ∉ K) : ∃ xs, w'.ownsRow 0 138 5 (.slice q.Ao G.m.on q.co) G.m.on xs := by
 obtain ⟨xs, ho⟩ := h.out
 exact ⟨xs, own_chg ho hc (fun g hg hx => hn g (by rw [owS] at hg; unfold Gl.ob; rw [hg]; simp) hx)⟩
theorem GP.below (h : GP w nb q G) (hb : Below w.heap.size w w') : GP w' nb q G :=
 ⟨h.blk.below hb, h.vlt.below hb, h.log.below hb, h.sm.below hb, trivial, h.voS (Chg.of_below (L := []) hb) (fun x hx => by cases hx), h.nx.chg (L := []) (Chg.of_below hb) (by simp), h.mx.chg (L := []) (Chg.of_below hb) (by simp), h.outS (Chg.of_below (L := []) hb) (fun x hx => by simp), h.sep⟩
theorem GP.lt (h : GP w nb q G) : ∀ x ∈ gt nb q ++ q.vb, x < w.heap.size := fun x hx => by
 rcases List.mem_append.1 hx with hx | hx
 ·exact (h.hard x hx).lt
 ·obtain ⟨cs, hb⟩ := h.vblk x hx
  exact hb.lt
theorem GP.news (h : GP w nb q G) {x : Nat} (hx : w.heap.size ≤ x) : x ≠ nb ∧ x ≠ q.nx ∧ x ≠ q.mx ∧ x ∉ q.ob ∧ x ∉ q.Fl ∧ x ∉ q.Fv ∧ x ∉ q.vb := by
 have hg : ∀ y, y ∈ gt nb q → x ≠ y := fun y hy e => by have := h.lt y (List.mem_append_left _ hy); omega
 refine ⟨hg _ (gt_mem.2 (by simp)), hg _ (gt_mem.2 (by simp)), hg _ (gt_mem.2 (by simp)), fun hy => hg x (gt_mem.2 (by simp [hy])) rfl, fun hy => hg x (gt_mem.2 (by simp [hy])) rfl, fun hy => hg x (gt_mem.2 (by simp [hy])) rfl, fun hy => ?_⟩
 have := h.lt x (List.mem_append_right _ hy); omega
theorem GP.own (h : GP w nb q G) (hc : Chg [nb] w w') (hb : Blk w' nb 97 (G'.cells q)) (hm : G'.m = G.m) : GP w' nb q G' := by
 have hK : ∀ x ∈ [nb], x ∈ gt nb q := fun x hx => gt_mem.2 (Or.inl (List.mem_singleton.1 hx))
 have s := h.sep
 refine ⟨hb, ?_, ?_, ?_, ?_, ?_, ?_, ?_, ?_, s⟩
 ·rw [hm]; exact h.vltS hc hK (fun x hx hy => (s.v x hx).1 (List.mem_singleton.1 hy))
 ·rw [hm]; exact h.logS hc hK (fun x hx hy => (s.l x hx).1 (List.mem_singleton.1 hy))
 ·rw [hm]; exact h.smS hc hK
 ·trivial
 ·rw [hm]; exact h.voS hc hK
 ·rw [hm]; exact h.nx.chg hc (fun hx => s.nx (List.mem_singleton.1 hx))
 ·rw [hm]; exact h.mx.chg hc (fun hx => s.mx (List.mem_singleton.1 hx))
 ·rw [hm]; exact h.outS hc (fun x hx hy => (s.o x hx).1 (List.mem_singleton.1 hy))
theorem GP.vault (h : GP w nb q G) {V' : Vlt} (hv : VltT w w' q.v q.d q.Fv V') : ∃ Fv', GP w' nb { q with Fv := Fv' } { G with m := { G.m with V := V' } } ∧ Chg q.Fv w w' ∧ ∀ x ∈ Fv', x ∈ q.Fv ∨ w.heap.size ≤ x := by
 obtain ⟨Fv', h1, hc, hf⟩ := hv
 have hK : ∀ x ∈ q.Fv, x ∈ gt nb q := fun x hx => gt_mem.2 (by simp [hx])
 have s := h.sep
 have nin : ∀ x, x < w.heap.size → x ∉ q.Fv → x ∉ Fv' := fun x hx hn hx' => (hf x hx').elim hn (fun h => by omega)
 have hgt : ∀ x ∈ gt nb { q with Fv := Fv' } ++ q.vb, x ∈ gt nb q ++ q.vb ∨ w.heap.size ≤ x := fun x hx => by
  simp only [List.mem_append, gt_mem] at hx ⊢
  rcases hx with (hx | hx | hx | hx | hx | hx) | hx
  ·exact Or.inl (Or.inl (Or.inl hx))
  ·exact Or.inl (Or.inl (Or.inr (Or.inl hx)))
  ·exact Or.inl (Or.inl (Or.inr (Or.inr (Or.inl hx))))
  ·exact Or.inl (Or.inl (Or.inr (Or.inr (Or.inr (Or.inl hx)))))
  ·exact Or.inl (Or.inl (Or.inr (Or.inr (Or.inr (Or.inr (Or.inl hx))))))
  ·exact (hf x hx).imp (fun h => Or.inl (Or.inr (Or.inr (Or.inr (Or.inr (Or.inr h)))))) id
  ·exact Or.inl (Or.inr hx)
 refine ⟨Fv', ⟨h.blk.chg hc (fun hx => (s.v _ hx).1 rfl), h1, h.logS hc hK (fun x hx hy => (s.v x hy).2.2.2.2 hx), h.smS hc hK, h.sbS hc hK hgt, h.voS hc hK, h.nx.chg hc (fun hx => (s.v _ hx).2.1 rfl), h.mx.chg hc (fun hx => (s.v _ hx).2.2.1 rfl), h.outS hc (fun x hx hy => (s.v x hy).2.2.2.1 hx), ⟨s.nx, s.mx, s.xx, s.o, s.l, fun x hx => ?_, s.vs⟩⟩, hc, hf⟩
 rcases hf x hx with h2 | h2
 ·exact s.v x h2
 ·have hn := h.news h2
  exact ⟨hn.1, hn.2.1, hn.2.2.1, hn.2.2.2.1, hn.2.2.2.2.1⟩
theorem GP.logT (h : GP w nb q G) {lb : Nat} {li lt : Int} {L' : List Con} {Fl' : List Nat} (hb : Blk w' nb 97 (Gd.cells { G with m := { G.m with li := li, lt := lt, L := L' } } { q with lb := lb, Fl := Fl' })) (hl : LG w' lb li lt L' Fl') (hc : Chg (nb :: q.Fl) w w') (hf : ∀ x ∈ Fl', x ∈ q.Fl ∨ w.heap.size ≤ x) :
  GP w' nb { q with lb := lb, Fl := Fl' } { G with m := { G.m with li := li, lt := lt, L := L' } } := by
 have hK : ∀ x ∈ nb :: q.Fl, x ∈ gt nb q := fun x hx => gt_mem.2 ((List.mem_cons.1 hx).imp id (fun h => Or.inr (Or.inr (Or.inr (Or.inl h)))))
 have s := h.sep
 have hvl : ∀ x ∈ q.Fv, x < w.heap.size := fun x hx => (h.vlt.hard x hx).lt
 have hgt : ∀ x ∈ gt nb { q with lb := lb, Fl := Fl' } ++ q.vb, x ∈ gt nb q ++ q.vb ∨ w.heap.size ≤ x := fun x hx => by
  simp only [List.mem_append, gt_mem] at hx ⊢
  rcases hx with (hx | hx | hx | hx | hx | hx) | hx
  ·exact Or.inl (Or.inl (Or.inl hx))
  ·exact Or.inl (Or.inl (Or.inr (Or.inl hx)))
  ·exact Or.inl (Or.inl (Or.inr (Or.inr (Or.inl hx))))
  ·exact Or.inl (Or.inl (Or.inr (Or.inr (Or.inr (Or.inl hx)))))
  ·exact (hf x hx).imp (fun h => Or.inl (Or.inr (Or.inr (Or.inr (Or.inr (Or.inl h)))))) id
  ·exact Or.inl (Or.inl (Or.inr (Or.inr (Or.inr (Or.inr (Or.inr hx))))))
  ·exact Or.inl (Or.inr hx)
 have no : ∀ x, x ≠ nb → x ∉ q.Fl → x ∉ nb :: q.Fl := fun x h1 h2 => by simp [h1, h2]
 refine ⟨hb, h.vltS hc hK (fun x hx => no x (s.v x hx).1 (s.v x hx).2.2.2.2), hl, h.smS hc hK, h.sbS hc hK hgt, h.voS hc hK, h.nx.chg hc (no _ s.nx (fun hx => (s.l _ hx).2.1 rfl)), h.mx.chg hc (no _ s.mx (fun hx => (s.l _ hx).2.2.1 rfl)), h.outS hc (fun x hx => no x (s.o x hx).1 (fun hy => (s.l x hy).2.2.2 hx)), ⟨s.nx, s.mx, s.xx, s.o, fun x hx => ?_, fun x hx => ⟨(s.v x hx).1, (s.v x hx).2.1, (s.v x hx).2.2.1, (s.v x hx).2.2.2.1, fun hy => ?_⟩, s.vs⟩⟩
 ·rcases hf x hx with h2 | h2
  ·exact s.l x h2
  ·have hn := h.news h2
   exact ⟨hn.1, hn.2.1, hn.2.2.1, hn.2.2.2.1⟩
 ·rcases hf x hy with h2 | h2
  ·exact (s.v x hx).2.2.2.2 h2
  ·have := hvl x hx; omega
theorem GP.nextT (h : GP w nb q G) {f : Int → Option Int} (hi : IM w' q.nx (cnt16 f) f) (hc : Chg [q.nx] w w') : GP w' nb q { G with m := { G.m with next := f } } := by
 have hK : ∀ x ∈ [q.nx], x ∈ gt nb q := fun x hx => gt_mem.2 (Or.inr (Or.inl (List.mem_singleton.1 hx)))
 have s := h.sep
 exact ⟨h.blk.chg hc (fun hx => s.nx (List.mem_singleton.1 hx).symm), h.vltS hc hK (fun x hx hy => (s.v x hx).2.1 (List.mem_singleton.1 hy)), h.logS hc hK (fun x hx hy => (s.l x hx).2.1 (List.mem_singleton.1 hy)), h.smS hc hK, h.sbS hc hK (fun x hx => Or.inl hx), h.voS hc hK, hi, h.mx.chg hc (fun hx => s.xx (List.mem_singleton.1 hx).symm), h.outS hc (fun x hx hy => (s.o x hx).2.1 (List.mem_singleton.1 hy)), s⟩
theorem GP.matT (h : GP w nb q G) {f : Int → Option Int} (hi : IM w' q.mx (cnt16 f) f) (hc : Chg [q.mx] w w') : GP w' nb q { G with m := { G.m with mat := f } } := by
 have hK : ∀ x ∈ [q.mx], x ∈ gt nb q := fun x hx => gt_mem.2 (Or.inr (Or.inr (Or.inl (List.mem_singleton.1 hx))))
 have s := h.sep
 exact ⟨h.blk.chg hc (fun hx => s.mx (List.mem_singleton.1 hx).symm), h.vltS hc hK (fun x hx hy => (s.v x hx).2.2.1 (List.mem_singleton.1 hy)), h.logS hc hK (fun x hx hy => (s.l x hx).2.2.1 (List.mem_singleton.1 hy)), h.smS hc hK, h.sbS hc hK (fun x hx => Or.inl hx), h.voS hc hK, h.nx.chg hc (fun hx => s.xx (List.mem_singleton.1 hx)), hi, h.outS hc (fun x hx hy => (s.o x hx).2.2 (List.mem_singleton.1 hy)), s⟩
theorem GP.outT (h : GP w nb q G) {Ao : Option Addr} {co n : Nat} {xs : List Value} (hb : Blk w' nb 97 (Gd.cells { G with m := { G.m with on := n } } { q with Ao := Ao, co := co })) (ho : w'.ownsRow 0 138 5 (.slice Ao n co) n xs) (hc : Chg (nb :: q.ob) w w') (hf : ∀ x ∈ (Ao.map Addr.block).toList, x ∈ q.ob ∨ w.heap.size ≤ x) :
  GP w' nb { q with Ao := Ao, co := co } { G with m := { G.m with on := n } } := by
 have hK : ∀ x ∈ nb :: q.ob, x ∈ gt nb q := fun x hx => gt_mem.2 ((List.mem_cons.1 hx).imp id (fun h => Or.inr (Or.inr (Or.inl h))))
 have s := h.sep
 have hvl : ∀ x ∈ q.Fv, x < w.heap.size := fun x hx => (h.vlt.hard x hx).lt
 have hll : ∀ x ∈ q.Fl, x < w.heap.size := fun x hx => (h.log.hard x hx).lt
 have hgt : ∀ x ∈ gt nb { q with Ao := Ao, co := co } ++ q.vb, x ∈ gt nb q ++ q.vb ∨ w.heap.size ≤ x := fun x hx => by
  simp only [List.mem_append, gt_mem] at hx ⊢
  rcases hx with (hx | hx | hx | hx | hx | hx) | hx
  ·exact Or.inl (Or.inl (Or.inl hx))
  ·exact Or.inl (Or.inl (Or.inr (Or.inl hx)))
  ·exact Or.inl (Or.inl (Or.inr (Or.inr (Or.inl hx))))
  ·exact (hf x hx).imp (fun h => Or.inl (Or.inr (Or.inr (Or.inr (Or.inl h))))) id
  ·exact Or.inl (Or.inl (Or.inr (Or.inr (Or.inr (Or.inr (Or.inl hx))))))
  ·exact Or.inl (Or.inl (Or.inr (Or.inr (Or.inr (Or.inr (Or.inr hx))))))
  ·exact Or.inl (Or.inr hx)
 have no : ∀ x, x ≠ nb → x ∉ q.ob → x ∉ nb :: q.ob := fun x h1 h2 => by simp [h1, h2]
 have nin : ∀ x, x < w.heap.size → x ∉ q.ob → x ∉ (Ao.map Addr.block).toList := fun x hx hn hx' => (hf x hx').elim hn (fun h => by omega)
 refine ⟨hb, h.vltS hc hK (fun x hx => no x (s.v x hx).1 (s.v x hx).2.2.2.1), h.logS hc hK (fun x hx => no x (s.l x hx).1 (s.l x hx).2.2.2), h.smS hc hK, h.sbS hc hK hgt, h.voS hc hK, h.nx.chg hc (no _ s.nx (fun hx => (s.o _ hx).2.1 rfl)), h.mx.chg hc (no _ s.mx (fun hx => (s.o _ hx).2.2 rfl)), ⟨xs, ho⟩, ⟨s.nx, s.mx, s.xx, fun x hx => ?_, fun x hx => ⟨(s.l x hx).1, (s.l x hx).2.1, (s.l x hx).2.2.1, nin x (hll x hx) (s.l x hx).2.2.2⟩, fun x hx => ⟨(s.v x hx).1, (s.v x hx).2.1, (s.v x hx).2.2.1, nin x (hvl x hx) (s.v x hx).2.2.2.1, (s.v x hx).2.2.2.2⟩, s.vs⟩⟩
 rcases hf x hx with h2 | h2
 ·exact s.o x h2
 ·have hn := h.news h2
  exact ⟨hn.1, hn.2.1, hn.2.2.1⟩
end
end Go.Proofs.YteppdlkmjgladaaGreat

namespace Go.Proofs.YteppdlkmjgladaaGreat
open Go.RowKit Go.Proofs Go.Maps
set_option linter.unusedVariables false
set_option linter.unusedSimpArgs false

structure GS (w w' : World) (nb : Nat) (q q' : Gl) : Prop where
 c : Chg (gt nb q) w w'
 g : ∀ x ∈ gt nb q', x ∈ gt nb q ∨ w.heap.size ≤ x
 v : ∀ x ∈ q'.vb, x ∈ q.vb ∨ w.heap.size ≤ x
def Gd.vlt (G : Gd) (V : Vlt) (d : Bool) : Gd := { G with dead := d, m := { G.m with V := V } }
section
variable {w w' w1 w2 : World} {nb : Nat} {q q' q1 q2 : Gl} {G G' : Gd}
theorem GS.stay (hb : Below w.heap.size w w') : GS w w' nb q q := ⟨Chg.of_below hb, fun x hx => Or.inl hx, fun x hx => Or.inl hx⟩
theorem GS.trans (h : GS w w1 nb q q1) (k : GS w1 w2 nb q1 q2) : GS w w2 nb q q2 :=
 ⟨h.c.trans k.c h.g, fun x hx => (k.g x hx).elim (h.g x) (fun e => Or.inr (Nat.le_trans h.c.size e)), fun x hx => (k.v x hx).elim (h.v x) (fun e => Or.inr (Nat.le_trans h.c.size e))⟩
theorem GS.own (hc : Chg [nb] w w') : GS w w' nb q q := ⟨hc.mono (fun x hx => Or.inl (gt_mem.2 (Or.inl (List.mem_singleton.1 hx)))), fun x hx => Or.inl hx, fun x hx => Or.inl hx⟩
theorem GS.fv {Fv' : List Nat} (hc : Chg q.Fv w w') (hf : ∀ x ∈ Fv', x ∈ q.Fv ∨ w.heap.size ≤ x) : GS w w' nb q { q with Fv := Fv' } := by
 refine ⟨hc.mono (fun x hx => Or.inl (gt_mem.2 (by simp [hx]))), fun x hx => ?_, fun x hx => Or.inl hx⟩
 rcases gt_mem.1 hx with h | h | h | h | h | h
 ·exact Or.inl (gt_mem.2 (Or.inl h))
 ·exact Or.inl (gt_mem.2 (Or.inr (Or.inl h)))
 ·exact Or.inl (gt_mem.2 (Or.inr (Or.inr (Or.inl h))))
 ·exact Or.inl (gt_mem.2 (Or.inr (Or.inr (Or.inr (Or.inl h)))))
 ·exact Or.inl (gt_mem.2 (Or.inr (Or.inr (Or.inr (Or.inr (Or.inl h))))))
 ·exact (hf x h).imp (fun h => gt_mem.2 (Or.inr (Or.inr (Or.inr (Or.inr (Or.inr h)))))) id
set_option maxHeartbeats 2000000 in
set_option maxRecDepth 100000 in
theorem gput_calls (h : GP w nb q G) {g : Nat} (hV : VltOk G.m.V g) (hg : g < 2 ^ 60) (k : Int) {A : Option Addr} {c : Nat} {b : List Nat} (hb : Bt w A c b) (hbb : ∀ x ∈ b, x < 256) (hbl : b.length ≤ 100000) :
  Calls Tryz.prog 36 #[.pointer (some ⟨nb, 0, none⟩), .int .i64 k, .slice A b.length c] w fun e w' => ∃ q' V' d, e = .returned (.bool (!d)) ∧ GP w' nb q' (G.vlt V' d) ∧ VltOk V' (g + 1) ∧ GS w w' nb q q' ∧ (G.dead = true → d = true) := by
 have r0 := Below.refl w.heap.size w
 have y2 : w.cell? ⟨nb, 2, none⟩ = some (.bool G.dead) := h.blk.cell 2
 by_cases hd : G.dead = true
 ·have HF := hide (show GP w nb q (G.vlt G.m.V true) from by unfold Gd.vlt; rw [← hd]; exact h)
  have HV := hide (hV.up (Nat.le_succ _))
  rw [hd] at y2
  clear hd h hV hb hbb
  go_enter Tryz.func36, Tryz.ntmps36
  go_wp2
  go_ret
  exact ⟨q, G.m.V, true, rfl, HF.out, HV.out, GS.stay r0, fun _ => rfl⟩
 ·have hd' : G.dead = false := by simpa using hd
  rw [hd'] at y2
  have y1 : w.cell? ⟨nb, 1, none⟩ = some (.pointer (some ⟨q.v, 0, none⟩)) := h.blk.cell 1
  have HPU := vput_calls h.vlt hV hg k hb hbb hbl
  obtain ⟨⟨e1, V1⟩, hq⟩ : ∃ x, G.m.V.put k b = x := ⟨_, rfl⟩
  simp only [hq] at HPU
  have HPU := hide HPU
  have H := hide (And.intro h hd')
  clear hd hd' h hV hb hbb hq
  go_enter Tryz.func36, Tryz.ntmps36
  go_wp2_with fail
  with_reducible refine HPU.out.mono ?_
  rintro e w1 ⟨rfl, hv1, hok1⟩
  obtain ⟨Fv1, h1, hc1, hF1⟩ := H.out.1.vault hv1
  have y2' : w1.cell? ⟨nb, 2, none⟩ = some (.bool false) := by
   have := h1.blk.cell 2
   simp only [Gd.cells, List.getElem?_cons_succ, List.getElem?_cons_zero, H.out.2] at this
   exact this
  have H1 := hide (And.intro h1 (And.intro (GS.fv (nb := nb) hc1 hF1) hok1))
  clear hv1 h1 hc1 hF1 hok1 HPU y1 y2
  by_cases he : e1 = 0
  ·subst he
   go_wp2
   go_ret
   exact ⟨_, V1, false, rfl, by unfold Gd.vlt; rw [← H.out.2]; exact H1.out.1, H1.out.2.2, H1.out.2.1, fun h => by rw [H.out.2] at h; cases h⟩
  ·have u1 : ((e1 : Int) != 0) = true := by simp; omega
   have q2 := H1.out.1.blk.cell 2
   have f2 := H1.out.1.blk.frozen 2
   simp only [Gd.cells, List.getElem?_cons_succ, List.getElem?_cons_zero] at q2
   have b2 := H1.out.1.blk.set 2 (.bool true)
   have c2 : Chg [nb] w1 (w1.setCell ⟨nb, 2, none⟩ (.bool true)) := (Chg.refl [nb] w1).setCell (p := ⟨nb, 2, none⟩) (Or.inl (by simp)) _
   have h2 := H1.out.1.own (G' := G.vlt V1 true) c2 b2 rfl
   have H2 := hide (And.intro h2 (H1.out.2.1.trans (GS.own c2)))
   clear he b2 c2 h2
   go_wp2
   go_ret
   exact ⟨_, V1, true, rfl, H2.out.1, H1.out.2.2, H2.out.2, fun _ => rfl⟩
set_option maxHeartbeats 2000000 in
set_option maxRecDepth 100000 in
theorem gdrop_calls (h : GP w nb q G) {g : Nat} (hV : VltOk G.m.V g) (hg : g < 2 ^ 60) (k : Int) (hk : i64ok k) :
  Calls Tryz.prog 102 #[.pointer (some ⟨nb, 0, none⟩), .int .i64 k] w fun e w' => ∃ q' V' d, e = .returned (.bool (!d)) ∧ GP w' nb q' (G.vlt V' d) ∧ VltOk V' (g + 1) ∧ GS w w' nb q q' ∧ (G.dead = true → d = true) := by
 have r0 := Below.refl w.heap.size w
 have y2 : w.cell? ⟨nb, 2, none⟩ = some (.bool G.dead) := h.blk.cell 2
 by_cases hd : G.dead = true
 ·have HF := hide (show GP w nb q (G.vlt G.m.V true) from by unfold Gd.vlt; rw [← hd]; exact h)
  have HV := hide (hV.up (Nat.le_succ _))
  rw [hd] at y2
  clear hd h hV
  go_enter Tryz.func102, Tryz.ntmps102
  go_wp2
  go_ret
  exact ⟨q, G.m.V, true, rfl, HF.out, HV.out, GS.stay r0, fun _ => rfl⟩
 ·have hd' : G.dead = false := by simpa using hd
  rw [hd'] at y2
  have y1 : w.cell? ⟨nb, 1, none⟩ = some (.pointer (some ⟨q.v, 0, none⟩)) := h.blk.cell 1
  have HPU := vdrop_calls h.vlt hV hg k hk
  obtain ⟨⟨e1, V1⟩, hq⟩ : ∃ x, G.m.V.drop k = x := ⟨_, rfl⟩
  simp only [hq] at HPU
  have HPU := hide HPU
  have H := hide (And.intro h hd')
  clear hd hd' h hV hq hk
  go_enter Tryz.func102, Tryz.ntmps102
  go_wp2_with fail
  with_reducible refine HPU.out.mono ?_
  rintro e w1 ⟨rfl, hv1, hok1⟩
  obtain ⟨Fv1, h1, hc1, hF1⟩ := H.out.1.vault hv1
  have y2' : w1.cell? ⟨nb, 2, none⟩ = some (.bool false) := by
   have := h1.blk.cell 2
   simp only [Gd.cells, List.getElem?_cons_succ, List.getElem?_cons_zero, H.out.2] at this
   exact this
  have H1 := hide (And.intro h1 (And.intro (GS.fv (nb := nb) hc1 hF1) hok1))
  clear hv1 h1 hc1 hF1 hok1 HPU y1 y2
  by_cases he : e1 = 0
  ·subst he
   go_wp2
   go_ret
   exact ⟨_, V1, false, rfl, by unfold Gd.vlt; rw [← H.out.2]; exact H1.out.1, H1.out.2.2, H1.out.2.1, fun h => by rw [H.out.2] at h; cases h⟩
  ·have u1 : ((e1 : Int) != 0) = true := by simp; omega
   by_cases h7 : e1 = 7
   ·subst h7
    go_wp2
    go_ret
    exact ⟨_, V1, false, rfl, by unfold Gd.vlt; rw [← H.out.2]; exact H1.out.1, H1.out.2.2, H1.out.2.1, fun h => by rw [H.out.2] at h; cases h⟩
   ·have u2 : ((e1 : Int) != 7) = true := by simp; omega
    clear h7
    have q2 := H1.out.1.blk.cell 2
    have f2 := H1.out.1.blk.frozen 2
    simp only [Gd.cells, List.getElem?_cons_succ, List.getElem?_cons_zero] at q2
    have b2 := H1.out.1.blk.set 2 (.bool true)
    have c2 : Chg [nb] w1 (w1.setCell ⟨nb, 2, none⟩ (.bool true)) := (Chg.refl [nb] w1).setCell (p := ⟨nb, 2, none⟩) (Or.inl (by simp)) _
    have h2 := H1.out.1.own (G' := G.vlt V1 true) c2 b2 rfl
    have H2 := hide (And.intro h2 (H1.out.2.1.trans (GS.own c2)))
    clear he b2 c2 h2
    go_wp2
    go_ret
    exact ⟨_, V1, true, rfl, H2.out.1, H1.out.2.2, H2.out.2, fun _ => rfl⟩
end
end Go.Proofs.YteppdlkmjgladaaGreat

namespace Go.Proofs.YteppdlkmjgladaaGreat
open Go.RowKit Go.Proofs Go.Maps
set_option linter.unusedVariables false
set_option linter.unusedSimpArgs false

def Gd.on (G : Gd) (n : Nat) : Gd := { G with m := { G.m with on := n } }
def GO (j : Nat) (w w' : World) (nb : Nat) (q : Gl) (G : Gd) : Prop := ∃ q' n, GP w' nb q' (G.on n) ∧ GS w w' nb q q' ∧ n ≤ G.m.on + j
theorem Tryz.infoPost : (Tryz.prog.info? 138).map (fun i => (i.zero, i.size, i.bytes)) = some (some (.agg #[.int .i64 0, .int .i64 0, .slice none 0 0, .slice none 0 0, .slice none 0 0]), 5, 88) := by kernel_rfl
section
variable {w w' w1 w2 : World} {nb : Nat} {q q' q1 q2 : Gl} {G G' : Gd} {j : Nat}
theorem GO.stay (h : GP w nb q G) (hb : Below w.heap.size w w') : GO j w w' nb q G := ⟨q, G.m.on, h.below hb, GS.stay hb, by omega⟩
theorem GO.first (hb : Below w.heap.size w w1) (h : GO j w1 w2 nb q G) : GO j w w2 nb q G := by
 obtain ⟨q', n, h1, h2, h3⟩ := h
 exact ⟨q', n, h1, (GS.stay hb).trans h2, h3⟩
theorem GS.ob {Ao : Option Addr} {co : Nat} (hc : Chg (nb :: q.ob) w w') (hf : ∀ x ∈ (Ao.map Addr.block).toList, x ∈ q.ob ∨ w.heap.size ≤ x) : GS w w' nb q { q with Ao := Ao, co := co } := by
 refine ⟨hc.mono (fun x hx => Or.inl (gt_mem.2 ((List.mem_cons.1 hx).imp id (fun h => Or.inr (Or.inr (Or.inl h)))))), fun x hx => ?_, fun x hx => Or.inl hx⟩
 rcases gt_mem.1 hx with h | h | h | h | h | h
 ·exact Or.inl (gt_mem.2 (Or.inl h))
 ·exact Or.inl (gt_mem.2 (Or.inr (Or.inl h)))
 ·exact Or.inl (gt_mem.2 (Or.inr (Or.inr (Or.inl h))))
 ·exact (hf x h).imp (fun h => gt_mem.2 (Or.inr (Or.inr (Or.inr (Or.inl h))))) id
 ·exact Or.inl (gt_mem.2 (Or.inr (Or.inr (Or.inr (Or.inr (Or.inl h))))))
 ·exact Or.inl (gt_mem.2 (Or.inr (Or.inr (Or.inr (Or.inr (Or.inr h))))))
set_option maxHeartbeats 4000000 in
set_option maxRecDepth 100000 in
theorem gsend_calls (h : GP w nb q G) (hon : G.m.on ≤ 2000000) (tn k : Int) (A1 A2 A3 : Option Addr) (n1 n2 n3 c1 c2 c3 : Nat) :
  Calls Tryz.prog 97 #[.pointer (some ⟨nb, 0, none⟩), .int .i64 tn, .agg #[.int .i64 k, .slice A1 n1 c1, .slice A2 n2 c2, .slice A3 n3 c3]] w fun e w' => e = .returned (.tuple #[]) ∧ GO 1 w w' nb q G := by
 have r0 := Below.refl w.heap.size w
 obtain ⟨w0, hw0⟩ : ∃ w0, w.alloc (.cells #[.int .i64 k, .slice A1 n1 c1, .slice A2 n2 c2, .slice A3 n3 c3] 52) = w0 := ⟨_, rfl⟩
 obtain ⟨xb, hxb⟩ : ∃ xb, w.heap.size = xb := ⟨_, rfl⟩
 have hb0 : Below w.heap.size w w0 := hw0 ▸ belowL r0 _
 have bX : Blk w0 xb 52 [.int .i64 k, .slice A1 n1 c1, .slice A2 n2 c2, .slice A3 n3 c3] := by rw [← hw0, ← hxb]; exact Blk.new rfl
 have h0 := h.below hb0
 have y2 : w0.cell? ⟨nb, 2, none⟩ = some (.bool G.dead) := h0.blk.cell 2
 have y0 : w0.cell? ⟨nb, 0, none⟩ = some (.int .i64 G.id) := h0.blk.cell 0
 obtain ⟨dd, hdd⟩ : ∃ dd, G.dead = dd := ⟨_, rfl⟩
 rw [hdd] at y2
 have HW := hide (And.intro hw0 hxb)
 have HS := hide (GO.stay (j := 1) h hb0)
 have H := hide (And.intro h0 (And.intro hb0 (And.intro bX hon)))
 clear h h0 hb0 bX hon hdd hw0 hxb
 cases dd with
 |true =>
  go_enter Tryz.func97, Tryz.ntmps97
  go_upto_region 1 with fail
  (try rw [HW.out.1])
  (try rw [HW.out.2])
  go_wp2
  go_end0
  exact ⟨rfl, HS.out⟩
 |false =>
  by_cases hto : tn = G.id
  ·have u1 : (tn != G.id) = false := by simp [hto]
   clear hto
   go_enter Tryz.func97, Tryz.ntmps97
   go_upto_region 1 with fail
   (try rw [HW.out.1])
   (try rw [HW.out.2])
   go_wp2
   go_end0
   exact ⟨rfl, HS.out⟩
  ·have u1 : (tn != G.id) = true := by simpa using hto
   clear hto
   go_enter Tryz.func97, Tryz.ntmps97
   go_upto_region 1 with fail
   (try rw [HW.out.1])
   (try rw [HW.out.2])
   go_upto_region 2 with fail
   clear y0 y2
   obtain ⟨i0, hi0, hz0, hs0, hbb0⟩ := info_parts Tryz.infoPost
   have r4 := Below.refl w0.heap.size w0
   have z20 := H.out.1.blk.rule 20 _ rfl
   have x0 := H.out.2.2.1.rule 0 _ rfl
   have x1 := H.out.2.2.1.rule 1 _ rfl
   have x2 := H.out.2.2.1.rule 2 _ rfl
   have x3 := H.out.2.2.1.rule 3 _ rfl
   obtain ⟨xs, ho⟩ := H.out.1.out
   have hon := H.out.2.2.2
   obtain ⟨wn, hwn⟩ : ∃ wn, (w0.alloc (.cells #[.int .i64 tn, .int .i64 k, .slice A1 n1 c1, .slice A2 n2 c2, .slice A3 n3 c3] 138)).drew = wn := ⟨_, rfl⟩
   have hbl : Below w0.heap.size w0 wn := by rw [← hwn]; exact (belowL r4 _).drew
   have bNew : Blk wn w0.heap.size 138 [.int .i64 tn, .int .i64 k, .slice A1 n1 c1, .slice A2 n2 c2, .slice A3 n3 c3] := by rw [← hwn]; exact (Blk.new rfl).drewT
   have HRW := hide (own_chg ho (Chg.of_below (L := []) hbl) (fun _ _ hx => by cases hx))
   have HRD : Hid (Reads wn (w0.heap.size + 1) 5 (some ⟨w0.heap.size, 0, none⟩) 1 [.int .i64 tn, .int .i64 k, .slice A1 n1 c1, .slice A2 n2 c2, .slice A3 n3 c3]) := hide ⟨rfl, fun _ => ⟨w0.heap.size, 0, rfl, by omega, fun j u hu => by rw [Nat.zero_add, bNew.cell j]; exact hu⟩⟩
   have HON : Hid (∀ u ∈ ([.int .i64 tn, .int .i64 k, .slice A1 n1 c1, .slice A2 n2 c2, .slice A3 n3 c3] : List Value), u.oneCell' = true) := hide (fun u hu => by (simp only [List.mem_cons, List.not_mem_nil, or_false] at hu; rcases hu with rfl | rfl | rfl | rfl | rfl <;> rfl))
   have HBN := hide (H.out.1.below hbl)
   have HBL := hide hbl
   have HWN := hide hwn
   have HNB : Hid (nb ∉ (Value.slice q.Ao G.m.on q.co).ownBlock.toList) := hide (fun hx => (H.out.1.sep.o nb (by rw [owS] at hx; exact hx)).1 rfl)
   clear hbl bNew hwn ho
   refine lxR (fun w' => Below w0.heap.size w0 w') [9] 0 [(2, 0), (2, 1), (2, 2), (2, 3), (0, 4), (2, 5), (0, 6), (2, 7), (1, 8), (3, 9), (2, 10), (2, 11), (3, 12)] #[true, true, true, true, true, true, true, true, true, true, true, true, true] (by kernel_rfl) (by kernel_rfl) (by decide) (by kernel_rfl) (by kernel_rfl) (fun _ _ _ _ _ h => h) (by (first | exact r4.drew | exact belowL r4 _ | exact belowL r4.drew _ | exact (belowL r4 _).drew)) (fun hS0 => ?_)
   simp only [List.map_cons, List.map_nil, List.getElem?_toArray, List.getElem?_cons_succ, List.getElem?_cons_zero]
   (iterate 4 ((apply lxP (by rfl); (focus (intro w; go_simp; (try with_reducible rfl); done)); simp only [Act.put, zA33, zB33, zC33]))); (apply lxT (by rfl); (focus (intro w hw; (try dsimp only at hw); go_simp; (try with_reducible rfl); done)); simp only [Act.put, zA33, zB33, zC33]); (apply lxP (by rfl); (focus (intro w; go_simp; (try with_reducible rfl); done)); simp only [Act.put, zA33, zB33, zC33]); (apply lxT (by rfl); (focus (intro w hw; (try dsimp only at hw); go_simp; (try with_reducible rfl); done)); simp only [Act.put, zA33, zB33, zC33]); (apply lxP (by rfl); (focus (intro w; go_simp; (try with_reducible rfl); done)); simp only [Act.put, zA33, zB33, zC33]); (refine lxE (by rfl) ?_; go_simp; refine lxB (by (first | exact r4.drew | exact belowL r4 _ | exact belowL r4.drew _ | exact (belowL r4 _).drew)) (fun hS1 => ?_)); (refine lxF (by rfl) ?_; (rw [HWN.out]; refine wp_append_rd _ _ _ 95 rfl 138 i0 _ 5 88 Tryz.underlying95 hi0 hz0 hs0 hbb0 (by kernel_rfl) (by decide) (.slice q.Ao G.m.on q.co) G.m.on xs rfl HRW.out (some ⟨w0.heap.size, 0, none⟩) 1 1 (w0.heap.size + 1) [.int .i64 tn, .int .i64 k, .slice A1 n1 c1, .slice A2 n2 c2, .slice A3 n3 c3] rfl HRD.out HON.out (by unfold maxLen; omega) (by omega) ?_; intro v5 w5 ho5 hc5 hg5; obtain ⟨A5, c5, rfl, _⟩ := own_view ho5; have b5 := HBN.out.blk.chg hc5 HNB.out; have t20 := b5.cell 20; have f20 := b5.frozen 20; simp only [Gd.cells, List.getElem?_cons_succ, List.getElem?_cons_zero] at t20; have H5 := hide (And.intro ho5 (And.intro hc5 (And.intro hg5 b5))); clear ho5 hc5 hg5 b5); simp only [Act.put, zA33, zB33, zC33]); (iterate 2 ((apply lxP (by rfl); (focus (intro w; go_simp; (try with_reducible rfl); done)); simp only [Act.put, zA33, zB33, zC33]))); (refine lxF (by rfl) ?_; go_simp)
   refine lxN (fun _ => wqD (by kernel_rfl) ?_ _)
   obtain ⟨w6, hw6⟩ : ∃ w6, w5.setCell ⟨nb, 20, none⟩ (.slice A5 (G.m.on + 1) c5) = w6 := ⟨_, rfl⟩
   have c6 : Chg [nb] w5 w6 := by rw [← hw6]; exact (Chg.refl [nb] w5).setCell (p := ⟨nb, 20, none⟩) (Or.inl (by simp)) _
   have b6 := H5.out.2.2.2.set 20 (.slice A5 (G.m.on + 1) c5)
   rw [hw6] at b6
   rw [hw6]
   have c5n := H5.out.2.1
   rw [owS] at c5n
   have c56 : Chg (nb :: q.ob) wn w6 := (c5n.mono (L' := nb :: q.ob) (fun x hx => Or.inl (List.mem_cons_of_mem _ hx))).trans c6 (fun x hx => Or.inl (by rw [List.mem_singleton.1 hx]; simp))
   have hf5 : ∀ x ∈ (A5.map Addr.block).toList, x ∈ q.ob ∨ wn.heap.size ≤ x := fun x hx => by
    rcases H5.out.2.2.1 x (by rw [owS]; simpa using hx) with h1 | h1
    ·rw [owS] at h1
     exact Or.inl (by unfold Gl.ob; rw [h1]; simp)
    ·exact Or.inr (by omega)
   have ho6 := own_chg H5.out.1 c6 (fun g hg hx => by
    rw [owS] at hg
    have h1 : g = nb := List.mem_singleton.1 hx
    rcases H5.out.2.2.1 g (by rw [owS]; exact hg) with h2 | h2
    ·exact HNB.out (by rw [← h1, h2]; simp)
    ·have := HBN.out.lt nb (List.mem_append_left _ (gt_mem.2 (Or.inl rfl))); omega)
   have h6 := HBN.out.outT b6 ho6 c56 hf5
   have HF : Hid (GO 1 w w6 nb q G) := hide ⟨_, G.m.on + 1, h6, (GS.stay (belowA HBL.out H.out.2.1)).trans (GS.ob c56 hf5), Nat.le_refl _⟩
   clear hw6 c6 b6 c5n c56 hf5 ho6 h6 H5
   go_wp2
   go_end0
   exact ⟨rfl, HF.out⟩
end
end Go.Proofs.YteppdlkmjgladaaGreat

namespace Go.Proofs.YteppdlkmjgladaaGreat
open Go.RowKit Go.Proofs Go.Maps
set_option linter.unusedVariables false
set_option linter.unusedSimpArgs false

def AppI (w w' : World) (A : Option Addr) (L : List Int) (A3 : Option Addr) (c3 : Nat) : Prop :=
 w'.ownsRow 0 3 1 (.slice A3 L.length c3) L.length (L.map (Value.int .i64)) ∧ Chg (A.map Addr.block).toList w w' ∧ ∀ g, A3.map Addr.block = some g → A.map Addr.block = some g ∨ w.heap.size ≤ g
theorem wpList_appendI2 {ops : Array Oper} {rest : List Oper} {o : Oper} {a : Act} {Q : Exit → Act → World → Prop} {w2 : World} (hgd : o.guard = none) (s x : Operand)
  (ho : o.op = .call { callee := .builtin .append, args := #[s, x], argTypes := #[22, 22] }) {A : Option Addr} {c : Nat} {L : List Int} {t : Int}
  (hO : w2.ownsRow 0 3 1 (.slice A L.length c) L.length (L.map (Value.int .i64))) (hl : L.length ≤ 100000) (hs : a.eval s = .slice A L.length c) (hx : a.eval x = .slice (some ⟨w2.heap.size, 0, none⟩) 1 1)
  (h : ∀ A3 c3 w', AppI w2 w' A (L ++ [t]) A3 c3 →
   wpList Tryz.prog ops Q rest (a.put o.dst (.slice A3 (L.length + 1) c3)) w') : wpList Tryz.prog ops Q (o :: rest) a (w2.alloc (.cells #[.int .i64 t] 3)) := by
 obtain ⟨iS, hiS, hzS, hz1S, hz2S⟩ := info_parts Tryz.infoI3
 have hwA : Below w2.heap.size w2 (w2.alloc (.cells #[.int .i64 t] 3)) := belowL (Below.refl _ _) _
 have x2' := own_chg hO (Chg.of_below (L := []) hwA) (fun _ _ hx => by cases hx)
 have bN : Blk (w2.alloc (.cells #[.int .i64 t] 3)) w2.heap.size 3 [.int .i64 t] := Blk.new rfl
 refine wpList_append_rd hgd s x 22 ho 3 iS _ 1 8 Tryz.underlying22 hiS hzS hz1S hz2S rfl (by decide) (.slice A L.length c) L.length (L.map (Value.int .i64)) hs x2' (some ⟨w2.heap.size, 0, none⟩) 1 1 (w2.heap.size + 1) [.int .i64 t] hx ⟨rfl, fun _ => ⟨w2.heap.size, 0, rfl, by omega, fun j u hu => by rw [Nat.zero_add, bN.cell j]; exact hu⟩⟩ (by intro u hu; simp at hu; subst hu; rfl) (by unfold maxLen; omega) (by omega) ?_
 intro v3 w3 ho3 hc3 hg3
 obtain ⟨A3, c3, rfl, _⟩ := own_view ho3
 rw [owS] at hc3
 refine h A3 c3 w3 ⟨by simpa using ho3, (Chg.of_below hwA).trans hc3 (fun z hz => Or.inl hz), fun g hg => ?_⟩
 rcases hg3 g (by rw [owS]; exact hg) with h | h
 ·rw [owS] at h
  exact Or.inl h
 ·exact Or.inr (by rw [h]; exact hwA.size)
def memOk (l : List Int) : Prop := l.length ≤ 7 ∧ ∀ x ∈ l, 0 ≤ x ∧ x ≤ 15
theorem RightP.mem {l : List Int} (h : RightP l) : memOk l := by
 refine ⟨h.2.2, fun x hx => ?_⟩
 obtain ⟨i, hi, rfl⟩ := List.mem_iff_getElem.1 hx
 have := (h.1 i hi).1
 rw [List.getD_eq_getElem?_getD, List.getElem?_eq_getElem hi] at this
 exact this
structure QR (w wr : World) (b : Nat) (A : Option Addr) (c : Nat) (l : List Int) (r : Rdr) : Prop where
 own : OwnI w wr A c l
 ro : RO wr b (A.map Addr.block).toList r
 be : Below w.heap.size w wr
 b : w.heap.size ≤ b
 n : r.b.length ≤ 140737488355328
section
variable {w wr w2 : World} {b c : Nat} {A : Option Addr} {l : List Int} {r : Rdr}
theorem QR.nb (h : QR w wr b A c l r) : ∀ g, A.map Addr.block = some g → g ≠ b := fun g hg e => by
 obtain ⟨A1, c1, ⟨h1, _, _⟩, _⟩ := h.ro
 subst e
 exact absurd (own_typed h.own.1 hg h1) (by decide)
theorem QR.num (h : QR w wr b A c l r) (most : Nat) (hm : most < 2 ^ 63) : Calls Tryz.prog 77 #[.pointer (some ⟨b, 0, none⟩), .int .i64 (most : Int)] wr fun e w' => ∃ k : Nat, e = .returned (.int .i64 (k : Int)) ∧ k ≤ most ∧ QR w w' b A c l (r.num most).2 := by
 refine (rnum_callsB wr b _ r most h.ro h.n hm).mono ?_
 rintro e w' ⟨rfl, h1, h2⟩
 exact ⟨_, rfl, Rdr.num_le most, ⟨own_chg h.own.1 h2 (fun g hg hx => by rw [owS] at hg; exact h.nb g hg (List.mem_singleton.1 hx)), h.own.2⟩, h1, Chg.onto h.be h.be.size h2 (fun z hz => by rw [List.mem_singleton.1 hz]; exact h.b), h.b, Nat.le_trans (Rdr.num_len most) h.n⟩
theorem QR.push (h : QR w wr b A c l r) {A3 : Option Addr} {c3 : Nat} {t : Int} (ho : w2.ownsRow 0 3 1 (.slice A3 (l ++ [t]).length c3) (l ++ [t]).length ((l ++ [t]).map (Value.int .i64))) (hc : Chg (A.map Addr.block).toList wr w2) (hg : ∀ g, A3.map Addr.block = some g → A.map Addr.block = some g ∨ wr.heap.size ≤ g) : QR w w2 b A3 c3 (l ++ [t]) r := by
 have hbn : b ∉ (A.map Addr.block).toList := fun hx => h.nb b (by simpa using hx) rfl
 refine ⟨⟨ho, fun g h1 => (hg g h1).elim (h.own.2 g) (fun e => Nat.le_trans h.be.size e)⟩, ?_, Chg.onto h.be h.be.size hc (fun z hz => h.own.2 z (by simpa using hz)), h.b, h.n⟩
 have h1 : RO wr b ((A.map Addr.block).toList ++ (A3.map Addr.block).toList) r := h.ro.plus (fun x hx => by
  rcases List.mem_append.1 hx with h2 | h2
  ·exact Or.inl h2
  ·exact (hg x (by simpa using h2)).imp (fun e => by rw [e]; simp) id)
 obtain ⟨A1, c1, hrd, hno⟩ := h1
 have h2 : RO w2 b (A.map Addr.block).toList r := h.ro.chg hc hbn (fun x hx => Or.inl hx)
 have h3 : RO w2 b ((A.map Addr.block).toList ++ (A3.map Addr.block).toList) r := (RO.chg ⟨A1, c1, hrd, hno⟩ hc hbn (fun x hx => Or.inl (List.mem_append_left _ hx)))
 obtain ⟨A4, c4, h5, h6⟩ := h3
 exact ⟨A4, c4, h5, fun a ha hx => h6 a ha (List.mem_append_right _ hx)⟩
set_option maxHeartbeats 2000000 in
set_option maxRecDepth 100000 in
theorem qread_calls (w : World) (A : Option Addr) (c : Nat) (L : List Nat) (h : Reads w w.heap.size 1 A L.length (bys L)) (hl : L.length ≤ 140737488355328) (hb : ∀ x ∈ L, x < 256) :
  Calls Tryz.prog 81 #[.slice A L.length c] w fun e w' => ∃ A' c' l ok, e = .returned (.tuple #[.slice A' l.length c', .bool ok]) ∧ OwnI w w' A' c' l ∧ memOk l ∧ Below w.heap.size w w' := by
 have HRD := hide (rread_callsB w [] (by simp) A c L h hl hb)
 have HL := hide hl
 clear h hb hl
 go_enter Tryz.func81, Tryz.ntmps81
 go_wp2_with fail
 with_reducible refine HRD.out.mono ?_
 rintro e w1 ⟨b, rfl, hro, hwb, hb1⟩
 have hq : QR w w1 b none 0 [] ⟨L, 0⟩ := ⟨⟨ownsRow_nil _ _ _, fun g hg => by cases hg⟩, by simpa using hro, hb1, hwb, HL.out⟩
 have HN : Hid (Calls Tryz.prog 77 #[.pointer (some ⟨b, 0, none⟩), .int .i64 7] w1 _) := hide (hq.num 7 (by omega))
 clear hro hwb hb1 hq HRD
 go_wp2_with fail
 with_reducible refine HN.out.mono ?_
 rintro e w2 ⟨n, rfl, hn7, hq2⟩
 obtain ⟨r2, hr2⟩ : ∃ r2, (Rdr.num ⟨L, 0⟩ 7).2 = r2 := ⟨_, rfl⟩
 rw [hr2] at hq2
 have HQ2 := hide hq2
 clear hq2 hr2 HN
 go_wp2
 go_loopw [5, 10, 11, 12, 13, 14, 15, 16, 17] (fun ov iv _ _ _ _ _ _ _ wr => ∃ (k : Nat) (A : Option Addr) (c : Nat) (l : List Int) (r : Rdr), k ≤ n ∧ iv = .int .i64 k ∧ ov = .slice A l.length c ∧ Hid (l.length = k ∧ (∀ x ∈ l, 0 ≤ x ∧ x ≤ 15)) ∧ Hid (QR w wr b A c l r)) (fun ov iv _ _ _ _ _ _ _ _ => n - (Go.RowKit.intOf iv).toNat)
 case atStart => exact ⟨0, none, 0, [], r2, Nat.zero_le _, rfl, rfl, hide ⟨rfl, by simp⟩, HQ2⟩
 case round =>
  obtain ⟨k, A, c, l, r, hk, rfl, rfl, hl, hQ⟩ := hrel
  by_cases hlt : k < n
  ·have i1 : (k : Int) < n := by omega
   have HN : Hid (Calls Tryz.prog 77 #[.pointer (some ⟨b, 0, none⟩), .int .i64 15] wr _) := hide (hQ.out.num 15 (by omega))
   clear hQ
   go_wp2_with fail
   with_reducible refine HN.out.mono ?_
   rintro e w3 ⟨x, rfl, hx, hq3⟩
   have HQ3 := hide hq3
   have HX := hide hx
   have HLl := hide (show l.length ≤ 100000 by rw [hl.out.1]; omega)
   clear hq3 hx HN
   go_wp2_with (at_builtin; refine wpList_appendI2 rfl _ _ rfl HQ3.out.own.1 HLl.out rfl rfl ?_)
   intro A4 c4 w4 ho4
   have HQ4 := hide (HQ3.out.push ho4.1 ho4.2.1 ho4.2.2)
   clear ho4 HQ3
   go_wp2
   go_roundw
   case rel => exact ⟨k + 1, A4, c4, l ++ [(x : Int)], _, by omega, by go_num, by first | rfl | simp, hide ⟨by simp [hl.out.1], fun y hy => by
    rcases List.mem_append.1 hy with h | h
    ·exact hl.out.2 y h
    ·rw [List.mem_singleton.1 h]; have := HX.out; omega⟩, HQ4⟩
   case measure => simp [Go.RowKit.intOf]; omega
  ·have i1 : ¬ (k : Int) < n := by omega
   have HE := hide (rend_calls wr b _ r hQ.out.ro)
   clear hlt
   go_wp2_with fail
   with_reducible refine HE.out.mono ?_
   rintro e w3 ⟨rfl, _, hc3⟩
   obtain ⟨fe, hfe⟩ : ∃ fe, r.fin = fe := ⟨_, rfl⟩
   rw [hfe]
   have hq := hQ.out
   have hown : OwnI w w3 A c l := ⟨own_chg hq.own.1 hc3 (fun g hg hx => by rw [owS] at hg; exact hq.nb g hg (List.mem_singleton.1 hx)), hq.own.2⟩
   have hbe : Below w.heap.size w w3 := Chg.onto hq.be hq.be.size hc3 (fun z hz => by rw [List.mem_singleton.1 hz]; exact hq.b)
   have HQR := hide (qright_calls (hown.sl (no := []) (by rw [hl.out.1]; omega) (by simp)))
   have HF := hide (And.intro hown hbe)
   clear hfe hc3 hq hown hbe HE hQ
   by_cases h0 : fe = 0
   ·subst h0
    go_wp2_with fail
    with_reducible refine HQR.out.mono ?_
    rintro e w4 ⟨rfl, rfl⟩
    by_cases hr : RightP l
    ·have hm := hide hr.mem
     rw [decide_eq_true hr]
     clear hr
     go_wp2
     go_ret2
     exact ⟨A, c, l, true, rfl, HF.out.1, hm.out, HF.out.2⟩
    ·rw [decide_eq_false hr]
     clear hr
     go_wp2
     go_ret2
     exact ⟨none, 0, [], false, rfl, ⟨ownsRow_nil _ _ _, fun g hg => by cases hg⟩, ⟨by simp, by simp⟩, HF.out.2⟩
   ·have u1 : ((fe : Int) != 0) = true := by simp; omega
    clear h0
    go_wp2
    go_ret2
    exact ⟨none, 0, [], false, rfl, ⟨ownsRow_nil _ _ _, fun g hg => by cases hg⟩, ⟨by simp, by simp⟩, HF.out.2⟩
end
end Go.Proofs.YteppdlkmjgladaaGreat

namespace Go.Proofs.YteppdlkmjgladaaGreat
open Go.RowKit Go.Proofs Go.Maps
set_option linter.unusedVariables false
set_option linter.unusedSimpArgs false

def ConG (L : List Con) : Prop := ∀ c ∈ L, ∃ (t k : Nat) (b : List Nat), c = ((t : Int), (k : Int), bi b) ∧ t < 2 ^ 59 ∧ k < 2 ^ 59 ∧ b.length ≤ 50000 ∧ ∀ x ∈ b, x < 256
theorem ConG.few {L : List Con} (h : ConG L) : FewC L := fun c hc => by
 obtain ⟨t, k, b, rfl, _, _, hb, _⟩ := h c hc
 simp only [bi_len]
 omega
structure MI (u : Nat) (m : Gm) : Prop where
 si : 0 ≤ m.si ∧ m.si ≤ 549755813888
 st : 0 ≤ m.st ∧ m.st ≤ 549755813888
 li : m.li = m.si
 lt : m.lt = m.st
 sm : memOk m.sm
 sb : m.sb.length ≤ 700
 L : ConG m.L
 n : m.L.length ≤ 20 * u
 votes : m.votes.length ≤ u ∧ ∀ x ∈ m.votes, 0 ≤ x ∧ x ≤ 15
 next : ∀ x, 0 ≤ (m.next x).getD 0 ∧ (m.next x).getD 0 ≤ 2199023255552
 mat : ∀ x, 0 ≤ (m.mat x).getD 0 ∧ (m.mat x).getD 0 ≤ 2199023255552
 on : m.on ≤ 100 * u
structure GI (u : Nat) (G : Gd) : Prop where
 id : 0 ≤ G.id ∧ G.id ≤ 15
 bt : 0 ≤ G.bt ∧ G.bt ≤ 1099511627776 + u
 bv : -1 ≤ G.bv ∧ G.bv ≤ 15
 com : 0 ≤ G.commit ∧ G.commit ≤ 2199023255552
 told : 0 ≤ G.told ∧ G.told ≤ 2199023255552
 quiet : 0 ≤ G.quiet ∧ G.quiet ≤ u
 beats : 0 ≤ G.beats ∧ G.beats ≤ u
 m : MI u G.m
theorem MI.up {u v : Nat} {m : Gm} (h : MI u m) (hv : u ≤ v) : MI v m :=
 ⟨h.si, h.st, h.li, h.lt, h.sm, h.sb, h.L, by have := h.n; omega, ⟨by have := h.votes.1; omega, h.votes.2⟩, h.next, h.mat, by have := h.on; omega⟩
theorem GI.up {u v : Nat} {G : Gd} (h : GI u G) (hv : u ≤ v) : GI v G :=
 ⟨h.id, ⟨h.bt.1, by have := h.bt.2; omega⟩, h.bv, h.com, h.told, ⟨h.quiet.1, by have := h.quiet.2; omega⟩, ⟨h.beats.1, by have := h.beats.2; omega⟩, h.m.up hv⟩
theorem EntOk.byte {w : World} {t k : Int} {A : Option Addr} {c : Nat} {b : List Nat} (h : EntOk w ⟨t, k, A, c, bi b⟩) : ∀ x ∈ b, x < 256 := fun x hx => by
 have := h.2.2.1 (x : Int) (List.mem_map_of_mem hx)
 omega
section
variable {w w' : World} {nb u : Nat} {q : Gl} {G : Gd}
set_option maxHeartbeats 2000000 in
set_option maxRecDepth 100000 in
theorem gmem_calls (h : GP w nb q G) (hi : MI u G.m) (hu : u ≤ 10000) :
  Calls Tryz.prog 42 #[.pointer (some ⟨nb, 0, none⟩)] w fun e w' => ∃ A c l i, e = .returned (.tuple #[.slice A l.length c, .int .i64 i]) ∧ It w' A c l ∧ memOk l ∧ G.m.si ≤ i ∧ i ≤ G.m.si + G.m.L.length ∧ Below w.heap.size w w' := by
 have r0 := Below.refl w.heap.size w
 obtain ⟨n, hn⟩ : ∃ n, G.m.L.length = n := ⟨_, rfl⟩
 obtain ⟨B, hB⟩ : ∃ B, G.m.si = B := ⟨_, rfl⟩
 have hBb := hi.si
 rw [hB] at hBb
 have hnl : n ≤ 200000 := by have := hi.n; omega
 have HLA := lg_last h.log (by rw [hi.li]; exact hi.si.1) (by rw [hi.li]; have := hi.si.2; omega) (by omega)
 rw [hn, hi.li, hB] at HLA
 obtain ⟨tt, htt⟩ : ∃ tt, (G.m.L.getLast?.map (·.1)).getD G.m.lt = tt := ⟨_, rfl⟩
 rw [htt] at HLA
 obtain ⟨last, hlast⟩ : ∃ last, B + (n : Int) = last := ⟨_, rfl⟩
 rw [hlast] at HLA
 have HLA := hide HLA
 have y9 : w.cell? ⟨nb, 9, none⟩ = some (.pointer (some ⟨q.lb, 0, none⟩)) := h.blk.cell 9
 have H := hide (And.intro h (And.intro hi (And.intro hB hn)))
 have HBb := hide (And.intro hBb (And.intro hnl hlast))
 rw [hB, hn]
 clear h hi hn hB hBb hnl htt hlast
 go_enter Tryz.func42, Tryz.ntmps42
 go_wp2_with fail
 with_reducible refine HLA.out.mono ?_
 rintro e w1 ⟨rfl, q1, rfl⟩
 have HB1 := hide (below_drewN r0 q1)
 clear y9 HLA
 go_wp2
 go_loopw [6, 7, 8, 9, 10, 20, 21, 22, 23, 24, 25, 26, 27, 28, 29, 30, 31, 32, 33, 34, 35, 36, 37, 38, 39, 40, 41, 42, 43, 44, 45, 46] (fun iv _ _ _ _ _ _ _ _ _ _ _ _ _ _ _ _ _ _ _ _ _ _ _ _ _ _ _ _ _ _ _ wr => ∃ (k : Nat) (i : Int), k ≤ n ∧ iv = .int .i64 i ∧ Hid (i = B + k) ∧ Hid (Below w.heap.size w wr)) (fun iv _ _ _ _ _ _ _ _ _ _ _ _ _ _ _ _ _ _ _ _ _ _ _ _ _ _ _ _ _ _ _ _ => (Go.RowKit.intOf iv - B).toNat)
 case atStart => exact ⟨n, last, Nat.le_refl _, rfl, hide HBb.out.2.2.symm, HB1⟩
 case round =>
  obtain ⟨k, i, hkn, rfl, hik, HB⟩ := hrel
  have b1 := H.out.1.blk.below HB.out
  have y5 : wr.cell? ⟨nb, 5, none⟩ = some (.int .i64 B) := by have := b1.cell 5; simp only [Gd.cells, List.getElem?_cons_succ, List.getElem?_cons_zero, H.out.2.2.1] at this; exact this
  by_cases hlt : 0 < k
  ·have i1 : decide (B < i) = true := decide_eq_true (by have := hik.out; omega)
   have y9 : wr.cell? ⟨nb, 9, none⟩ = some (.pointer (some ⟨q.lb, 0, none⟩)) := b1.cell 9
   have hk1 : k - 1 < G.m.L.length := by rw [H.out.2.2.2]; omega
   have HG := hide (lg_get (i := i) (k - 1) (H.out.1.log.below HB.out) hk1 H.out.2.1.L.few (by rw [H.out.2.1.li]; exact H.out.2.1.si.1) (by rw [H.out.2.1.li]; have := H.out.2.1.si.2; omega) (by rw [H.out.2.2.2]; have := HBb.out.2.1; omega) (by rw [H.out.2.1.li, H.out.2.2.1]; have := hik.out; omega))
   obtain ⟨i2, hi2⟩ : ∃ i2, i - 1 = i2 := ⟨_, rfl⟩
   have c1 : IntKind.i64.wrap (i - 1) = i2 := by rw [IntWalk.i64_in _ (by have := hik.out; have := HBb.out; omega)]; exact hi2
   have HI2 := hide hi2
   clear b1 hi2
   go_wp2_with fail
   with_reducible refine HG.out.mono ?_
   rintro e w2 ⟨x, rfl, hxc, hxo, hb2⟩
   obtain ⟨xt, xk, xb, hxe, _, _, hx3, _⟩ := H.out.2.1.L G.m.L[k - 1] (List.getElem_mem _)
   rw [hxe] at hxc
   obtain ⟨zt, zk, zA, zc, zb⟩ := x
   simp only [Ent.con, Prod.mk.injEq] at hxc
   obtain ⟨rfl, rfl, rfl⟩ := hxc
   simp only [bi_len]
   obtain ⟨wA, hwA⟩ : ∃ wA, w2.alloc (.cells #[.int .i64 xt, .int .i64 xk, .slice zA xb.length zc] 73) = wA := ⟨_, rfl⟩
   have hbA : Below w2.heap.size w2 wA := hwA ▸ belowL (Below.refl _ _) _
   have HB2 := hide (belowA hbA (belowA hb2 HB.out))
   have HQR := hide (qread_calls wA zA zc xb (hxo.rb.below hbA).rd (by omega) hxo.byte)
   have HWA := hide hwA
   clear hxo hb2 HG y5 y9 hwA hbA hxe
   by_cases hk2 : xk = 2
   ·have u2 : ((xk : Int) == 2) = true := by rw [beq_iff_eq]; omega
    clear hk2
    go_wp2_with fail
    rw [HWA.out]
    with_reducible refine HQR.out.mono ?_
    rintro e w3 ⟨A3, c3, l3, ok3, rfl, ho3, hm3, hb3⟩
    have HF := hide (And.intro (ho3.it (by have := hm3.1; omega)) (And.intro hm3 (belowA hb3 HB2.out)))
    have HI := hide (And.intro hik.out hkn)
    clear ho3 hm3 hb3 HQR
    go_wp2
    go_ret2
    exact ⟨A3, c3, l3, i, rfl, HF.out.1, HF.out.2.1, by have := HI.out; omega, by have := HI.out; omega, HF.out.2.2⟩
   ·have u2 : ((xk : Int) == 2) = false := by rw [beq_eq_false_iff_ne]; omega
    clear hk2
    go_wp2
    rw [HWA.out]
    go_roundw
    case rel => exact ⟨k - 1, i2, by omega, rfl, hide (by have := HI2.out; have := hik.out; omega), HB2⟩
    case measure => have := HI2.out; have := hik.out; simp [Go.RowKit.intOf]; omega
  ·have i1 : decide (B < i) = false := decide_eq_false (by have := hik.out; omega)
   have r1 := Below.refl wr.heap.size wr
   have y7r := b1.rule 7 _ rfl
   have y5r := b1.rule 5 _ rfl
   have HF := hide (And.intro (H.out.1.sm.below HB.out) H.out.2.1.sm)
   rw [H.out.2.2.1] at y5r
   clear b1
   go_upto_region 9 with fail
   refine lxR (fun w' => Below wr.heap.size wr w') [] 0 [(2, 0), (2, 1), (2, 2), (2, 3), (0, 4), (2, 5), (2, 6), (2, 7), (2, 8), (0, 9), (2, 10), (2, 11)] #[true, true, true, true, true, true, true, true, true, true, true, true] (by kernel_rfl) (by kernel_rfl) (by decide) (by kernel_rfl) (by kernel_rfl) (fun _ _ _ _ _ h => h) (by (exact r1.drew)) (fun hS0 => ?_)
   simp only [List.map_cons, List.map_nil, List.getElem?_toArray, List.getElem?_cons_succ, List.getElem?_cons_zero]
   (iterate 4 ((apply lxP (by rfl); (focus (intro w; go_simp; (try with_reducible rfl); done)); simp only [Act.put, zA33, zB33, zC33]))); (apply lxT (by rfl); (focus (intro w hw; (try dsimp only at hw); go_simp; (try with_reducible rfl); done)); simp only [Act.put, zA33, zB33, zC33]); (iterate 4 ((apply lxP (by rfl); (focus (intro w; go_simp; (try with_reducible rfl); done)); simp only [Act.put, zA33, zB33, zC33]))); (apply lxT (by rfl); (focus (intro w hw; (try dsimp only at hw); go_simp; (try with_reducible rfl); done)); simp only [Act.put, zA33, zB33, zC33]); (iterate 2 ((apply lxP (by rfl); (focus (intro w; go_simp; (try with_reducible rfl); done)); simp only [Act.put, zA33, zB33, zC33])))
   refine lxN (fun _ => wqD (by kernel_rfl) ?_ _)
   go_wp2
   go_ret2
   exact ⟨q.Am, q.cm, G.m.sm, B, rfl, HF.out.1.below r1.drew, HF.out.2, Int.le_refl _, by omega, belowA r1.drew HB.out⟩
end
end Go.Proofs.YteppdlkmjgladaaGreat
