/- One text of: Ent Rlog Rlog2. -/
import Derived.Lib.SliceRun
import Derived.WalkMore
import Derived.Deep.LoopGhost
import Derived.Outline
import Derived.Deep.QuietTactic
import Derived.BigQuiet
import Derived.Deep.RegionHeld3
import Derived.Test.YtcahcjfgmdpdoaaGreatQBase
import Derived.Test.YtcahcjfgmdpdoaaGreatQRG
set_option maxHeartbeats 2000000
namespace Go.Proofs.YtcahcjfgmdpdoaaGreat
open Go.RowKit

structure Ent where
 t : Int
 k : Int
 A : Option Addr
 c : Nat
 b : List Int
def Ent.cells (e : Ent) : List Value := [.int .i64 e.t, .int .i64 e.k, .slice e.A e.b.length e.c]
def Ent.val (e : Ent) : Value := .agg #[.int .i64 e.t, .int .i64 e.k, .slice e.A e.b.length e.c]
def Ent.is (x y : Ent) : Prop := x.t = y.t ∧ x.k = y.k ∧ x.b = y.b
def ByteBlk (w : World) (b : Nat) : Prop := ∃ cs fr, w.heap[b]? = some (.cells cs 5 fr)
def BytesAt (w : World) (A : Option Addr) (bs : List Int) : Prop :=
 (∀ a, A = some a → ByteBlk w a.block) ∧ (0 < bs.length → ∃ b o, A = some ⟨b, o, none⟩ ∧ ByteBlk w b ∧ ∀ j x, bs[j]? = some x → w.cell? ⟨b, o + j, none⟩ = some (.int .u8 x))
def EntOk (w : World) (e : Ent) : Prop := e.b.length ≤ e.c ∧ e.c ≤ maxLen ∧ (∀ x ∈ e.b, 0 ≤ x ∧ x ≤ 255) ∧ (∀ a, e.A = some a → a.spot = none) ∧ BytesAt w e.A e.b
section
variable {L : List Nat} {w w' : World} {A : Option Addr} {bs : List Int} {e : Ent} {b : Nat}
theorem ByteBlk.lt (h : ByteBlk w b) : b < w.heap.size := by obtain ⟨cs, fr, h⟩ := h; exact heap_lt h
theorem ByteBlk.keep (h : ByteBlk w b) (hs : w'.heap[b]? = w.heap[b]?) : ByteBlk w' b := by obtain ⟨cs, fr, h⟩ := h; exact ⟨cs, fr, hs.trans h⟩
theorem BytesAt.keep (h : BytesAt w A bs) (hs : ∀ b, ByteBlk w b → w'.heap[b]? = w.heap[b]?) : BytesAt w' A bs := ⟨fun a ha => (h.1 a ha).keep (hs _ (h.1 a ha)), fun h0 => by
 obtain ⟨b, o, rfl, hb, hc⟩ := h.2 h0
 exact ⟨b, o, rfl, hb.keep (hs b hb), fun j x hx => (World.cell?_of_block (w := w) (a := ⟨b, o + j, none⟩) (hs b hb)).trans (hc j x hx)⟩⟩
theorem BytesAt.below (h : BytesAt w A bs) (hb : Below w.heap.size w w') : BytesAt w' A bs := h.keep fun b hb' => hb.block b hb'.lt
theorem BytesAt.chg (h : BytesAt w A bs) (hc : Chg L w w') (hL : ∀ x ∈ L, ¬ ByteBlk w x) : BytesAt w' A bs := h.keep fun b hb => hc.block b hb.lt fun hx => hL b hx hb
theorem EntOk.keep (h : EntOk w e) (hs : ∀ b, ByteBlk w b → w'.heap[b]? = w.heap[b]?) : EntOk w' e := ⟨h.1, h.2.1, h.2.2.1, h.2.2.2.1, h.2.2.2.2.keep hs⟩
theorem EntOk.below (h : EntOk w e) (hb : Below w.heap.size w w') : EntOk w' e := ⟨h.1, h.2.1, h.2.2.1, h.2.2.2.1, h.2.2.2.2.below hb⟩
theorem EntOk.chg (h : EntOk w e) (hc : Chg L w w') (hL : ∀ x ∈ L, ¬ ByteBlk w x) : EntOk w' e := ⟨h.1, h.2.1, h.2.2.1, h.2.2.2.1, h.2.2.2.2.chg hc hL⟩
theorem Blk.notByte {t : TypeId} {cs : List Value} (h : Blk w b t cs) (ht : t ≠ 5) : ¬ ByteBlk w b := by
 rintro ⟨cs', fr, h'⟩; have := h.symm.trans h'
 simp at this
 exact ht this.2.1
theorem BytesAt.addr (h : BytesAt w A bs) (h0 : 0 < bs.length) : ∃ b o, A = some ⟨b, o, none⟩ := by obtain ⟨b, o, h, _⟩ := h.2 h0; exact ⟨b, o, h⟩
theorem Ent.is.refl (x : Ent) : Ent.is x x := ⟨rfl, rfl, rfl⟩
end
theorem Tryz.infoByte : (Tryz.prog.info? 5).map (fun i => (i.zero, i.size, i.bytes)) = some (some (.int .u8 0), 1, 1) := by kernel_rfl

theorem cloneEB_nil (n c : Nat) (w : World) : Calls Tryz.prog 48 #[.slice none n c] w fun e w' => e = .returned (.slice none 0 0) ∧ w = w' := by
 have q22 : ∀ (w : World) (a : Option Addr) (n c n' c' : Nat), (binOp .eql 42 (.slice a n c) (.slice none n' c')).run Tryz.prog w = .ok (.bool a.isNone) w := fun w a n c n' c' => Lib.run_eql_slice_nil w _ _ a n c n' c' Tryz.underlying42
 go_enter Tryz.func48, Tryz.ntmps48
 go_wp2; go_ret
 exact ⟨rfl, rfl⟩
theorem cloneEB_some (b o : Nat) (bs : List Int) (c : Nat) (w : World) (hn : bs.length ≤ 1099511627776) (hc : ∀ j x, bs[j]? = some x → w.cell? ⟨b, o + j, none⟩ = some (.int .u8 x)) :
  Calls Tryz.prog 48 #[.slice (some ⟨b, o, none⟩) bs.length c] w fun e w' => ∃ v, e = .returned v ∧ w'.ownsRow 0 5 1 v bs.length (bs.map (Value.int .u8)) ∧ Below w.heap.size w w' := by
 have q22 : ∀ (w : World) (a : Option Addr) (n c n' c' : Nat), (binOp .eql 42 (.slice a n c) (.slice none n' c')).run Tryz.prog w = .ok (.bool a.isNone) w := fun w a n c n' c' => Lib.run_eql_slice_nil w _ _ a n c n' c' Tryz.underlying42
 obtain ⟨i0, hi, hz0, hz1, hz2⟩ := info_parts Tryz.infoByte; have HC := hide hc; clear hc
 go_enter Tryz.func48, Tryz.ntmps48
 go_wp2_with (at_builtin; refine wpList_append_own _ rfl _ _ 42 rfl 0 5 i0 (.int .u8 0) 1 1 Tryz.underlying42 hi hz0 hz1 hz2 rfl (by decide) _ _ _ rfl (World.ownsRow_made w #[] 0 (Nat.zero_le _) (Nat.zero_le _) (by simp)) ⟨b, o, none⟩ bs.length c (bs.map (Value.int .u8)) rfl ?qc1 ?qc2 ?qc3 ?qc4 ?qc5 ?qc6 ?_)
 case qc1 => simp
 case qc2 =>
  intro j u hj
  rw [add_addr]; rw [List.getElem?_map] at hj
  cases hx : bs[j]? with
  |none => rw [hx] at hj; cases hj
  |some x =>
   rw [hx] at hj; simp only [Option.map_some, Option.some.injEq] at hj; subst hj
   exact Lib.cell?_alloc_some _ (HC.out j x hx)
 case qc3 =>
  intro u hu
  obtain ⟨x, _, rfl⟩ := List.mem_map.1 hu
  rfl
 case qc4 => unfold maxLen; omega
 case qc5 => omega
 case qc6 => simp
 intro v' w1 hown hgrow hnil
 go_wp2; go_ret
 exact ⟨v', rfl, by simpa using hown, ((Below.refl _ w).alloc (Nat.le_refl _) _).grown hgrow (by simp) (by intro k hk; simp [Value.ownBlock] at hk; omega)⟩
theorem own_byteBlk {w : World} {base n : Nat} {v : Value} {xs : List Value} (h : w.ownsRow base 5 1 v n xs) {g : Nat} (hg : v.ownBlock = some g) : ByteBlk w g := by
 rcases h.2 with ⟨rfl, _⟩ | ⟨g', cap, cur, rfl, _, hh, _⟩
 ·cases hg
 ·cases hg
  exact ⟨_, _, hh⟩
theorem cloneEB_calls (A : Option Addr) (bs : List Int) (c : Nat) (w : World) (hn : bs.length ≤ 1099511627776) (hb : BytesAt w A bs) (hA : ∀ a, A = some a → a.spot = none) :
  Calls Tryz.prog 48 #[.slice A bs.length c] w fun e w' => ∃ A' c', e = .returned (.slice A' bs.length c') ∧ bs.length ≤ c' ∧ c' ≤ maxLen ∧ BytesAt w' A' bs ∧ (∀ a, A' = some a → a.spot = none) ∧ Below w.heap.size w w' := by
 cases A with
 |none =>
  have h0 : bs.length = 0 := by
   rcases Nat.eq_zero_or_pos bs.length with h | h
   ·exact h
   ·obtain ⟨b, o, h⟩ := hb.addr h
    cases h
  refine (cloneEB_nil bs.length c w).mono fun e w' ⟨he, hw⟩ => ?_
  subst hw
  exact ⟨none, 0, by rw [h0]; exact he, by omega, by unfold maxLen; omega, ⟨(fun a h => by cases h), fun h => absurd h (by omega)⟩, (fun a h => by cases h), Below.refl _ _⟩
 |some a =>
  obtain ⟨b, o, s⟩ := a; obtain rfl : s = none := hA _ rfl
  refine (cloneEB_some b o bs c w hn fun j x hx => ?_).mono fun e w' ⟨v, he, hown, hbel⟩ => ?_
  ·obtain ⟨b', o', e, _, h⟩ := hb.2 (by have := (List.getElem?_eq_some_iff.1 hx).1; omega)
   injection e with e
   injection e with e1 e2
   subst e1 e2
   exact h j x hx
  ·obtain ⟨A', c', rfl, h1, h2, h3, h4, h5⟩ := own_view hown
   refine ⟨A', c', he, h1, h2, ⟨fun a ha => own_byteBlk hown (by rw [h3, ha]; rfl), fun h0 => ?_⟩, ?_, hbel⟩
   ·obtain ⟨b', o', rfl, _, hcell⟩ := (h5 w'.heap.size (fun g hg => own_lt hown hg)).2 h0
    refine ⟨b', o', rfl, own_byteBlk hown (by rw [h3]; rfl), fun j x hx => hcell j _ ?_⟩
    rw [List.getElem?_map, hx]; rfl
   ·intro a ha
    subst ha
    rcases hown.2 with ⟨e, _⟩ | ⟨g, cap, cur, e, _⟩ <;> cases e
    rfl

theorem Ent.look (e : Ent) : e.val = .agg #[.int .i64 e.t, .int .i64 e.k, .slice e.A e.b.length e.c] := rfl
theorem own_calls (x : Ent) (w : World) (h : EntOk w x) (hn : x.b.length ≤ 1099511627776) :
  Calls Tryz.prog 133 #[x.val] w fun e w' => ∃ y : Ent, e = .returned y.val ∧ x.is y ∧ EntOk w' y ∧ Below w.heap.size w w' := by
 rw [x.look]; obtain ⟨h1, h2, h3, h4, h5⟩ := h
 go_enter Tryz.func133, Tryz.ntmps133
 go_wp2_with fail
 with_reducible refine (cloneEB_calls _ _ _ _ hn ((h5.below ((Below.refl _ _).alloc (Nat.le_refl _) _)).below ((Below.refl _ _).alloc (Nat.le_refl _) _)) h4).mono ?_
 rintro e w1 ⟨A', c', rfl, g1, g2, g3, g4, hb⟩; have B1 := ((Blk.new (w := w) (cs := x.cells) (t := 157) rfl).alloc (.cells #[.int .i64 0, .int .i64 0, .slice none 0 0] 157)).below hb; have B2 := (Blk.new (w := w.alloc (.cells x.cells.toArray 157)) (b := w.heap.size + 1) (cs := [.int .i64 0, .int .i64 0, .slice none 0 0]) (t := 157) (by simp)).below hb; have R1 := (((Below.refl w.heap.size w).alloc (Nat.le_refl _) (.cells x.cells.toArray 157)).alloc (by simp) (.cells #[.int .i64 0, .int .i64 0, .slice none 0 0] 157)).trans (hb.mono (by simp; omega)); clear hb; have c0 : w1.cell? ⟨w.heap.size, 0, none⟩ = some (.int .i64 x.t) := B1.cell 0; have c1 : w1.cell? ⟨w.heap.size, 1, none⟩ = some (.int .i64 x.k) := B1.cell 1; have c2 : w1.cell? ⟨w.heap.size, 2, none⟩ = some (.slice x.A x.b.length x.c) := B1.cell 2; have d0 : w1.cell? ⟨w.heap.size + 1, 0, none⟩ = some (.int .i64 0) := B2.cell 0; have d1 : w1.cell? ⟨w.heap.size + 1, 1, none⟩ = some (.int .i64 0) := B2.cell 1; have d2 : w1.cell? ⟨w.heap.size + 1, 2, none⟩ = some (.slice none 0 0) := B2.cell 2; have f0 : w1.frozen? ⟨w.heap.size, 2, none⟩ = false := B1.frozen 2; have e0 : w1.frozen? ⟨w.heap.size + 1, 0, none⟩ = false := B2.frozen 0; have e1 : w1.frozen? ⟨w.heap.size + 1, 1, none⟩ = false := B2.frozen 1; have e2 : w1.frozen? ⟨w.heap.size + 1, 2, none⟩ = false := B2.frozen 2; go_wp2; have n1 := B1.notByte (by decide); have n2 := B2.notByte (by decide); have hs := B1.lt; have hs2 := B2.lt
 have CH : Chg [w.heap.size, w.heap.size + 1] w1 ((((w1.setCell ⟨w.heap.size, 2, none⟩ (.slice A' x.b.length c')).setCell ⟨w.heap.size + 1, 0, none⟩ (.int .i64 x.t)).setCell ⟨w.heap.size + 1, 1, none⟩ (.int .i64 x.k)).setCell ⟨w.heap.size + 1, 2, none⟩ (.slice A' x.b.length c')) :=
  ((((Chg.refl _ w1).setCell (Or.inl (by simp)) _).setCell (Or.inl (by simp)) _).setCell (Or.inl (by simp)) _).setCell (Or.inl (by simp)) _
 refine bodyPost_ret (v := .agg #[.int .i64 x.t, .int .i64 x.k, .slice A' x.b.length c']) (by simp [results, Tryz.results133, go_sem, *]) rfl
  ⟨⟨x.t, x.k, A', c', x.b⟩, rfl, ⟨rfl, rfl, rfl⟩, ⟨g1, g2, h3, g4, g3.chg CH (by simpa using ⟨n1, n2⟩)⟩, Chg.onto R1 (by omega) CH (by intro z hz; simp at hz; omega)⟩

def entCells (es : List Ent) : List Value := es.flatMap Ent.cells
theorem entCells_get (es : List Ent) (k j : Nat) (hk : k < es.length) (hj : j < 3) : (entCells es)[k * 3 + j]? = es[k].cells[j]? := by
 induction es generalizing k with
 |nil => simp at hk
 |cons e es ih =>
  have hl : e.cells.length = 3 := rfl
  cases k with
  |zero =>
   simp only [entCells, List.flatMap_cons, Nat.zero_mul, Nat.zero_add, List.getElem_cons_zero]; rw [List.getElem?_append_left (by omega)]
  |succ k =>
   have := ih k (by simpa using hk); simp only [entCells, List.flatMap_cons, List.getElem_cons_succ] at this ⊢; rw [List.getElem?_append_right (by omega), hl, show (k + 1) * 3 + j - 3 = k * 3 + j by omega, this]
theorem entCells_take (es : List Ent) (k : Nat) : (entCells es).take (k * 3) = entCells (es.take k) := by
 induction es generalizing k with
 |nil => simp [entCells]
 |cons e es ih =>
  cases k with
  |zero => simp [entCells]
  |succ k =>
   have hl : e.cells.length = 3 := rfl; have := ih k; simp only [entCells, List.flatMap_cons, List.take_succ_cons] at this ⊢; rw [List.take_append, hl, show (k + 1) * 3 - 3 = k * 3 by omega, this, List.take_of_length_le (by omega)]
structure LogAt (w : World) (p : Nat) (A : Option Addr) (cap : Nat) (base term : Int) (es : List Ent) : Prop where
 blk : Blk w p 213 [.int .i64 base, .int .i64 term, .slice A es.length cap]
 own : w.ownsRow 0 157 3 (.slice A es.length cap) es.length (entCells es)
 ok : ∀ e ∈ es, EntOk w e
def foot (p : Nat) (A : Option Addr) : List Nat := p :: (A.map Addr.block).toList
section
variable {L : List Nat} {w w' : World} {p : Nat} {A : Option Addr} {cap : Nat} {base term : Int} {es : List Ent}
theorem rowBlk {t : TypeId} {sz n c : Nat} {xs : List Value} (h : w.ownsRow 0 t sz (.slice A n c) n xs) {g : Nat} (hg : (A.map Addr.block) = some g) : ∃ cs, w.heap[g]? = some (.cells cs t (0, 0)) := by
 rcases h.2 with ⟨e, _⟩ | ⟨g', cap, cur, e, _, hh, _⟩
 ·cases e; cases hg
 ·cases e; cases hg
  exact ⟨_, hh⟩
theorem LogAt.plt (h : LogAt w p A cap base term es) : p < w.heap.size := h.blk.lt
theorem LogAt.glt (h : LogAt w p A cap base term es) {x : Nat} (hx : x ∈ foot p A) : x < w.heap.size := by
 unfold foot at hx
 rcases List.mem_cons.1 hx with rfl | hx
 ·exact h.plt
 ·obtain ⟨cs, hc⟩ := rowBlk h.own (g := x) (by simpa using hx)
  exact heap_lt hc
theorem LogAt.noByte (h : LogAt w p A cap base term es) : ∀ x ∈ foot p A, ¬ ByteBlk w x := by
 intro x hx
 unfold foot at hx
 rcases List.mem_cons.1 hx with rfl | hx
 ·exact h.blk.notByte (by decide)
 ·obtain ⟨cs, hc⟩ := rowBlk h.own (g := x) (by simpa using hx)
  rintro ⟨cs', fr, h'⟩; have := hc.symm.trans h'
  simp at this
theorem LogAt.sep (h : LogAt w p A cap base term es) : p ∉ (A.map Addr.block).toList := by
 intro hp
 obtain ⟨cs, hc⟩ := rowBlk h.own (g := p) (by simpa using hp); have := h.blk.symm.trans hc
 simp at this
theorem LogAt.keep (h : LogAt w p A cap base term es) (hc : Chg L w w') (hf : ∀ x ∈ foot p A, x ∉ L) (hL : ∀ x ∈ L, ¬ ByteBlk w x) : LogAt w' p A cap base term es where
 blk := h.blk.chg hc (hf p (by simp [foot]))
 own := own_chg h.own hc fun g hg => hf g (by
  unfold foot
  refine List.mem_cons_of_mem _ ?_
  cases A with
  |none => cases hg
  |some a => cases hg; simp)
 ok := fun e he => (h.ok e he).chg hc hL
theorem LogAt.below (h : LogAt w p A cap base term es) (hb : Below w.heap.size w w') : LogAt w' p A cap base term es :=
 h.keep (L := []) (Chg.of_below hb) (fun _ _ hx => by cases hx) (fun _ hx => by cases hx)
theorem LogAt.drewN (h : LogAt w p A cap base term es) (n : Nat) : LogAt (w.drewN n) p A cap base term es := ⟨h.blk, h.own, h.ok⟩
theorem LogAt.reads (h : LogAt w p A cap base term es) : Reads w w.heap.size 3 A es.length (entCells es) := by
 obtain ⟨A', c', e, _, _, _, _, h5⟩ := own_view h.own
 cases e
 exact h5 _ fun g hg => own_lt h.own hg
theorem LogAt.cap_ge (h : LogAt w p A cap base term es) : es.length ≤ cap ∧ cap ≤ maxLen := by
 obtain ⟨A', c', e, h1, h2, _⟩ := own_view h.own
 cases e
 exact ⟨h1, h2⟩
end
def hasL (base : Int) (n : Nat) (i : Int) : Bool := decide (base < i ∧ i - base ≤ n)
theorem hasL_iff {base : Int} {n : Nat} {i : Int} : hasL base n i = true ↔ base < i ∧ i - base ≤ n := by simp [hasL]
theorem has_calls (p : Nat) (A : Option Addr) (cap : Nat) (base term : Int) (es : List Ent) (i : Int) (w : World) (h : LogAt w p A cap base term es) (h0 : 0 ≤ base) (h1 : base ≤ 4611686018427387904) 
  (i0 : -4611686018427387904 ≤ i) (i1 : i ≤ 4611686018427387904) :
  Calls Tryz.prog 140 #[.pointer (some ⟨p, 0, none⟩), .int .i64 i] w fun e w' => e = .returned (.bool (hasL base es.length i)) ∧ ∃ n, w' = w.drewN n := by
 have c0 : w.cell? ⟨p, 0, none⟩ = some (.int .i64 base) := h.blk.cell 0; have c2 : w.cell? ⟨p, 2, none⟩ = some (.slice A es.length cap) := h.blk.cell 2; have e1 : IntKind.i64.wrap (i - base) = i - base := IntWalk.i64_in _ (by omega)
 by_cases hb : base < i
 ·by_cases hl : i - base ≤ es.length
  ·have hr : hasL base es.length i = true := hasL_iff.2 ⟨hb, hl⟩
   have t1 : decide (base < i) = true := decide_eq_true hb; have t2 : decide (i - base ≤ (es.length : Int)) = true := decide_eq_true hl; rw [hr]; clear hr h
   go_enter Tryz.func140, Tryz.ntmps140
   go_wp2
   go_quiet (fail)
   go_wp2; go_ret
   exact ⟨rfl, _, rfl⟩
  ·have hr : hasL base es.length i = false := by simp [hasL]; omega
   have t1 : decide (base < i) = true := decide_eq_true hb; have t2 : decide (i - base ≤ (es.length : Int)) = false := decide_eq_false hl; rw [hr]; clear hr h
   go_enter Tryz.func140, Tryz.ntmps140
   go_wp2
   go_quiet (fail)
   go_wp2; go_ret
   exact ⟨rfl, _, rfl⟩
 ·have hr : hasL base es.length i = false := by simp [hasL]; omega
  have t1 : decide (base < i) = false := decide_eq_false hb; rw [hr]; clear hr h
  go_enter Tryz.func140, Tryz.ntmps140
  go_wp2
  go_quiet (fail)
  go_wp2; go_ret
  exact ⟨rfl, _, rfl⟩

def lastL (base term : Int) (es : List Ent) : Int × Int := (base + es.length, match es.getLast? with | some e => e.t | none => term)
theorem last_calls (p : Nat) (A : Option Addr) (cap : Nat) (base term : Int) (es : List Ent) (w : World) (h : LogAt w p A cap base term es) (h0 : 0 ≤ base) (h1 : base ≤ 4611686018427387904) (hn : es.length ≤ 1099511627776) :
  Calls Tryz.prog 97 #[.pointer (some ⟨p, 0, none⟩)] w fun e w' => e = .returned (.tuple #[.int .i64 (lastL base term es).1, .int .i64 (lastL base term es).2]) ∧ ∃ n, w' = w.drewN n := by
 have c0 : w.cell? ⟨p, 0, none⟩ = some (.int .i64 base) := h.blk.cell 0; have c1 : w.cell? ⟨p, 1, none⟩ = some (.int .i64 term) := h.blk.cell 1; have c2 : w.cell? ⟨p, 2, none⟩ = some (.slice A es.length cap) := h.blk.cell 2; have e1 : IntKind.i64.wrap (base + es.length) = base + es.length := IntWalk.i64_in _ (by omega)
 rcases Nat.eq_zero_or_pos es.length with hz | hp
 ·obtain rfl : es = [] := List.eq_nil_of_length_eq_zero hz
  have hl : lastL base term [] = (base, term) := by simp [lastL]
  rw [hl]; clear h hz e1 hl
  go_enter Tryz.func97, Tryz.ntmps97
  go_wp2
  go_quiet (fail)
  go_wp2
  go_ret2
  exact ⟨rfl, _, rfl⟩
 ·obtain ⟨b, o, rfl, hbB, hcell⟩ := h.reads.at_ hp
  have hlt : es.length - 1 < es.length := by omega
  have hc : w.cell? ⟨b, o + (es.length - 1) * 3, none⟩ = some (.int .i64 es[es.length - 1].t) := hcell _ _ (entCells_get es (es.length - 1) 0 hlt (by omega)); have e2 : IntKind.i64.wrap ((es.length : Int) - 1) = (es.length : Int) - 1 := IntWalk.i64_in _ (by omega)
  have e3 : ((es.length : Int) - 1).toNat = es.length - 1 := by omega
  have e4 : 0 ≤ (es.length : Int) - 1 := by omega
  have e5 : (es.length : Int) - 1 < es.length := by omega
  have hl : lastL base term es = (base + es.length, es[es.length - 1].t) := by
   unfold lastL; rw [List.getLast?_eq_getElem?, List.getElem?_eq_getElem hlt]
  rw [hl]; clear hl h hcell
  go_enter Tryz.func97, Tryz.ntmps97
  go_wp2
  go_quiet (fail)
  go_wp2
  go_ret2
  exact ⟨rfl, _, rfl⟩
def termL (base term : Int) (es : List Ent) (i : Int) : Int × Bool :=
 if i = base then (term, true) else match (if base < i then es[(i - base - 1).toNat]? else none) with | some e => (e.t, true) | none => (0, false)
theorem termL_base (base term : Int) (es : List Ent) : termL base term es base = (term, true) := by simp [termL]
theorem termL_in {base term : Int} {es : List Ent} {k : Nat} (hk : k < es.length) : termL base term es (base + k + 1) = (es[k].t, true) := by
 unfold termL; rw [if_neg (by omega), if_pos (by omega), show (base + k + 1 - base - 1).toNat = k by omega, List.getElem?_eq_getElem hk]
theorem termL_out {base term : Int} {es : List Ent} {i : Int} (h : i ≠ base) (h2 : hasL base es.length i = false) : termL base term es i = (0, false) := by
 unfold termL; rw [if_neg h]
 have h3 : ¬ (base < i ∧ i - base ≤ es.length) := fun hh => by rw [hasL_iff.2 hh] at h2; cases h2
 by_cases h4 : base < i
 ·rw [if_pos h4, List.getElem?_eq_none (by omega)]
 ·rw [if_neg h4]
theorem term_calls (p : Nat) (A : Option Addr) (cap : Nat) (base term : Int) (es : List Ent) (i : Int) (w : World) (h : LogAt w p A cap base term es) (h0 : 0 ≤ base) (h1 : base ≤ 4611686018427387904)
  (i0 : -4611686018427387904 ≤ i) (i1 : i ≤ 4611686018427387904) :
  Calls Tryz.prog 102 #[.pointer (some ⟨p, 0, none⟩), .int .i64 i] w fun e w' => e = .returned (.tuple #[.int .i64 (termL base term es i).1, .bool (termL base term es i).2]) ∧ ∃ n, w' = w.drewN n := by
 have c0 : w.cell? ⟨p, 0, none⟩ = some (.int .i64 base) := h.blk.cell 0; have c1 : w.cell? ⟨p, 1, none⟩ = some (.int .i64 term) := h.blk.cell 1; have c2 : w.cell? ⟨p, 2, none⟩ = some (.slice A es.length cap) := h.blk.cell 2
 by_cases hb : i = base
 ·subst hb
  rw [termL_base]; clear h
  go_enter Tryz.func102, Tryz.ntmps102
  go_wp2
  go_ret2
  exact ⟨rfl, 0, rfl⟩
 ·have hb' : (i == base) = false := beq_eq_false_iff_ne.2 hb
  have H := hide h
  cases hh : hasL base es.length i with
  |false =>
   rw [termL_out hb hh]; have HH := hide hh; clear hb hh h
   go_enter Tryz.func102, Tryz.ntmps102
   go_wp2_with fail
   with_reducible refine (has_calls _ _ _ _ _ _ _ _ H.out h0 h1 i0 i1).mono ?_
   rintro e w1 ⟨rfl, n, rfl⟩; rw [HH.out]; go_wp2
   go_ret2
   exact ⟨rfl, n, rfl⟩
  |true =>
   obtain ⟨g1, g2⟩ := hasL_iff.1 hh; obtain ⟨k, hk⟩ : ∃ k : Nat, i - base - 1 = k := ⟨(i - base - 1).toNat, by omega⟩
   obtain rfl : i = base + k + 1 := by omega
   have hkl : k < es.length := by omega
   rw [termL_in hkl]; obtain ⟨b, o, rfl, hbB, hcell⟩ := h.reads.at_ (by omega); have hc : w.cell? ⟨b, o + k * 3, none⟩ = some (.int .i64 es[k].t) := hcell _ _ (entCells_get es k 0 hkl (by omega))
   have e1 : IntKind.i64.wrap (base + k + 1 - base) = k + 1 := by rw [IntWalk.i64_in _ (by omega)]; omega
   have e2 : IntKind.i64.wrap ((k : Int) + 1 - 1) = k := by rw [IntWalk.i64_in _ (by omega)]; omega
   have e3 : (k : Int) < es.length := by omega
   have HH := hide hh; clear hb hh h hk hcell
   go_enter Tryz.func102, Tryz.ntmps102
   go_wp2_with fail
   with_reducible refine (has_calls _ _ _ _ _ _ _ _ H.out h0 h1 i0 i1).mono ?_
   rintro e w1 ⟨rfl, n, rfl⟩; rw [HH.out]; go_wp2
   go_quiet (fail)
   go_wp2
   go_ret2
   exact ⟨rfl, _, by rw [World.drewN_drewN]⟩

theorem Tryz.infoEnt : (Tryz.prog.info? 157).map (fun i => (i.zero, i.size, i.bytes)) = some (some (.agg #[.int .i64 0, .int .i64 0, .slice none 0 0]), 3, 40) := by kernel_rfl
theorem entCells_snoc (es : List Ent) (y : Ent) : entCells es ++ y.cells = entCells (es ++ [y]) := by simp [entCells]
theorem own_calls2 (x : Ent) (w : World) (h : EntOk w x) (hn : x.b.length ≤ 1099511627776) :
  Calls Tryz.prog 133 #[.agg #[.int .i64 x.t, .int .i64 x.k, .slice x.A x.b.length x.c]] w fun e w' => ∃ A' c', e = .returned (.agg #[.int .i64 x.t, .int .i64 x.k, .slice A' x.b.length c']) ∧ EntOk w' ⟨x.t, x.k, A', c', x.b⟩ ∧ Below w.heap.size w w' :=
 (own_calls x w h hn).mono fun e w' ⟨y, he, ⟨h1, h2, h3⟩, hy, hb⟩ => by
  obtain ⟨t, k, A, c, b⟩ := y
  dsimp only at h1 h2 h3
  subst h1 h2 h3
  exact ⟨A, c, he, hy, hb⟩
theorem new_calls (base term : Int) (w : World) (h0 : 0 ≤ base) (h1 : 0 ≤ term) :
  Calls Tryz.prog 87 #[.int .i64 base, .int .i64 term] w fun e w' => ∃ p, e = .returned (.pointer (some ⟨p, 0, none⟩)) ∧ w.heap.size ≤ p ∧ LogAt w' p none 0 base term [] ∧ Below w.heap.size w w' := by
 go_enter Tryz.func87, Tryz.ntmps87
 go_wp2; go_ret
 exact ⟨w.heap.size, rfl, Nat.le_refl _, ⟨Blk.new rfl, ⟨rfl, Or.inl ⟨rfl, rfl⟩⟩, fun e he => by cases he⟩, (Below.refl _ _).alloc (Nat.le_refl _) _⟩
theorem push_calls (p : Nat) (A : Option Addr) (cap : Nat) (base term : Int) (es : List Ent) (x : Ent) (w : World) (h : LogAt w p A cap base term es) (hx : EntOk w x) (h0 : 0 ≤ base) (h1 : base ≤ 4611686018427387904) (hn : es.length ≤ 1048576) (hxn : x.b.length ≤ 1099511627776) :
  Calls Tryz.prog 89 #[.pointer (some ⟨p, 0, none⟩), .agg #[.int .i64 x.t, .int .i64 x.k, .slice x.A x.b.length x.c]] w fun e w' => ∃ y A' cap', e = .returned (.int .i64 (base + es.length + 1)) ∧ x.is y ∧ LogAt w' p A' cap' base term (es ++ [y]) ∧ Chg (foot p A) w w' ∧ (∀ g ∈ foot p A', g ∈ foot p A ∨ w.heap.size ≤ g) := by
 obtain ⟨i0, hi, hz0, hz1, hz2⟩ := info_parts Tryz.infoEnt; have B0 := Blk.new (w := w) (cs := x.cells) (t := 157) rfl; have L0 := h.below ((Below.refl _ _).alloc (Nat.le_refl _) (.cells x.cells.toArray 157)); have X0 := hx.below ((Below.refl _ _).alloc (Nat.le_refl _) (.cells x.cells.toArray 157)); have R0 : Chg (foot p A) w (w.alloc (.cells x.cells.toArray 157)) := (Chg.refl _ w).alloc _; obtain ⟨w0, hw0⟩ : ∃ w0, w.alloc (.cells x.cells.toArray 157) = w0 := ⟨_, rfl⟩
 go_enter Tryz.func89, Tryz.ntmps89
 go_wp2; rw [show w.alloc (.cells #[.int .i64 x.t, .int .i64 x.k, .slice x.A x.b.length x.c] 157) = w0 from hw0]; rw [hw0] at B0 L0 X0 R0; clear hw0; have c0 := L0.blk.rule 0 _ rfl; have c2 := L0.blk.rule 2 _ rfl; have b0 := B0.rule 0 _ rfl; have b1 := B0.rule 1 _ rfl; have b2 := B0.rule 2 _ rfl; have r0 := Below.refl w0.heap.size w0
 refine region_lx (fun w' => Below w0.heap.size w0 w') [8] [2, 2, 2, 2, 0, 0, 1, 1, 3, 2, 2, 3] (by (first | exact r0.drew | exact hb1 | exact hb1.alloc hb1.size _)) (fun hS0 => ?_)
 (iterate 6 (first | refine lxt ?_ | refine lxp ?_))
 (refine lxe ?_; go_simp; ((go_at_call 133; (with_reducible refine (own_calls2 x _ (X0.below r0.drew) hxn).mono ?_); rintro e w1 ⟨A', c', rfl, hy, hb⟩; have hb1 : Below w0.heap.size w0 w1 := r0.drew.trans hb; clear hb; have L1 := L0.below hb1)); refine lxB (by (first | exact r0.drew | exact hb1 | exact hb1.alloc hb1.size _)) (fun hS1 => ?_))
 (refine lxe ?_; go_simp; refine lxB (by (first | exact r0.drew | exact hb1 | exact hb1.alloc hb1.size _)) (fun hS1 => ?_))
 (refine lxn ?_; (refine app_wp _ _ 211 rfl 157 i0 _ 3 40 Tryz.underlying211 hi hz0 hz1 hz2 rfl (by decide) (.slice A es.length cap) es.length (entCells es) rfl (L1.own.alloc _) w1.heap.size 1 1 (Ent.cells ⟨x.t, x.k, A', c', x.b⟩) rfl (Blk.new rfl) rfl (by intro u hu; simp [Ent.cells] at hu; rcases hu with rfl | rfl | rfl <;> rfl) (by decide) (by unfold maxLen; omega) (by omega) ?_; intro g cap' w2 hown2 hch hor hlt; rw [owS] at hch hor; have P2 := (L1.blk.alloc _).chg hch L1.sep; have d2 := P2.cell 2; have d0 := P2.cell 0; have f2 := P2.frozen 2); (try simp only [Act.put, List.setIfInBounds_toArray, List.set_cons_zero, List.set_cons_succ]))
 (iterate 2 (refine lxp ?_))
 (refine lxn ?_; go_simp)
 refine lxN ?_
 have E2 : ∀ e ∈ es ++ [⟨x.t, x.k, A', c', x.b⟩], EntOk w2 e := by
  have hnb : ∀ z ∈ (A.map Addr.block).toList, ¬ ByteBlk (w1.alloc (.cells (Ent.cells ⟨x.t, x.k, A', c', x.b⟩).toArray 157)) z := fun z hz =>
   (L1.below ((Below.refl _ _).alloc (Nat.le_refl _) _)).noByte z (by unfold foot; exact List.mem_cons_of_mem _ hz)
  intro e he
  rcases List.mem_append.1 he with he | he
  ·exact ((L1.ok e he).below ((Below.refl _ _).alloc (Nat.le_refl _) _)).chg hch hnb
  ·obtain rfl : e = ⟨x.t, x.k, A', c', x.b⟩ := by simpa using he
   exact (hy.below ((Below.refl _ _).alloc (Nat.le_refl _) _)).chg hch hnb
 have C2 : Chg (foot p A) w w2 := ((R0.below hb1).alloc _).trans hch (fun z hz => Or.inl (by unfold foot; exact List.mem_cons_of_mem _ hz)); have hw01 : w.heap.size ≤ w1.heap.size := Nat.le_trans R0.size hb1.size
 have hg : g ∈ foot p A ∨ w.heap.size ≤ g := by
  rcases hor with hor | hor
  ·exact Or.inl (by unfold foot; rw [hor]; simp)
  ·exact Or.inr (by rw [hor]; simp; omega)
 have hgp : p ≠ g := by
  intro e
  obtain ⟨cs, hc⟩ := rowBlk hown2 (g := g) rfl; rw [← e] at hc; have := P2.symm.trans hc
  simp at this
 have P3 := P2.set 2 (.slice (some ⟨g, 0, none⟩) (es.length + 1) cap'); have C3 : Chg [p] w2 (w2.setCell ⟨p, 2, none⟩ (.slice (some ⟨g, 0, none⟩) (es.length + 1) cap')) := (Chg.refl [p] w2).setCell (Or.inl (by simp)) _
 have O3 := own_chg hown2 C3 (fun z hz => by
  obtain rfl : g = z := by simpa [Value.ownBlock] using hz
  simpa using Ne.symm hgp)
 have E3 : ∀ e ∈ es ++ [⟨x.t, x.k, A', c', x.b⟩], EntOk (w2.setCell ⟨p, 2, none⟩ (.slice (some ⟨g, 0, none⟩) (es.length + 1) cap')) e := fun e he => (E2 e he).chg C3 (by simpa using P2.notByte (by decide))
 have LF : LogAt (w2.setCell ⟨p, 2, none⟩ (.slice (some ⟨g, 0, none⟩) (es.length + 1) cap')) p (some ⟨g, 0, none⟩) cap' base term (es ++ [⟨x.t, x.k, A', c', x.b⟩]) := by
  refine ⟨?_, ?_, E3⟩
  ·have : (es ++ [(⟨x.t, x.k, A', c', x.b⟩ : Ent)]).length = es.length + 1 := by simp
   rw [this]; exact P3
  ·have : (es ++ [(⟨x.t, x.k, A', c', x.b⟩ : Ent)]).length = es.length + 1 := by simp
   rw [this, ← entCells_snoc]; exact O3
 have CF : Chg (foot p A) w (w2.setCell ⟨p, 2, none⟩ (.slice (some ⟨g, 0, none⟩) (es.length + 1) cap')) := C2.trans C3 (fun z hz => Or.inl (by rw [List.mem_singleton.1 hz]; simp [foot]))
 have FF : ∀ z ∈ foot p (some ⟨g, 0, none⟩), z ∈ foot p A ∨ w.heap.size ≤ z := by
  intro z hz
  have : z = p ∨ z = g := by simpa [foot] using hz
  rcases this with rfl | rfl
  ·exact Or.inl (by simp [foot])
  ·exact hg
 have k0 := P3.cell 0; have k2 := P3.cell 2; simp only [List.set_cons_succ, List.set_cons_zero, List.getElem?_cons_zero, List.getElem?_cons_succ] at k0 k2
 generalize hw3 : w2.setCell ⟨p, 2, none⟩ (.slice (some ⟨g, 0, none⟩) (es.length + 1) cap') = w3 at *
 clear hw3 C2 C3 P2 P3 O3 E2 E3 d0 d2 f2 hch hown2 hor hlt hgp hg hw01 L1 hb1 hy c0 c2 b0 b1 b2 r0 R0 X0 L0 B0 hS1 hS0 hi
 have e1 : IntKind.i64.wrap (base + ((es.length : Int) + 1)) = base + es.length + 1 := by rw [IntWalk.i64_in _ (by omega)]; omega
 go_wp2
 go_quiet (fail)
 go_wp2; go_ret
 exact ⟨⟨x.t, x.k, A', c', x.b⟩, _, _, rfl, ⟨rfl, rfl, rfl⟩, LF.drewN _, CF.drewN _, FF⟩
end Go.Proofs.YtcahcjfgmdpdoaaGreat
