/- Entries of a log: their cells, their bytes; the walks of slices.Clone at bytes and of rlog.own. -/
import Derived.Test.YtjdgkdaebkflpaaSep
import Derived.Lib.SliceRun
import Derived.WalkMore
import Derived.Deep.LoopGhost
import Derived.Outline
namespace Go.Proofs.Ytjdgkdaebkflpaa
open Go.RowKit

/-- an entry: its term, its kind, its bytes, and where they lie -/
structure Ent where
  t : Int
  k : Int
  A : Option Addr
  c : Nat
  b : List Int
def Ent.cells (e : Ent) : List Value := [.int .i64 e.t, .int .i64 e.k, .slice e.A e.b.length e.c]
def Ent.val (e : Ent) : Value := .agg #[.int .i64 e.t, .int .i64 e.k, .slice e.A e.b.length e.c]
def Ent.is (x y : Ent) : Prop := x.t = y.t ∧ x.k = y.k ∧ x.b = y.b
def ByteBlk (w : World) (b : Nat) : Prop := ∃ cs fr, w.heap[b]? = some (.cells cs 5 fr)
/-- bytes at an address -/
def BytesAt (w : World) (A : Option Addr) (bs : List Int) : Prop :=
  0 < bs.length → ∃ b o, A = some ⟨b, o, none⟩ ∧ ByteBlk w b ∧ ∀ j x, bs[j]? = some x → w.cell? ⟨b, o + j, none⟩ = some (.int .u8 x)
def EntOk (w : World) (e : Ent) : Prop := e.b.length ≤ e.c ∧ e.c ≤ maxLen ∧ (∀ x ∈ e.b, 0 ≤ x ∧ x ≤ 255) ∧ (∀ a, e.A = some a → a.spot = none) ∧ BytesAt w e.A e.b
section
variable {L : List Nat} {w w' : World} {A : Option Addr} {bs : List Int} {e : Ent} {b : Nat}
theorem ByteBlk.lt (h : ByteBlk w b) : b < w.heap.size := by obtain ⟨cs, fr, h⟩ := h; exact heap_lt h
theorem ByteBlk.keep (h : ByteBlk w b) (hs : w'.heap[b]? = w.heap[b]?) : ByteBlk w' b := by obtain ⟨cs, fr, h⟩ := h; exact ⟨cs, fr, hs.trans h⟩
theorem BytesAt.keep (h : BytesAt w A bs) (hs : ∀ b, ByteBlk w b → w'.heap[b]? = w.heap[b]?) : BytesAt w' A bs := fun h0 => by
  obtain ⟨b, o, rfl, hb, hc⟩ := h h0
  exact ⟨b, o, rfl, hb.keep (hs b hb), fun j x hx => (World.cell?_of_block (w := w) (a := ⟨b, o + j, none⟩) (hs b hb)).trans (hc j x hx)⟩
theorem BytesAt.below (h : BytesAt w A bs) (hb : Below w.heap.size w w') : BytesAt w' A bs := h.keep fun b hb' => hb.block b hb'.lt
theorem BytesAt.chg (h : BytesAt w A bs) (hc : Chg L w w') (hL : ∀ x ∈ L, ¬ ByteBlk w x) : BytesAt w' A bs := h.keep fun b hb => hc.block b hb.lt fun hx => hL b hx hb
theorem EntOk.keep (h : EntOk w e) (hs : ∀ b, ByteBlk w b → w'.heap[b]? = w.heap[b]?) : EntOk w' e := ⟨h.1, h.2.1, h.2.2.1, h.2.2.2.1, h.2.2.2.2.keep hs⟩
theorem EntOk.below (h : EntOk w e) (hb : Below w.heap.size w w') : EntOk w' e := ⟨h.1, h.2.1, h.2.2.1, h.2.2.2.1, h.2.2.2.2.below hb⟩
theorem EntOk.chg (h : EntOk w e) (hc : Chg L w w') (hL : ∀ x ∈ L, ¬ ByteBlk w x) : EntOk w' e := ⟨h.1, h.2.1, h.2.2.1, h.2.2.2.1, h.2.2.2.2.chg hc hL⟩
theorem Blk.notByte {t : TypeId} {cs : List Value} (h : Blk w b t cs) (ht : t ≠ 5) : ¬ ByteBlk w b := by
  rintro ⟨cs', fr, h'⟩
  have := h.symm.trans h'
  simp at this
  exact ht this.2.1
theorem BytesAt.addr (h : BytesAt w A bs) (h0 : 0 < bs.length) : ∃ b o, A = some ⟨b, o, none⟩ := by obtain ⟨b, o, h, _⟩ := h h0; exact ⟨b, o, h⟩
theorem Ent.is.refl (x : Ent) : Ent.is x x := ⟨rfl, rfl, rfl⟩
end
theorem Try.infoByte : (Try.prog.info? 5).map (fun i => (i.zero, i.size, i.bytes)) = some (some (.int .u8 0), 1, 1) := by kernel_rfl

set_option maxHeartbeats 1000000 in
theorem cloneB_nil (n c : Nat) (w : World) : Calls Try.prog 74 #[.slice none n c] w fun e w' => e = .returned (.slice none 0 0) ∧ w = w' := by
  have q22 : ∀ (w : World) (a : Option Addr) (n c n' c' : Nat), (binOp .eql 34 (.slice a n c) (.slice none n' c')).run Try.prog w = .ok (.bool a.isNone) w := fun w a n c n' c' => Lib.run_eql_slice_nil w _ _ a n c n' c' Try.underlying34
  go_enter Try.func74, Try.ntmps74
  go_wp2
  go_ret
  exact ⟨rfl, rfl⟩
set_option maxHeartbeats 1000000 in
theorem cloneB_some (b o : Nat) (bs : List Int) (c : Nat) (w : World) (hn : bs.length ≤ 1099511627776) (hc : ∀ j x, bs[j]? = some x → w.cell? ⟨b, o + j, none⟩ = some (.int .u8 x)) :
    Calls Try.prog 74 #[.slice (some ⟨b, o, none⟩) bs.length c] w fun e w' => ∃ v, e = .returned v ∧ w'.ownsRow 0 5 1 v bs.length (bs.map (Value.int .u8)) ∧ Below w.heap.size w w' := by
  have q22 : ∀ (w : World) (a : Option Addr) (n c n' c' : Nat), (binOp .eql 34 (.slice a n c) (.slice none n' c')).run Try.prog w = .ok (.bool a.isNone) w := fun w a n c n' c' => Lib.run_eql_slice_nil w _ _ a n c n' c' Try.underlying34
  obtain ⟨i0, hi, hz0, hz1, hz2⟩ := info_parts Try.infoByte
  have HC := hide hc
  clear hc
  go_enter Try.func74, Try.ntmps74
  go_wp2_with (at_builtin; refine wpList_append_own _ rfl _ _ 34 rfl 0 5 i0 (.int .u8 0) 1 1 Try.underlying34 hi hz0 hz1 hz2 rfl (by decide) _ _ _ rfl (World.ownsRow_made w #[] 0 (Nat.zero_le _) (Nat.zero_le _) (by simp)) ⟨b, o, none⟩ bs.length c (bs.map (Value.int .u8)) rfl ?qc1 ?qc2 ?qc3 ?qc4 ?qc5 ?qc6 ?_)
  case qc1 => simp
  case qc2 =>
    intro j u hj
    rw [add_addr]
    rw [List.getElem?_map] at hj
    cases hx : bs[j]? with
    | none => rw [hx] at hj; cases hj
    | some x =>
      rw [hx] at hj
      simp only [Option.map_some, Option.some.injEq] at hj
      subst hj
      exact Lib.cell?_alloc_some _ (HC.out j x hx)
  case qc3 =>
    intro u hu
    obtain ⟨x, _, rfl⟩ := List.mem_map.1 hu
    rfl
  case qc4 => unfold maxLen; omega
  case qc5 => omega
  case qc6 => simp
  intro v' w1 hown hgrow hnil
  go_wp2
  go_ret
  exact ⟨v', rfl, by simpa using hown, ((Below.refl _ w).alloc (Nat.le_refl _) _).grown hgrow (by simp) (by intro k hk; simp [Value.ownBlock] at hk; omega)⟩
theorem own_byteBlk {w : World} {base n : Nat} {v : Value} {xs : List Value} (h : w.ownsRow base 5 1 v n xs) {g : Nat} (hg : v.ownBlock = some g) : ByteBlk w g := by
  rcases h.2 with ⟨rfl, _⟩ | ⟨g', cap, cur, rfl, _, hh, _⟩
  · cases hg
  · cases hg
    exact ⟨_, _, hh⟩
/-- slices.Clone at bytes -/
theorem cloneB_calls (A : Option Addr) (bs : List Int) (c : Nat) (w : World) (hn : bs.length ≤ 1099511627776) (hb : BytesAt w A bs) (hA : ∀ a, A = some a → a.spot = none) :
    Calls Try.prog 74 #[.slice A bs.length c] w fun e w' => ∃ A' c', e = .returned (.slice A' bs.length c') ∧ bs.length ≤ c' ∧ c' ≤ maxLen ∧ BytesAt w' A' bs ∧ (∀ a, A' = some a → a.spot = none) ∧ Below w.heap.size w w' := by
  cases A with
  | none =>
    have h0 : bs.length = 0 := by
      rcases Nat.eq_zero_or_pos bs.length with h | h
      · exact h
      · obtain ⟨b, o, h⟩ := hb.addr h
        cases h
    refine (cloneB_nil bs.length c w).mono fun e w' ⟨he, hw⟩ => ?_
    subst hw
    exact ⟨none, 0, by rw [h0]; exact he, by omega, by unfold maxLen; omega, fun h => absurd h (by omega), (fun a h => by cases h), Below.refl _ _⟩
  | some a =>
    obtain ⟨b, o, s⟩ := a
    obtain rfl : s = none := hA _ rfl
    refine (cloneB_some b o bs c w hn fun j x hx => ?_).mono fun e w' ⟨v, he, hown, hbel⟩ => ?_
    · obtain ⟨b', o', e, _, h⟩ := hb (by have := (List.getElem?_eq_some_iff.1 hx).1; omega)
      injection e with e
      injection e with e1 e2
      subst e1 e2
      exact h j x hx
    · obtain ⟨A', c', rfl, h1, h2, h3, h4, h5⟩ := own_view hown
      refine ⟨A', c', he, h1, h2, fun h0 => ?_, ?_, hbel⟩
      · obtain ⟨b', o', rfl, _, hcell⟩ := (h5 w'.heap.size (fun g hg => own_lt hown hg)).2 h0
        refine ⟨b', o', rfl, own_byteBlk hown (by rw [h3]; rfl), fun j x hx => hcell j _ ?_⟩
        rw [List.getElem?_map, hx]; rfl
      · intro a ha
        subst ha
        rcases hown.2 with ⟨e, _⟩ | ⟨g, cap, cur, e, _⟩ <;> cases e
        rfl

theorem Ent.look (e : Ent) : e.val = .agg #[.int .i64 e.t, .int .i64 e.k, .slice e.A e.b.length e.c] := rfl
set_option maxHeartbeats 1000000 in
theorem own_calls (x : Ent) (w : World) (h : EntOk w x) (hn : x.b.length ≤ 1099511627776) :
    Calls Try.prog 55 #[x.val] w fun e w' => ∃ y : Ent, e = .returned y.val ∧ x.is y ∧ EntOk w' y ∧ Below w.heap.size w w' := by
  rw [x.look]
  obtain ⟨h1, h2, h3, h4, h5⟩ := h
  go_enter Try.func55, Try.ntmps55
  go_wp2_with fail
  with_reducible refine (cloneB_calls _ _ _ _ hn ((h5.below ((Below.refl _ _).alloc (Nat.le_refl _) _)).below ((Below.refl _ _).alloc (Nat.le_refl _) _)) h4).mono ?_
  rintro e w1 ⟨A', c', rfl, g1, g2, g3, g4, hb⟩
  have B1 := ((Blk.new (w := w) (cs := x.cells) (t := 39) rfl).alloc (.cells #[.int .i64 0, .int .i64 0, .slice none 0 0] 39)).below hb
  have B2 := (Blk.new (w := w.alloc (.cells x.cells.toArray 39)) (b := w.heap.size + 1) (cs := [.int .i64 0, .int .i64 0, .slice none 0 0]) (t := 39) (by simp)).below hb
  have R1 := (((Below.refl w.heap.size w).alloc (Nat.le_refl _) (.cells x.cells.toArray 39)).alloc (by simp) (.cells #[.int .i64 0, .int .i64 0, .slice none 0 0] 39)).trans (hb.mono (by simp; omega))
  clear hb
  have c0 : w1.cell? ⟨w.heap.size, 0, none⟩ = some (.int .i64 x.t) := B1.cell 0
  have c1 : w1.cell? ⟨w.heap.size, 1, none⟩ = some (.int .i64 x.k) := B1.cell 1
  have c2 : w1.cell? ⟨w.heap.size, 2, none⟩ = some (.slice x.A x.b.length x.c) := B1.cell 2
  have d0 : w1.cell? ⟨w.heap.size + 1, 0, none⟩ = some (.int .i64 0) := B2.cell 0
  have d1 : w1.cell? ⟨w.heap.size + 1, 1, none⟩ = some (.int .i64 0) := B2.cell 1
  have d2 : w1.cell? ⟨w.heap.size + 1, 2, none⟩ = some (.slice none 0 0) := B2.cell 2
  have f0 : w1.frozen? ⟨w.heap.size, 2, none⟩ = false := B1.frozen 2
  have e0 : w1.frozen? ⟨w.heap.size + 1, 0, none⟩ = false := B2.frozen 0
  have e1 : w1.frozen? ⟨w.heap.size + 1, 1, none⟩ = false := B2.frozen 1
  have e2 : w1.frozen? ⟨w.heap.size + 1, 2, none⟩ = false := B2.frozen 2
  go_wp2
  have n1 := B1.notByte (by decide)
  have n2 := B2.notByte (by decide)
  have hs := B1.lt
  have hs2 := B2.lt
  have CH : Chg [w.heap.size, w.heap.size + 1] w1 ((((w1.setCell ⟨w.heap.size, 2, none⟩ (.slice A' x.b.length c')).setCell ⟨w.heap.size + 1, 0, none⟩ (.int .i64 x.t)).setCell ⟨w.heap.size + 1, 1, none⟩ (.int .i64 x.k)).setCell ⟨w.heap.size + 1, 2, none⟩ (.slice A' x.b.length c')) :=
    ((((Chg.refl _ w1).setCell (Or.inl (by simp)) _).setCell (Or.inl (by simp)) _).setCell (Or.inl (by simp)) _).setCell (Or.inl (by simp)) _
  refine bodyPost_ret (v := .agg #[.int .i64 x.t, .int .i64 x.k, .slice A' x.b.length c']) (by simp [results, Try.results55, go_sem, *]) rfl
    ⟨⟨x.t, x.k, A', c', x.b⟩, rfl, ⟨rfl, rfl, rfl⟩, ⟨g1, g2, h3, g4, g3.chg CH (by simpa using ⟨n1, n2⟩)⟩, Chg.onto R1 (by omega) CH (by intro z hz; simp at hz; omega)⟩
end Go.Proofs.Ytjdgkdaebkflpaa
