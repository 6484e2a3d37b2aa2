/- One text of: Same Lg Cut. -/
import Derived.Test.YtcahcjfgmdpdoaaGreatQLB
namespace Go.Proofs.YtcahcjfgmdpdoaaGreat
open Go.RowKit

theorem BytesAt.rule {w : World} {A : Option Addr} {bs : List Int} (h : BytesAt w A bs) (hk : 0 < bs.length) : ∃ b o, A = some ⟨b, o, none⟩ ∧ ∀ j x, bs[j]? = some x → w.cell? ⟨b, o + j, none⟩ = some (.int .u8 x) := by
 obtain ⟨b, o, e, _, hc⟩ := h.2 hk
 exact ⟨b, o, e, hc⟩
end Go.Proofs.YtcahcjfgmdpdoaaGreat

namespace Go.Proofs.YtcahcjfgmdpdoaaGreat
open Go.RowKit
set_option linter.unusedVariables false

def LG (w : World) (p : Nat) (base term : Int) (L : List Con) (F : List Nat) : Prop := ∃ A cap es, LogAt w p A cap base term es ∧ cons es = L ∧ foot p A = F
def FewC (L : List Con) : Prop := ∀ c ∈ L, c.2.2.length ≤ 1048576
def Grew (w : World) (F F' : List Nat) : Prop := ∀ g ∈ F', g ∈ F ∨ w.heap.size ≤ g
section
variable {w w' : World} {p : Nat} {base term : Int} {L : List Con} {F G : List Nat}
theorem FewC.few {es : List Ent} (h : FewC (cons es)) : Few es := fun e he => h e.con (List.mem_map_of_mem he)
theorem LG.keep (h : LG w p base term L F) (hc : Chg G w w') (hd : ∀ x ∈ F, x ∉ G) (hb : ∀ x ∈ G, ¬ ByteBlk w x) : LG w' p base term L F := by
 obtain ⟨A, cap, es, hl, e1, e2⟩ := h
 exact ⟨A, cap, es, hl.keep hc (e2 ▸ hd) hb, e1, e2⟩
theorem LG.below (h : LG w p base term L F) (hb : Below w.heap.size w w') : LG w' p base term L F := h.keep (G := []) (Chg.of_below hb) (fun _ _ hx => by cases hx) (fun _ hx => by cases hx)
theorem LG.drewN (h : LG w p base term L F) (n : Nat) : LG (w.drewN n) p base term L F := h.below (below_drewN (Below.refl _ _) _)
theorem LG.noByte (h : LG w p base term L F) : ∀ x ∈ F, ¬ ByteBlk w x := by
 obtain ⟨A, cap, es, hl, e1, rfl⟩ := h
 exact hl.noByte
theorem LG.lt (h : LG w p base term L F) : ∀ x ∈ F, x < w.heap.size := by
 obtain ⟨A, cap, es, hl, e1, rfl⟩ := h
 exact fun x hx => hl.glt hx
theorem lg_new (base term : Int) (w : World) (h0 : 0 ≤ base) (h1 : 0 ≤ term) :
  Calls Tryz.prog 87 #[.int .i64 base, .int .i64 term] w fun e w' => ∃ p, e = .returned (.pointer (some ⟨p, 0, none⟩)) ∧ LG w' p base term [] [p] ∧ w.heap.size ≤ p ∧ Below w.heap.size w w' :=
 (new_calls base term w h0 h1).mono fun e w' ⟨p, he, hp, hl, hb⟩ => ⟨p, he, ⟨none, 0, [], hl, rfl, rfl⟩, hp, hb⟩
theorem lg_push (x : Ent) (h : LG w p base term L F) (hx : EntOk w x) (h0 : 0 ≤ base) (h1 : base ≤ 4611686018426339328) (hn : L.length ≤ 1000000) (hxn : x.b.length ≤ 1048576) :
  Calls Tryz.prog 89 #[.pointer (some ⟨p, 0, none⟩), .agg #[.int .i64 x.t, .int .i64 x.k, .slice x.A x.b.length x.c]] w fun e w' => ∃ F', e = .returned (.int .i64 (base + L.length + 1)) ∧ LG w' p base term (L ++ [x.con]) F' ∧ Chg F w w' ∧ Grew w F F' := by
 obtain ⟨A, cap, es, hl, rfl, rfl⟩ := h; rw [cons_length] at hn
 refine (push_calls p A cap base term es x w hl hx h0 (by omega) (by omega) (by omega)).mono fun e w' ⟨y, A', cap', he, hxy, hl', hc, hf⟩ => ?_
 exact ⟨foot p A', by rw [cons_length]; exact he, ⟨A', cap', es ++ [y], hl', by rw [hxy.con]; simp [cons], rfl⟩, hc, hf⟩
theorem lg_last (h : LG w p base term L F) (h0 : 0 ≤ base) (h1 : base ≤ 4611686018426339328) (hn : L.length ≤ 1000000) :
  Calls Tryz.prog 97 #[.pointer (some ⟨p, 0, none⟩)] w fun e w' => e = .returned (.tuple #[.int .i64 (base + L.length), .int .i64 ((L.getLast?.map (·.1)).getD term)]) ∧ ∃ n, w' = w.drewN n := by
 obtain ⟨A, cap, es, hl, rfl, rfl⟩ := h; rw [cons_length] at hn
 refine (last_calls p A cap base term es w hl h0 (by omega) (by omega)).mono fun e w' ⟨he, hn⟩ => ⟨?_, hn⟩
 rw [he, cons_length]
 have : (lastL base term es).2 = (((cons es).getLast?).map (·.1)).getD term := by
  unfold lastL cons; rw [List.getLast?_map]
  cases es.getLast? <;> rfl
 rw [← this]; rfl
def termC (base term : Int) (L : List Con) (q : Nat) : Int × Bool := match q with
 |0 => (term, true)
 |k + 1 => match L[k]? with | some c => (c.1, true) | none => (0, false)
theorem termC_eq (es : List Ent) (q : Nat) : termL base term es (base + q) = termC base term (cons es) q := by
 cases q with
 |zero => simp [termL, termC]
 |succ k =>
  by_cases hk : k < es.length
  ·have := termL_in (base := base) (term := term) hk
   rw [show base + ((k + 1 : Nat) : Int) = base + k + 1 by omega, this]
   simp [termC, cons, hk, Ent.con]
  ·rw [termL_out (by omega) (by simp [hasL]; omega)]
   have : (cons es)[k]? = none := List.getElem?_eq_none (by rw [cons_length]; omega)
   simp [termC, this]
theorem lg_term (q : Nat) (h : LG w p base term L F) (h0 : 0 ≤ base) (h1 : base ≤ 4611686018426339328) (hq : q ≤ 1000000) {i : Int} (hi : i = base + q) :
  Calls Tryz.prog 102 #[.pointer (some ⟨p, 0, none⟩), .int .i64 i] w fun e w' => e = .returned (.tuple #[.int .i64 (termC base term L q).1, .bool (termC base term L q).2]) ∧ ∃ n, w' = w.drewN n := by
 obtain ⟨A, cap, es, hl, rfl, rfl⟩ := h; subst hi; have := term_calls p A cap base term es (base + q) w hl h0 (by omega) (by omega) (by omega); rw [termC_eq] at this
 exact this
theorem lg_get (k : Nat) (h : LG w p base term L F) (hk : k < L.length) (hf : FewC L) (h0 : 0 ≤ base) (h1 : base ≤ 4611686018426339328) (hn : L.length ≤ 1000000) {i : Int} (hi : i = base + k + 1) :
  Calls Tryz.prog 134 #[.pointer (some ⟨p, 0, none⟩), .int .i64 i] w fun e w' => ∃ x : Ent, e = .returned (.tuple #[.agg #[.int .i64 x.t, .int .i64 x.k, .slice x.A x.b.length x.c], .bool true]) ∧ x.con = L[k] ∧ EntOk w' x ∧ Below w.heap.size w w' := by
 obtain ⟨A, cap, es, hl, rfl, rfl⟩ := h; subst hi
 have hk' : k < es.length := by rw [cons_length] at hk; exact hk
 rw [cons_length] at hn
 refine (get_calls p A cap base term es k hk' w hl hf.few h0 h1 (by omega)).mono fun e w' ⟨A', c', he, hok, hb⟩ => ?_
 exact ⟨⟨es[k].t, es[k].k, A', c', es[k].b⟩, he, by simp [cons, Ent.con], hok, hb⟩
theorem lg_from (q : Nat) (most : Int) (h : LG w p base term L F) (hf : FewC L) (h0 : 0 ≤ base) (h1 : base ≤ 4611686018426339328) (hn : L.length ≤ 1000000) (hq : q ≤ 1000000) {i : Int} (hi : i = base + q + 1) :
  Calls Tryz.prog 135 #[.pointer (some ⟨p, 0, none⟩), .int .i64 i, .int .i64 most] w fun e w' => FromOut w w' e ((L.drop q).take most.toNat) := by
 obtain ⟨A, cap, es, hl, rfl, rfl⟩ := h; subst hi; rw [cons_length] at hn
 by_cases hk : q < es.length
 ·exact from_calls p A cap base term es q hk most w hl hf.few h0 h1 (by omega)
 ·refine (from_none p A cap base term es (base + q + 1) most w hl h0 h1 (by omega) (by omega) (by simp [hasL]; omega)).mono fun e w' ⟨he, hb⟩ => ?_
  refine ⟨none, 0, [], he, ?_, ⟨rfl, Or.inl ⟨rfl, rfl⟩⟩, (fun y hy => by cases hy), (fun g hg => by cases hg), hb⟩
  rw [List.drop_eq_nil_of_le (by rw [cons_length]; omega)]
  simp [cons]
structure Ents (w : World) (A : Option Addr) (n c : Nat) (Y : List Con) : Prop where
 ex : ∃ ys : List Ent, ys.length = n ∧ cons ys = Y ∧ Reads w w.heap.size 3 A n (entCells ys) ∧ (∀ y ∈ ys, EntOk w y)
 cap : n ≤ c
theorem Ents.length {A : Option Addr} {n c : Nat} {Y : List Con} (h : Ents w A n c Y) : Y.length = n := by
 obtain ⟨ys, h1, h2, _⟩ := h.ex; rw [← h2, cons_length, h1]
end
theorem FromOut.ents {w w' : World} {e : Ending} {L : List Con} (h : FromOut w w' e L) : ∃ A' n c', e = .returned (.slice A' n c') ∧ n = L.length ∧ Ents w' A' n c' L ∧ (∀ g, A'.map Addr.block = some g → w.heap.size ≤ g) ∧ Below w.heap.size w w' := by
 obtain ⟨A', cap', ys, he, hc, hown, hok, hg, hb⟩ := h; obtain ⟨A2, c2, e2, h1, _, _, _, hr⟩ := own_view hown
 cases e2
 exact ⟨A', ys.length, cap', he, by rw [← hc, cons_length], ⟨⟨ys, rfl, hc, hr _ (fun g hg => own_lt hown hg), hok⟩, h1⟩, hg, hb⟩

section
variable {w w' W : World} {p p1 p2 : Nat} {base term b1 t1 b2 t2 : Int} {L L1 L2 : List Con} {F : List Nat}
def Two (W w : World) (p1 p2 : Nat) (b1 t1 : Int) (L1 : List Con) (b2 t2 : Int) (L2 : List Con) : Prop :=
 ∃ F1 F2, LG w p1 b1 t1 L1 F1 ∧ LG w p2 b2 t2 L2 F2 ∧ (∀ x ∈ F1, x ∉ F2) ∧ (∀ x ∈ F1, W.heap.size ≤ x) ∧ (∀ x ∈ F2, W.heap.size ≤ x) ∧ Below W.heap.size W w
theorem Two.bel (h : Two W w p1 p2 b1 t1 L1 b2 t2 L2) : Below W.heap.size W w := by obtain ⟨_, _, _, _, _, _, _, h⟩ := h; exact h
theorem Two.below (h : Two W w p1 p2 b1 t1 L1 b2 t2 L2) (hb : Below w.heap.size w w') : Two W w' p1 p2 b1 t1 L1 b2 t2 L2 := by
 obtain ⟨F1, F2, l1, l2, hd, g1, g2, hw⟩ := h
 exact ⟨F1, F2, l1.below hb, l2.below hb, hd, g1, g2, hw.trans (hb.mono hw.size)⟩
theorem Two.one (h : Two W w p1 p2 b1 t1 L1 b2 t2 L2) : ∃ F, LG w p1 b1 t1 L1 F ∧ ∀ w' b t L F', LG w' p1 b t L F' → Chg F w w' → Grew w F F' → Two W w' p1 p2 b t L b2 t2 L2 := by
 obtain ⟨F1, F2, l1, l2, hd, g1, g2, hw⟩ := h
 refine ⟨F1, l1, fun w' b t L F' l1' hc hg => ⟨F', F2, l1', l2.keep hc (fun x hx h => hd x h hx) l1.noByte, fun x hx h => ?_, fun x hx => ?_, g2, Chg.onto hw hw.size hc g1⟩⟩
 ·rcases hg x hx with h5 | h5
  ·exact hd x h5 h
  ·have := l2.lt x h; omega
 ·rcases hg x hx with h5 | h5
  ·exact g1 x h5
  ·exact Nat.le_trans hw.size h5
end
end Go.Proofs.YtcahcjfgmdpdoaaGreat
