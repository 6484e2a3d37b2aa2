/- A log by what it holds and by what a call on it may turn: the contracts of rlog in these words. -/
import Derived.Test.YtjdgkdaebkflpaaSame
namespace Go.Proofs.Ytjdgkdaebkflpaa
open Go.RowKit
set_option linter.unusedVariables false

/-- the log at block p holds the entries L; F: the blocks that its calls may turn -/
def LG (w : World) (p : Nat) (base term : Int) (L : List Con) (F : List Nat) : Prop := ∃ A cap es, LogAt w p A cap base term es ∧ cons es = L ∧ foot p A = F
/-- no more than so many entries, of few bytes -/
def FewC (L : List Con) : Prop := ∀ c ∈ L, c.2.2.length ≤ 1048576
/-- what F may become -/
def Grew (w : World) (F F' : List Nat) : Prop := ∀ g ∈ F', g ∈ F ∨ w.heap.size ≤ g
section
variable {w w' : World} {p : Nat} {base term : Int} {L : List Con} {F G : List Nat}
theorem FewC.few {es : List Ent} (h : FewC (cons es)) : Few es := fun e he => h e.con (List.mem_map_of_mem he)
theorem LG.keep (h : LG w p base term L F) (hc : Chg G w w') (hd : ∀ x ∈ F, x ∉ G) (hb : ∀ x ∈ G, ¬ ByteBlk w x) : LG w' p base term L F := by
  obtain ⟨A, cap, es, hl, e1, e2⟩ := h
  exact ⟨A, cap, es, hl.keep hc (e2 ▸ hd) hb, e1, e2⟩
theorem LG.below (h : LG w p base term L F) (hb : Below w.heap.size w w') : LG w' p base term L F := h.keep (G := []) (Chg.of_below hb) (fun _ _ hx => by cases hx) (fun _ hx => by cases hx)
theorem LG.drewN (h : LG w p base term L F) (n : Nat) : LG (w.drewN n) p base term L F := h.below (below_drewN (Below.refl _ _) _)
theorem LG.noByte (h : LG w p base term L F) : ∀ x ∈ F, ¬ ByteBlk w x := by
  obtain ⟨A, cap, es, hl, e1, rfl⟩ := h
  exact hl.noByte
theorem LG.lt (h : LG w p base term L F) : ∀ x ∈ F, x < w.heap.size := by
  obtain ⟨A, cap, es, hl, e1, rfl⟩ := h
  exact fun x hx => hl.glt hx
theorem lg_new (base term : Int) (w : World) (h0 : 0 ≤ base) (h1 : 0 ≤ term) :
    Calls Try.prog 19 #[.int .i64 base, .int .i64 term] w fun e w' => ∃ p, e = .returned (.pointer (some ⟨p, 0, none⟩)) ∧ LG w' p base term [] [p] ∧ w.heap.size ≤ p ∧ Below w.heap.size w w' :=
  (new_calls base term w h0 h1).mono fun e w' ⟨p, he, hp, hl, hb⟩ => ⟨p, he, ⟨none, 0, [], hl, rfl, rfl⟩, hp, hb⟩
theorem lg_push (x : Ent) (h : LG w p base term L F) (hx : EntOk w x) (h0 : 0 ≤ base) (h1 : base ≤ 4611686018426339328) (hn : L.length ≤ 1000000) (hxn : x.b.length ≤ 1048576) :
    Calls Try.prog 20 #[.pointer (some ⟨p, 0, none⟩), .agg #[.int .i64 x.t, .int .i64 x.k, .slice x.A x.b.length x.c]] w fun e w' => ∃ F', e = .returned (.int .i64 (base + L.length + 1)) ∧ LG w' p base term (L ++ [x.con]) F' ∧ Chg F w w' ∧ Grew w F F' := by
  obtain ⟨A, cap, es, hl, rfl, rfl⟩ := h
  rw [cons_length] at hn
  refine (push_calls p A cap base term es x w hl hx h0 (by omega) (by omega) (by omega)).mono fun e w' ⟨y, A', cap', he, hxy, hl', hc, hf⟩ => ?_
  exact ⟨foot p A', by rw [cons_length]; exact he, ⟨A', cap', es ++ [y], hl', by rw [hxy.con]; simp [cons], rfl⟩, hc, hf⟩
theorem lg_last (h : LG w p base term L F) (h0 : 0 ≤ base) (h1 : base ≤ 4611686018426339328) (hn : L.length ≤ 1000000) :
    Calls Try.prog 22 #[.pointer (some ⟨p, 0, none⟩)] w fun e w' => e = .returned (.tuple #[.int .i64 (base + L.length), .int .i64 ((L.getLast?.map (·.1)).getD term)]) ∧ ∃ n, w' = w.drewN n := by
  obtain ⟨A, cap, es, hl, rfl, rfl⟩ := h
  rw [cons_length] at hn
  refine (last_calls p A cap base term es w hl h0 (by omega) (by omega)).mono fun e w' ⟨he, hn⟩ => ⟨?_, hn⟩
  rw [he, cons_length]
  have : (lastL base term es).2 = (((cons es).getLast?).map (·.1)).getD term := by
    unfold lastL cons
    rw [List.getLast?_map]
    cases es.getLast? <;> rfl
  rw [← this]; rfl
/-- the term at an index -/
def termC (base term : Int) (L : List Con) (q : Nat) : Int × Bool := match q with
  | 0 => (term, true)
  | k + 1 => match L[k]? with | some c => (c.1, true) | none => (0, false)
theorem termC_eq (es : List Ent) (q : Nat) : termL base term es (base + q) = termC base term (cons es) q := by
  cases q with
  | zero => simp [termL, termC]
  | succ k =>
    by_cases hk : k < es.length
    · have := termL_in (base := base) (term := term) hk
      rw [show base + ((k + 1 : Nat) : Int) = base + k + 1 by omega, this]
      simp [termC, cons, hk, Ent.con]
    · rw [termL_out (by omega) (by simp [hasL]; omega)]
      have : (cons es)[k]? = none := List.getElem?_eq_none (by rw [cons_length]; omega)
      simp [termC, this]
theorem lg_term (q : Nat) (h : LG w p base term L F) (h0 : 0 ≤ base) (h1 : base ≤ 4611686018426339328) (hq : q ≤ 1000000) {i : Int} (hi : i = base + q) :
    Calls Try.prog 56 #[.pointer (some ⟨p, 0, none⟩), .int .i64 i] w fun e w' => e = .returned (.tuple #[.int .i64 (termC base term L q).1, .bool (termC base term L q).2]) ∧ ∃ n, w' = w.drewN n := by
  obtain ⟨A, cap, es, hl, rfl, rfl⟩ := h
  subst hi
  have := term_calls p A cap base term es (base + q) w hl h0 (by omega) (by omega) (by omega)
  rw [termC_eq] at this
  exact this
theorem lg_get (k : Nat) (h : LG w p base term L F) (hk : k < L.length) (hf : FewC L) (h0 : 0 ≤ base) (h1 : base ≤ 4611686018426339328) (hn : L.length ≤ 1000000) {i : Int} (hi : i = base + k + 1) :
    Calls Try.prog 23 #[.pointer (some ⟨p, 0, none⟩), .int .i64 i] w fun e w' => ∃ x : Ent, e = .returned (.tuple #[.agg #[.int .i64 x.t, .int .i64 x.k, .slice x.A x.b.length x.c], .bool true]) ∧ x.con = L[k] ∧ EntOk w' x ∧ Below w.heap.size w w' := by
  obtain ⟨A, cap, es, hl, rfl, rfl⟩ := h
  subst hi
  have hk' : k < es.length := by rw [cons_length] at hk; exact hk
  rw [cons_length] at hn
  refine (get_calls p A cap base term es k hk' w hl hf.few h0 h1 (by omega)).mono fun e w' ⟨A', c', he, hok, hb⟩ => ?_
  exact ⟨⟨es[k].t, es[k].k, A', c', es[k].b⟩, he, by simp [cons, Ent.con], hok, hb⟩
theorem lg_from (q : Nat) (most : Int) (h : LG w p base term L F) (hf : FewC L) (h0 : 0 ≤ base) (h1 : base ≤ 4611686018426339328) (hn : L.length ≤ 1000000) (hq : q ≤ 1000000) {i : Int} (hi : i = base + q + 1) :
    Calls Try.prog 26 #[.pointer (some ⟨p, 0, none⟩), .int .i64 i, .int .i64 most] w fun e w' => FromOut w w' e ((L.drop q).take most.toNat) := by
  obtain ⟨A, cap, es, hl, rfl, rfl⟩ := h
  subst hi
  rw [cons_length] at hn
  by_cases hk : q < es.length
  · exact from_calls p A cap base term es q hk most w hl hf.few h0 h1 (by omega)
  · refine (from_none p A cap base term es (base + q + 1) most w hl h0 h1 (by omega) (by omega) (by simp [hasL]; omega)).mono fun e w' ⟨he, hb⟩ => ?_
    refine ⟨none, 0, [], he, ?_, ⟨rfl, Or.inl ⟨rfl, rfl⟩⟩, (fun y hy => by cases hy), (fun g hg => by cases hg), hb⟩
    rw [List.drop_eq_nil_of_le (by rw [cons_length]; omega)]
    simp [cons]
/-- entries that are handed in: a slice of them -/
structure Ents (w : World) (A : Option Addr) (n c : Nat) (Y : List Con) : Prop where
  ex : ∃ ys : List Ent, ys.length = n ∧ cons ys = Y ∧ Reads w w.heap.size 3 A n (entCells ys) ∧ (∀ y ∈ ys, EntOk w y)
  cap : n ≤ c
theorem Ents.length {A : Option Addr} {n c : Nat} {Y : List Con} (h : Ents w A n c Y) : Y.length = n := by
  obtain ⟨ys, h1, h2, _⟩ := h.ex
  rw [← h2, cons_length, h1]
def matchC (L : List Con) (q : Nat) (Y : List Con) : List Con := if agree (L.drop q) Y = Y.length then L else L.take (q + agree (L.drop q) Y) ++ Y.drop (agree (L.drop q) Y)
def firstC (base : Int) (L : List Con) (q : Nat) (Y : List Con) : Int := if agree (L.drop q) Y = Y.length then base + L.length + 1 else base + q + 1 + agree (L.drop q) Y
theorem lg_match (q : Nat) (t : Int) (A2 : Option Addr) (n2 c2 : Nat) (Y : List Con) (h : LG w p base term L F) (h0 : 0 ≤ base) (h1 : base ≤ 4611686018426339328) (hq : q ≤ L.length) (hn : L.length + Y.length ≤ 1000000)
    (ht : termC base term L q = (t, true)) (hy : Ents w A2 n2 c2 Y) (hf : FewC Y) (hsep : ∀ g, A2.map Addr.block = some g → g ∉ F) {i : Int} (hi : i = base + q) :
    Calls Try.prog 54 #[.pointer (some ⟨p, 0, none⟩), .int .i64 i, .int .i64 t, .slice A2 n2 c2] w fun e w' => ∃ F', e = .returned (.tuple #[.int .i64 (firstC base L q Y), .bool true]) ∧ LG w' p base term (matchC L q Y) F' ∧ Chg F w w' ∧ Grew w F F' := by
  obtain ⟨A, cap, es, hl, rfl, rfl⟩ := h
  obtain ⟨⟨ys, rfl, rfl, hr, hok⟩, hc⟩ := hy
  subst hi
  rw [cons_length] at hq
  rw [cons_length, cons_length] at hn
  refine (match_yes p A cap base term es q t A2 c2 ys w hl h0 h1 hq hn (by rw [termC_eq]; exact ht) hc hr hok hf.few hsep).mono fun e w' ⟨A', cap', es', he, hl', hcon, hch, hg⟩ => ?_
  refine ⟨foot p A', ?_, ⟨A', cap', es', hl', ?_, rfl⟩, hch, hg⟩
  · rw [he]; unfold firstC; rw [cons_length, cons_length]
  · rw [hcon]; unfold matchC; rw [cons_length]
theorem lg_match_no (q : Nat) (t : Int) (A2 : Option Addr) (n2 c2 : Nat) (h : LG w p base term L F) (h0 : 0 ≤ base) (h1 : base ≤ 4611686018426339328) (hq : q ≤ 1000000)
    (ht : (termC base term L q).2 = false ∨ (termC base term L q).1 ≠ t) {i : Int} (hi : i = base + q) :
    Calls Try.prog 54 #[.pointer (some ⟨p, 0, none⟩), .int .i64 i, .int .i64 t, .slice A2 n2 c2] w fun e w' => e = .returned (.tuple #[.int .i64 0, .bool false]) ∧ ∃ n, w' = w.drewN n := by
  obtain ⟨A, cap, es, hl, rfl, rfl⟩ := h
  subst hi
  exact match_no p A cap base term es (base + q) t A2 n2 c2 w hl h0 h1 (by omega) (by omega) (by rw [termC_eq]; exact ht)
end
theorem FromOut.ents {w w' : World} {e : Ending} {L : List Con} (h : FromOut w w' e L) : ∃ A' n c', e = .returned (.slice A' n c') ∧ n = L.length ∧ Ents w' A' n c' L ∧ (∀ g, A'.map Addr.block = some g → w.heap.size ≤ g) ∧ Below w.heap.size w w' := by
  obtain ⟨A', cap', ys, he, hc, hown, hok, hg, hb⟩ := h
  obtain ⟨A2, c2, e2, h1, _, _, _, hr⟩ := own_view hown
  cases e2
  exact ⟨A', ys.length, cap', he, by rw [← hc, cons_length], ⟨⟨ys, rfl, hc, hr _ (fun g hg => own_lt hown hg), hok⟩, h1⟩, hg, hb⟩
end Go.Proofs.Ytjdgkdaebkflpaa
