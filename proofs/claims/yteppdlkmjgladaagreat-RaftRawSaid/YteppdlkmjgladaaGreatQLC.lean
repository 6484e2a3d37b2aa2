/- One text of: Same Lg Cut. -/
import Derived.Test.YteppdlkmjgladaaGreatQRlog4
namespace Go.Proofs.YteppdlkmjgladaaGreat
open Go.RowKit
theorem zA22 {α : Type} (l : List α) (i : Nat) (a : α) : l.toArray.setIfInBounds i a = (l.set i a).toArray := by simp
theorem zB22 {α : Type} (x a : α) (l : List α) : (x :: l).set 0 a = a :: l := rfl
theorem zC22 {α : Type} (x a : α) (l : List α) (n : Nat) : (x :: l).set (n + 1) a = x :: l.set n a := rfl

theorem BytesAt.rule {w : World} {A : Option Addr} {bs : List Int} (h : BytesAt w A bs) (hk : 0 < bs.length) : ∃ b o, A = some ⟨b, o, none⟩ ∧ ∀ j x, bs[j]? = some x → w.cell? ⟨b, o + j, none⟩ = some (.int .u8 x) := by
 obtain ⟨b, o, e, _, hc⟩ := h.2 hk
 exact ⟨b, o, e, hc⟩
end Go.Proofs.YteppdlkmjgladaaGreat

namespace Go.Proofs.YteppdlkmjgladaaGreat
open Go.RowKit
set_option linter.unusedVariables false

def LG (w : World) (p : Nat) (base term : Int) (L : List Con) (F : List Nat) : Prop := ∃ A cap es, LogAt w p A cap base term es ∧ cons es = L ∧ foot p A = F
def FewC (L : List Con) : Prop := ∀ c ∈ L, c.2.2.length ≤ 1048576
def Grew (w : World) (F F' : List Nat) : Prop := ∀ g ∈ F', g ∈ F ∨ w.heap.size ≤ g
section
variable {w w' : World} {p : Nat} {base term : Int} {L : List Con} {F G : List Nat}
theorem FewC.few {es : List Ent} (h : FewC (cons es)) : Few es := fun e he => h e.con (List.mem_map_of_mem he)
theorem LG.keep (h : LG w p base term L F) (hc : Chg G w w') (hd : ∀ x ∈ F, x ∉ G) (hb : ∀ x ∈ G, ¬ ByteBlk w x) : LG w' p base term L F := by
 obtain ⟨A, cap, es, hl, e1, e2⟩ := h
 exact ⟨A, cap, es, hl.keep hc (e2 ▸ hd) hb, e1, e2⟩
theorem LG.below (h : LG w p base term L F) (hb : Below w.heap.size w w') : LG w' p base term L F := h.keep (G := []) (Chg.of_below hb) (fun _ _ hx => by cases hx) (fun _ hx => by cases hx)
theorem LG.drewN (h : LG w p base term L F) (n : Nat) : LG (w.drewN n) p base term L F := h.below (below_drewN (Below.refl _ _) _)
theorem LG.noByte (h : LG w p base term L F) : ∀ x ∈ F, ¬ ByteBlk w x := by
 obtain ⟨A, cap, es, hl, e1, rfl⟩ := h
 exact hl.noByte
theorem LG.lt (h : LG w p base term L F) : ∀ x ∈ F, x < w.heap.size := by
 obtain ⟨A, cap, es, hl, e1, rfl⟩ := h
 exact fun x hx => hl.glt hx
theorem lg_new (base term : Int) (w : World) (h0 : 0 ≤ base) (h1 : 0 ≤ term) :
  Calls Tryz.prog 38 #[.int .i64 base, .int .i64 term] w fun e w' => ∃ p, e = .returned (.pointer (some ⟨p, 0, none⟩)) ∧ LG w' p base term [] [p] ∧ w.heap.size ≤ p ∧ Below w.heap.size w w' :=
 (new_calls base term w h0 h1).mono fun e w' ⟨p, he, hp, hl, hb⟩ => ⟨p, he, ⟨none, 0, [], hl, rfl, rfl⟩, hp, hb⟩
theorem lg_push (x : Ent) (h : LG w p base term L F) (hx : EntOk w x) (h0 : 0 ≤ base) (h1 : base ≤ 4611686018426339328) (hn : L.length ≤ 1000000) (hxn : x.b.length ≤ 1048576) :
  Calls Tryz.prog 40 #[.pointer (some ⟨p, 0, none⟩), .agg #[.int .i64 x.t, .int .i64 x.k, .slice x.A x.b.length x.c]] w fun e w' => ∃ F', e = .returned (.int .i64 (base + L.length + 1)) ∧ LG w' p base term (L ++ [x.con]) F' ∧ Chg F w w' ∧ Grew w F F' := by
 obtain ⟨A, cap, es, hl, rfl, rfl⟩ := h
 rw [cons_length] at hn
 refine (push_calls p A cap base term es x w hl hx h0 (by omega) (by omega) (by omega)).mono fun e w' ⟨y, A', cap', he, hxy, hl', hc, hf⟩ => ?_
 exact ⟨foot p A', by rw [cons_length]; exact he, ⟨A', cap', es ++ [y], hl', by rw [hxy.con]; simp [cons], rfl⟩, hc, hf⟩
theorem lg_last (h : LG w p base term L F) (h0 : 0 ≤ base) (h1 : base ≤ 4611686018426339328) (hn : L.length ≤ 1000000) :
  Calls Tryz.prog 41 #[.pointer (some ⟨p, 0, none⟩)] w fun e w' => e = .returned (.tuple #[.int .i64 (base + L.length), .int .i64 ((L.getLast?.map (·.1)).getD term)]) ∧ ∃ n, w' = w.drewN n := by
 obtain ⟨A, cap, es, hl, rfl, rfl⟩ := h
 rw [cons_length] at hn
 refine (last_calls p A cap base term es w hl h0 (by omega) (by omega)).mono fun e w' ⟨he, hn⟩ => ⟨?_, hn⟩
 rw [he, cons_length]
 have : (lastL base term es).2 = (((cons es).getLast?).map (·.1)).getD term := by
  unfold lastL cons
  rw [List.getLast?_map]
  cases es.getLast? <;> rfl
 rw [← this]; rfl
def termC (base term : Int) (L : List Con) (q : Nat) : Int × Bool := match q with
 |0 => (term, true)
 |k + 1 => match L[k]? with | some c => (c.1, true) | none => (0, false)
theorem termC_eq (es : List Ent) (q : Nat) : termL base term es (base + q) = termC base term (cons es) q := by
 cases q with
 |zero => simp [termL, termC]
 |succ k =>
  by_cases hk : k < es.length
  ·have := termL_in (base := base) (term := term) hk
   rw [show base + ((k + 1 : Nat) : Int) = base + k + 1 by omega, this]
   simp [termC, cons, hk, Ent.con]
  ·rw [termL_out (by omega) (by simp [hasL]; omega)]
   have : (cons es)[k]? = none := List.getElem?_eq_none (by rw [cons_length]; omega)
   simp [termC, this]
theorem lg_term (q : Nat) (h : LG w p base term L F) (h0 : 0 ≤ base) (h1 : base ≤ 4611686018426339328) (hq : q ≤ 1000000) {i : Int} (hi : i = base + q) :
  Calls Tryz.prog 47 #[.pointer (some ⟨p, 0, none⟩), .int .i64 i] w fun e w' => e = .returned (.tuple #[.int .i64 (termC base term L q).1, .bool (termC base term L q).2]) ∧ ∃ n, w' = w.drewN n := by
 obtain ⟨A, cap, es, hl, rfl, rfl⟩ := h
 subst hi
 have := term_calls p A cap base term es (base + q) w hl h0 (by omega) (by omega) (by omega)
 rw [termC_eq] at this
 exact this
theorem lg_get (k : Nat) (h : LG w p base term L F) (hk : k < L.length) (hf : FewC L) (h0 : 0 ≤ base) (h1 : base ≤ 4611686018426339328) (hn : L.length ≤ 1000000) {i : Int} (hi : i = base + k + 1) :
  Calls Tryz.prog 50 #[.pointer (some ⟨p, 0, none⟩), .int .i64 i] w fun e w' => ∃ x : Ent, e = .returned (.tuple #[.agg #[.int .i64 x.t, .int .i64 x.k, .slice x.A x.b.length x.c], .bool true]) ∧ x.con = L[k] ∧ EntOk w' x ∧ Below w.heap.size w w' := by
 obtain ⟨A, cap, es, hl, rfl, rfl⟩ := h
 subst hi
 have hk' : k < es.length := by rw [cons_length] at hk; exact hk
 rw [cons_length] at hn
 refine (get_calls p A cap base term es k hk' w hl hf.few h0 h1 (by omega)).mono fun e w' ⟨A', c', he, hok, hb⟩ => ?_
 exact ⟨⟨es[k].t, es[k].k, A', c', es[k].b⟩, he, by simp [cons, Ent.con], hok, hb⟩
theorem lg_from (q : Nat) (most : Int) (h : LG w p base term L F) (hf : FewC L) (h0 : 0 ≤ base) (h1 : base ≤ 4611686018426339328) (hn : L.length ≤ 1000000) (hq : q ≤ 1000000) {i : Int} (hi : i = base + q + 1) :
  Calls Tryz.prog 121 #[.pointer (some ⟨p, 0, none⟩), .int .i64 i, .int .i64 most] w fun e w' => FromOut w w' e ((L.drop q).take most.toNat) := by
 obtain ⟨A, cap, es, hl, rfl, rfl⟩ := h
 subst hi
 rw [cons_length] at hn
 by_cases hk : q < es.length
 ·exact from_calls p A cap base term es q hk most w hl hf.few h0 h1 (by omega)
 ·refine (from_none p A cap base term es (base + q + 1) most w hl h0 h1 (by omega) (by omega) (by simp [hasL]; omega)).mono fun e w' ⟨he, hb⟩ => ?_
  refine ⟨none, 0, [], he, ?_, ⟨rfl, Or.inl ⟨rfl, rfl⟩⟩, (fun y hy => by cases hy), (fun g hg => by cases hg), hb⟩
  rw [List.drop_eq_nil_of_le (by rw [cons_length]; omega)]
  simp [cons]
structure Ents (w : World) (A : Option Addr) (n c : Nat) (Y : List Con) : Prop where
 ex : ∃ ys : List Ent, ys.length = n ∧ cons ys = Y ∧ Reads w w.heap.size 3 A n (entCells ys) ∧ (∀ y ∈ ys, EntOk w y)
 cap : n ≤ c
theorem Ents.length {A : Option Addr} {n c : Nat} {Y : List Con} (h : Ents w A n c Y) : Y.length = n := by
 obtain ⟨ys, h1, h2, _⟩ := h.ex
 rw [← h2, cons_length, h1]
def matchC (L : List Con) (q : Nat) (Y : List Con) : List Con := if agree (L.drop q) Y = Y.length then L else L.take (q + agree (L.drop q) Y) ++ Y.drop (agree (L.drop q) Y)
def firstC (base : Int) (L : List Con) (q : Nat) (Y : List Con) : Int := if agree (L.drop q) Y = Y.length then base + L.length + 1 else base + q + 1 + agree (L.drop q) Y
theorem lg_match (q : Nat) (t : Int) (A2 : Option Addr) (n2 c2 : Nat) (Y : List Con) (h : LG w p base term L F) (h0 : 0 ≤ base) (h1 : base ≤ 4611686018426339328) (hq : q ≤ L.length) (hn : L.length + Y.length ≤ 1000000)
  (ht : termC base term L q = (t, true)) (hy : Ents w A2 n2 c2 Y) (hf : FewC Y) (hsep : ∀ g, A2.map Addr.block = some g → g ∉ F) {i : Int} (hi : i = base + q) :
  Calls Tryz.prog 128 #[.pointer (some ⟨p, 0, none⟩), .int .i64 i, .int .i64 t, .slice A2 n2 c2] w fun e w' => ∃ F', e = .returned (.tuple #[.int .i64 (firstC base L q Y), .bool true]) ∧ LG w' p base term (matchC L q Y) F' ∧ Chg F w w' ∧ Grew w F F' := by
 obtain ⟨A, cap, es, hl, rfl, rfl⟩ := h
 obtain ⟨⟨ys, rfl, rfl, hr, hok⟩, hc⟩ := hy
 subst hi
 rw [cons_length] at hq
 rw [cons_length, cons_length] at hn
 refine (match_yes p A cap base term es q t A2 c2 ys w hl h0 h1 hq hn (by rw [termC_eq]; exact ht) hc hr hok hf.few hsep).mono fun e w' ⟨A', cap', es', he, hl', hcon, hch, hg⟩ => ?_
 refine ⟨foot p A', ?_, ⟨A', cap', es', hl', ?_, rfl⟩, hch, hg⟩
 ·rw [he]; unfold firstC; rw [cons_length, cons_length]
 ·rw [hcon]; unfold matchC; rw [cons_length]
end
theorem FromOut.ents {w w' : World} {e : Ending} {L : List Con} (h : FromOut w w' e L) : ∃ A' n c', e = .returned (.slice A' n c') ∧ n = L.length ∧ Ents w' A' n c' L ∧ (∀ g, A'.map Addr.block = some g → w.heap.size ≤ g) ∧ Below w.heap.size w w' := by
 obtain ⟨A', cap', ys, he, hc, hown, hok, hg, hb⟩ := h
 obtain ⟨A2, c2, e2, h1, _, _, _, hr⟩ := own_view hown
 cases e2
 exact ⟨A', ys.length, cap', he, by rw [← hc, cons_length], ⟨⟨ys, rfl, hc, hr _ (fun g hg => own_lt hown hg), hok⟩, h1⟩, hg, hb⟩
end Go.Proofs.YteppdlkmjgladaaGreat

namespace Go.Proofs.YteppdlkmjgladaaGreat
open Go.RowKit
set_option linter.unusedVariables false

set_option maxHeartbeats 1000000 in
theorem cloneE_nil (n c : Nat) (w : World) : Calls Tryz.prog 158 #[.slice none n c] w fun e w' => e = .returned (.slice none 0 0) ∧ w = w' := by
 have q22 : ∀ (w : World) (a : Option Addr) (n c n' c' : Nat), (binOp .eql 158 (.slice a n c) (.slice none n' c')).run Tryz.prog w = .ok (.bool a.isNone) w := fun w a n c n' c' => Lib.run_eql_slice_nil w _ _ a n c n' c' Tryz.underlying158
 go_enter Tryz.func158, Tryz.ntmps158
 go_wp2
 go_ret
 exact ⟨rfl, rfl⟩
set_option maxHeartbeats 1000000 in
theorem cloneE_some (b o n c : Nat) (xs : List Value) (w : World) (hl : xs.length = n * 3) (hn : n ≤ 1048576) (hc : ∀ j u, xs[j]? = some u → w.cell? ⟨b, o + j, none⟩ = some u) (h1 : ∀ u ∈ xs, u.oneCell' = true) :
  Calls Tryz.prog 158 #[.slice (some ⟨b, o, none⟩) n c] w fun e w' => ∃ v, e = .returned v ∧ w'.ownsRow 0 73 3 v n xs ∧ (∀ g, v.ownBlock = some g → w.heap.size ≤ g) ∧ Below w.heap.size w w' := by
 have q22 : ∀ (w : World) (a : Option Addr) (n c n' c' : Nat), (binOp .eql 158 (.slice a n c) (.slice none n' c')).run Tryz.prog w = .ok (.bool a.isNone) w := fun w a n c n' c' => Lib.run_eql_slice_nil w _ _ a n c n' c' Tryz.underlying158
 obtain ⟨i0, hi, hz0, hz1, hz2⟩ := info_parts Tryz.infoEnt
 have HC := hide hc
 clear hc
 go_enter Tryz.func158, Tryz.ntmps158
 go_wp2_with (at_builtin; refine wpList_append_own _ rfl _ _ 158 rfl w.heap.size 73 i0 _ 3 40 Tryz.underlying158 hi hz0 hz1 hz2 rfl (by decide) _ _ _ rfl (World.ownsRow_made w #[] 0 (Nat.le_refl _) (Nat.zero_le _) (by simp)) ⟨b, o, none⟩ n c xs rfl ?qc1 ?qc2 ?qc3 ?qc4 ?qc5 ?qc6 ?_)
 case qc1 => exact hl
 case qc2 =>
  intro j u hj
  rw [add_addr]
  exact Lib.cell?_alloc_some _ (HC.out j u hj)
 case qc3 => exact h1
 case qc4 => unfold maxLen; omega
 case qc5 => omega
 case qc6 => simp
 intro v' w1 hown hgrow hnil
 have hlt := hown.lt
 go_wp2
 go_ret
 exact ⟨v', rfl, by simpa using own_base hown, fun g hg => (hlt g hg).1, ((Below.refl _ w).alloc (Nat.le_refl _) _).grown hgrow (by simp) (by intro k hk; simp [Value.ownBlock] at hk; omega)⟩
theorem cloneE_calls (A : Option Addr) (n c : Nat) (xs : List Value) (w : World) (hn : n ≤ 1048576) (hA : ∀ a, A = some a → a.spot = none) (hr : Reads w w.heap.size 3 A n xs) (h1 : ∀ u ∈ xs, u.oneCell' = true) :
  Calls Tryz.prog 158 #[.slice A n c] w fun e w' => ∃ A' c', e = .returned (.slice A' n c') ∧ w'.ownsRow 0 73 3 (.slice A' n c') n xs ∧ (∀ g, A'.map Addr.block = some g → w.heap.size ≤ g) ∧ Below w.heap.size w w' := by
 cases A with
 |none =>
  have h0 : n = 0 := by
   rcases Nat.eq_zero_or_pos n with h | h
   ·exact h
   ·obtain ⟨b, o, h, _⟩ := hr.2 h
    cases h
  subst h0
  obtain rfl : xs = [] := List.eq_nil_of_length_eq_zero (by simpa using hr.1)
  refine (cloneE_nil 0 c w).mono fun e w' ⟨he, hw⟩ => ?_
  subst hw
  exact ⟨none, 0, he, ⟨rfl, Or.inl ⟨rfl, rfl⟩⟩, (fun g hg => by cases hg), Below.refl _ _⟩
 |some a =>
  obtain ⟨b, o, s⟩ := a
  obtain rfl : s = none := hA _ rfl
  refine (cloneE_some b o n c xs w hr.1 hn (fun j u hu => ?_) h1).mono fun e w' ⟨v, he, hown, hg, hb⟩ => ?_
  ·have h0 : 0 < n := by have := (List.getElem?_eq_some_iff.1 hu).1; rw [hr.1] at this; omega
   obtain ⟨b', o', e, _, h⟩ := hr.2 h0
   cases e
   exact h j u hu
  ·obtain ⟨A', c', rfl, _⟩ := own_view hown
   exact ⟨A', c', he, hown, fun g h => hg g (by rw [owS]; exact h), hb⟩
theorem entCells_one (es : List Ent) : ∀ u ∈ entCells es, u.oneCell' = true := by
 intro u hu
 obtain ⟨e, _, h⟩ := List.mem_flatMap.1 hu
 simp [Ent.cells] at h
 rcases h with rfl | rfl | rfl <;> rfl
set_option maxHeartbeats 4000000 in
theorem cut_yes (p : Nat) (A : Option Addr) (cap : Nat) (base term : Int) (es : List Ent) (q : Nat) (t : Int) (w : World) (h : LogAt w p A cap base term es) (h0 : 0 ≤ base) (h1 : base ≤ 4611686018426339328)
  (hq : q ≤ es.length) (hn : es.length ≤ 1000000) (ht : termL base term es (base + q) = (t, true)) :
  Calls Tryz.prog 130 #[.pointer (some ⟨p, 0, none⟩), .int .i64 (base + q)] w fun e w' => ∃ F', e = .returned (.bool true) ∧ LG w' p (base + q) t ((cons es).drop q) F' ∧ Chg (foot p A) w w' ∧ Grew w (foot p A) F' := by
 have HT := hide ht
 clear ht
 have cg := h.cap_ge.1
 have e1 : IntKind.i64.wrap (base + q - base) = (q : Int) := by rw [IntWalk.i64_in _ (by omega)]; omega
 have hAsp : ∀ a, A = some a → a.spot = none ∧ a.off = 0 := fun a ha => by
  subst ha
  rcases h.own.2 with ⟨e, _⟩ | ⟨g, cp, cur, e, _⟩ <;> cases e
  exact ⟨rfl, rfl⟩
 by_cases hcq : cap = q
 ·have HA := hide (fun a ha => (hAsp a ha).1)
  clear hAsp
  obtain rfl : q = cap := hcq.symm
  clear hcq
  go_enter Tryz.func130, Tryz.ntmps130
  go_wp2_with fail
  with_reducible refine (term_calls _ _ _ _ _ _ _ _ h h0 (by omega) (by omega) (by omega)).mono ?_
  rintro e w1 ⟨rfl, n, hw1⟩
  have L0 : LogAt w1 p A q base term es := by rw [hw1]; exact h.drewN _
  have W1 : Below w.heap.size w w1 := by rw [hw1]; exact below_drewN (Below.refl _ _) _
  clear hw1
  rw [HT.out]
  have c0 := L0.blk.rule 0 _ rfl
  have c2 := L0.blk.rule 2 _ rfl
  have r0 := Below.refl w1.heap.size w1
  have i1 : (q : Int) ≤ es.length := by omega
  have RD : ∀ w', Below w1.heap.size w1 w' → Reads w' w'.heap.size 3 A (0) (entCells (es.drop q)) := fun w' hb => by
   have := L0.reads.cut hq cg
   rw [entCells_drop] at this
   have th : Reads w1 w1.heap.size 3 A (0) (entCells (es.drop q)) := by rw [if_pos rfl, show es.length - q = 0 by omega] at this; exact this
   exact (th.below hb).more hb.size
  have HRD := hide RD
  clear RD
  go_wp2
  refine lxR (fun w' => Below w1.heap.size w1 w') [15] 0 [(2, 0), (2, 1), (2, 2), (2, 3), (0, 4), (2, 5), (2, 6), (2, 7), (2, 8), (0, 9), (2, 10), (2, 11), (1, 12), (2, 13), (2, 14), (3, 15)] #[true, true, true, true, true, true, true, true, true, true, true, true, true, true, true, true] (by kernel_rfl) (by kernel_rfl) (by decide) (by kernel_rfl) (by kernel_rfl) (fun _ _ _ _ _ h => h) (by (first | exact r0.drew | exact hb2)) (fun hS0 => ?_)
  simp only [List.map_cons, List.map_nil, List.getElem?_toArray, List.getElem?_cons_succ, List.getElem?_cons_zero]
  (iterate 4 ((apply lxP (by rfl); (focus (intro w; go_simp; (try with_reducible rfl); done)); simp only [Act.put, zA22, zB22, zC22]))); (apply lxT (by rfl); (focus (intro w hw; (try dsimp only at hw); go_simp; (try with_reducible rfl); done)); simp only [Act.put, zA22, zB22, zC22]); (iterate 4 ((apply lxP (by rfl); (focus (intro w; go_simp; (try with_reducible rfl); done)); simp only [Act.put, zA22, zB22, zC22]))); (apply lxT (by rfl); (focus (intro w hw; (try dsimp only at hw); go_simp; (try with_reducible rfl); done)); simp only [Act.put, zA22, zB22, zC22]); (iterate 2 ((apply lxP (by rfl); (focus (intro w; go_simp; (try with_reducible rfl); done)); simp only [Act.put, zA22, zB22, zC22]))); (refine lxE (by rfl) ?_; go_simp; ((go_at_call 158; (refine (cloneE_calls A (0) (0) (entCells (es.drop q)) w1.drew (by omega) HA.out (HRD.out _ r0.drew) (entCells_one _)).mono ?_); rintro e w2 ⟨A', c', rfl, hown, hg, hb⟩; have hb2 : Below w1.heap.size w1 w2 := r0.drew.trans hb; have L2 := L0.below hb2; have d0 := L2.blk.cell 0; have d1 := L2.blk.cell 1; have d2 := L2.blk.cell 2; have f0 := L2.blk.frozen 0; have f1 := L2.blk.frozen 1; have f2 := L2.blk.frozen 2)); refine lxB (by (first | exact r0.drew | exact hb2)) (fun hS1 => ?_)); (iterate 2 ((apply lxP (by rfl); (focus (intro w; go_simp; (try with_reducible rfl); done)); simp only [Act.put, zA22, zB22, zC22]))); (refine lxF (by rfl) ?_; go_simp)
  refine lxN (fun _ => wqD (by kernel_rfl) ?_ _)
  clear c0 c2 r0 hS0 hS1
  go_wp2
  go_ret
  have hdl : (es.drop q).length = 0 := by have := List.length_drop (l := es) (i := q); omega
  have CH : Chg [p] w2 (((w2.setCell ⟨p, 2, none⟩ (.slice A' (0) c')).setCell ⟨p, 0, none⟩ (.int .i64 (base + q))).setCell ⟨p, 1, none⟩ (.int .i64 t)) :=
   (((Chg.refl [p] w2).setCell (Or.inl (by simp)) _).setCell (Or.inl (by simp)) _).setCell (Or.inl (by simp)) _
  have hpA : ∀ g, A'.map Addr.block = some g → g ≠ p := fun g' hg' e => by
   have h5 := hg g' hg'
   have h6 := L0.plt
   rw [e] at h5
   simp at h5
   omega
  have P3 := ((L2.blk.set 2 (.slice A' (0) c')).set 0 (.int .i64 (base + q))).set 1 (.int .i64 t)
  refine ⟨foot p A', rfl, ⟨A', c', es.drop q, ⟨?_, ?_, ?_⟩, by simp [cons], rfl⟩, ?_, ?_⟩
  ·rw [hdl]; exact P3
  ·have := own_chg hown CH (fun g' hg' => by
    rw [owS] at hg'
    rw [List.mem_singleton]
    exact hpA g' hg')
   rw [hdl]; exact this
  ·exact fun e he => (L2.ok e (List.mem_of_mem_drop he)).chg CH (by simpa using L2.blk.notByte (by decide))
  ·exact ((Chg.of_below W1).below hb2).trans CH (fun z hz => Or.inl (by rw [List.mem_singleton.1 hz]; simp [foot]))
  ·intro z hz
   unfold foot at hz
   rcases List.mem_cons.1 hz with h5 | h5
   ·exact Or.inl (by rw [h5]; simp [foot])
   ·have h6 := hg z (by simpa using h5)
    simp at h6
    exact Or.inr (Nat.le_trans W1.size h6)
 ·have h5 : ∃ g, A = some ⟨g, 0, none⟩ := by
   rcases h.own.2 with ⟨e, _⟩ | ⟨g, cp, cur, e, _⟩
   ·injection e with e1 e2 e3; omega
   ·injection e with e1 e2 e3; exact ⟨g, e1⟩
  obtain ⟨g, rfl⟩ := h5
  have HA := hide (show ∀ a, some (⟨g, q * 3, none⟩ : Addr) = some a → a.spot = none from fun a ha => by cases ha; rfl)
  clear hAsp
  go_enter Tryz.func130, Tryz.ntmps130
  go_wp2_with fail
  with_reducible refine (term_calls _ _ _ _ _ _ _ _ h h0 (by omega) (by omega) (by omega)).mono ?_
  rintro e w1 ⟨rfl, n, hw1⟩
  have L0 : LogAt w1 p (some ⟨g, 0, none⟩) cap base term es := by rw [hw1]; exact h.drewN _
  have W1 : Below w.heap.size w w1 := by rw [hw1]; exact below_drewN (Below.refl _ _) _
  clear hw1
  rw [HT.out]
  have c0 := L0.blk.rule 0 _ rfl
  have c2 := L0.blk.rule 2 _ rfl
  have r0 := Below.refl w1.heap.size w1
  have i1 : (q : Int) ≤ es.length := by omega
  have RD : ∀ w', Below w1.heap.size w1 w' → Reads w' w'.heap.size 3 (some ⟨g, q * 3, none⟩) (es.length - q) (entCells (es.drop q)) := fun w' hb => by
   have := L0.reads.cut hq cg
   rw [entCells_drop] at this
   have th : Reads w1 w1.heap.size 3 (some ⟨g, q * 3, none⟩) (es.length - q) (entCells (es.drop q)) := by rw [if_neg hcq, Option.map_some, add_addr, Nat.zero_add] at this; exact this
   exact (th.below hb).more hb.size
  have HRD := hide RD
  clear RD
  go_wp2
  refine lxR (fun w' => Below w1.heap.size w1 w') [15] 0 [(2, 0), (2, 1), (2, 2), (2, 3), (0, 4), (2, 5), (2, 6), (2, 7), (2, 8), (0, 9), (2, 10), (2, 11), (1, 12), (2, 13), (2, 14), (3, 15)] #[true, true, true, true, true, true, true, true, true, true, true, true, true, true, true, true] (by kernel_rfl) (by kernel_rfl) (by decide) (by kernel_rfl) (by kernel_rfl) (fun _ _ _ _ _ h => h) (by (first | exact r0.drew | exact hb2)) (fun hS0 => ?_)
  simp only [List.map_cons, List.map_nil, List.getElem?_toArray, List.getElem?_cons_succ, List.getElem?_cons_zero]
  (iterate 4 ((apply lxP (by rfl); (focus (intro w; go_simp; (try with_reducible rfl); done)); simp only [Act.put, zA22, zB22, zC22]))); (apply lxT (by rfl); (focus (intro w hw; (try dsimp only at hw); go_simp; (try with_reducible rfl); done)); simp only [Act.put, zA22, zB22, zC22]); (iterate 4 ((apply lxP (by rfl); (focus (intro w; go_simp; (try with_reducible rfl); done)); simp only [Act.put, zA22, zB22, zC22]))); (apply lxT (by rfl); (focus (intro w hw; (try dsimp only at hw); go_simp; (try with_reducible rfl); done)); simp only [Act.put, zA22, zB22, zC22]); (iterate 2 ((apply lxP (by rfl); (focus (intro w; go_simp; (try with_reducible rfl); done)); simp only [Act.put, zA22, zB22, zC22]))); (refine lxE (by rfl) ?_; go_simp; ((go_at_call 158; (refine (cloneE_calls (some ⟨g, q * 3, none⟩) (es.length - q) (cap - q) (entCells (es.drop q)) w1.drew (by omega) HA.out (HRD.out _ r0.drew) (entCells_one _)).mono ?_); rintro e w2 ⟨A', c', rfl, hown, hg, hb⟩; have hb2 : Below w1.heap.size w1 w2 := r0.drew.trans hb; have L2 := L0.below hb2; have d0 := L2.blk.cell 0; have d1 := L2.blk.cell 1; have d2 := L2.blk.cell 2; have f0 := L2.blk.frozen 0; have f1 := L2.blk.frozen 1; have f2 := L2.blk.frozen 2)); refine lxB (by (first | exact r0.drew | exact hb2)) (fun hS1 => ?_)); (iterate 2 ((apply lxP (by rfl); (focus (intro w; go_simp; (try with_reducible rfl); done)); simp only [Act.put, zA22, zB22, zC22]))); (refine lxF (by rfl) ?_; go_simp)
  refine lxN (fun _ => wqD (by kernel_rfl) ?_ _)
  clear c0 c2 r0 hS0 hS1
  go_wp2
  go_ret
  have hdl : (es.drop q).length = es.length - q := by have := List.length_drop (l := es) (i := q); omega
  have CH : Chg [p] w2 (((w2.setCell ⟨p, 2, none⟩ (.slice A' (es.length - q) c')).setCell ⟨p, 0, none⟩ (.int .i64 (base + q))).setCell ⟨p, 1, none⟩ (.int .i64 t)) :=
   (((Chg.refl [p] w2).setCell (Or.inl (by simp)) _).setCell (Or.inl (by simp)) _).setCell (Or.inl (by simp)) _
  have hpA : ∀ g, A'.map Addr.block = some g → g ≠ p := fun g' hg' e => by
   have h5 := hg g' hg'
   have h6 := L0.plt
   rw [e] at h5
   simp at h5
   omega
  have P3 := ((L2.blk.set 2 (.slice A' (es.length - q) c')).set 0 (.int .i64 (base + q))).set 1 (.int .i64 t)
  refine ⟨foot p A', rfl, ⟨A', c', es.drop q, ⟨?_, ?_, ?_⟩, by simp [cons], rfl⟩, ?_, ?_⟩
  ·rw [hdl]; exact P3
  ·have := own_chg hown CH (fun g' hg' => by
    rw [owS] at hg'
    rw [List.mem_singleton]
    exact hpA g' hg')
   rw [hdl]; exact this
  ·exact fun e he => (L2.ok e (List.mem_of_mem_drop he)).chg CH (by simpa using L2.blk.notByte (by decide))
  ·exact ((Chg.of_below W1).below hb2).trans CH (fun z hz => Or.inl (by rw [List.mem_singleton.1 hz]; simp [foot]))
  ·intro z hz
   unfold foot at hz
   rcases List.mem_cons.1 hz with h5 | h5
   ·exact Or.inl (by rw [h5]; simp [foot])
   ·have h6 := hg z (by simpa using h5)
    simp at h6
    exact Or.inr (Nat.le_trans W1.size h6)

section
variable {w w' W : World} {p p1 p2 : Nat} {base term b1 t1 b2 t2 : Int} {L L1 L2 : List Con} {F : List Nat}
theorem lg_cut (q : Nat) (h : LG w p base term L F) (h0 : 0 ≤ base) (h1 : base ≤ 4611686018426339328) (hq : q ≤ L.length) (hn : L.length ≤ 1000000) {t : Int} (ht : termC base term L q = (t, true)) {i : Int} (hi : i = base + q) :
  Calls Tryz.prog 130 #[.pointer (some ⟨p, 0, none⟩), .int .i64 i] w fun e w' => ∃ F', e = .returned (.bool true) ∧ LG w' p (base + q) t (L.drop q) F' ∧ Chg F w w' ∧ Grew w F F' := by
 obtain ⟨A, cap, es, hl, rfl, rfl⟩ := h
 subst hi
 rw [cons_length] at hq hn
 exact cut_yes p A cap base term es q t w hl h0 h1 hq hn (by rw [termC_eq]; exact ht)
def Two (W w : World) (p1 p2 : Nat) (b1 t1 : Int) (L1 : List Con) (b2 t2 : Int) (L2 : List Con) : Prop :=
 ∃ F1 F2, LG w p1 b1 t1 L1 F1 ∧ LG w p2 b2 t2 L2 F2 ∧ (∀ x ∈ F1, x ∉ F2) ∧ (∀ x ∈ F1, W.heap.size ≤ x) ∧ (∀ x ∈ F2, W.heap.size ≤ x) ∧ Below W.heap.size W w
theorem Two.bel (h : Two W w p1 p2 b1 t1 L1 b2 t2 L2) : Below W.heap.size W w := by obtain ⟨_, _, _, _, _, _, _, h⟩ := h; exact h
theorem Two.below (h : Two W w p1 p2 b1 t1 L1 b2 t2 L2) (hb : Below w.heap.size w w') : Two W w' p1 p2 b1 t1 L1 b2 t2 L2 := by
 obtain ⟨F1, F2, l1, l2, hd, g1, g2, hw⟩ := h
 exact ⟨F1, F2, l1.below hb, l2.below hb, hd, g1, g2, hw.trans (hb.mono hw.size)⟩
theorem Two.one (h : Two W w p1 p2 b1 t1 L1 b2 t2 L2) : ∃ F, LG w p1 b1 t1 L1 F ∧ ∀ w' b t L F', LG w' p1 b t L F' → Chg F w w' → Grew w F F' → Two W w' p1 p2 b t L b2 t2 L2 := by
 obtain ⟨F1, F2, l1, l2, hd, g1, g2, hw⟩ := h
 refine ⟨F1, l1, fun w' b t L F' l1' hc hg => ⟨F', F2, l1', l2.keep hc (fun x hx h => hd x h hx) l1.noByte, fun x hx h => ?_, fun x hx => ?_, g2, Chg.onto hw hw.size hc g1⟩⟩
 ·rcases hg x hx with h5 | h5
  ·exact hd x h5 h
  ·have := l2.lt x h; omega
 ·rcases hg x hx with h5 | h5
  ·exact g1 x h5
  ·exact Nat.le_trans hw.size h5
end
end Go.Proofs.YteppdlkmjgladaaGreat
