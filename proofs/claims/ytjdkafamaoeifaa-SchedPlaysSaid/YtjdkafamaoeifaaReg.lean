/- A region that draws its order, walked once along one order: what only reads (in every world that meets S) is taken as soon as it may come up; what acts (a call, a store) is taken where nothing else may come up. -/
import Derived.Test.YtjdkafamaoeifaaKit
import Derived.Deep.RegionHeld3
import Derived.Outline
namespace Go.Proofs.Ytjdkafamaoeifaa
open Go Go.RowKit

section
variable {P : Program} {ops : Array Oper} {Q : Exit → Act → World → Prop} {S : World → Prop}

def okOrd (ops : Array Oper) : List (Bool × Nat) → Array Bool → Bool
  | [], _ => true
  | (e, i) :: rest, listed => (ops[i]?).isSome &&
      (if e then Region.ready .any ops listed == [i] else (Region.ready .any ops listed).contains i && Region.free .any ops listed i) && okOrd ops rest (listed.setIfInBounds i true)
def markAll : List (Bool × Nat) → Array Bool → Array Bool
  | [], listed => listed
  | (_, i) :: rest, listed => markAll rest (listed.setIfInBounds i true)

/-- the operations one behind the other, written out; 'true': it acts; E: what is to be shown behind them -/
def lexL (P : Program) (ops : Array Oper) (Q : Exit → Act → World → Prop) (S : World → Prop) (E : Act → World → Prop) : List (Bool × Option Oper) → Act → World → Prop
  | [], a, w => E a w
  | (_, none) :: _, _, _ => False
  | (true, some o) :: rest, a, w =>
    if Region.wanted o (yielded ops a.tmps) then o.wp P a w (fun a' w' => S w' ∧ lexL P ops Q S E rest a' w') Q ∨ (o.asks P a w ∧ LetsOut Q) else S w ∧ lexL P ops Q S E rest (a.put o.dst undef) w
  | (false, some o) :: rest, a, w => ∃ v, YieldsIf P ops S o v a ∧ lexL P ops Q S E rest (a.put o.dst v) w

theorem lexL_sound (hs : Region.noSelect ops = true) (hQ : ∀ c (a : Act) (d : Tmp) v w, Q (.panic c) (a.put (some d) v) w → Q (.panic c) a w) :
    ∀ (ord : List (Bool × Nat)) (fuel : Nat) (listed : Array Bool) (a : Act) (w : World), okOrd ops ord listed = true → S w →
      lexL P ops Q S (fun a' w' => S w' → wpAnyH P .any ops Q S fuel (markAll ord listed) a' w') (ord.map fun p => (p.1, ops[p.2]?)) a w → wpAnyH P .any ops Q S (fuel + ord.length) listed a w := by
  intro ord
  induction ord with
  | nil =>
    intro fuel listed a w hok hS h
    exact h hS
  | cons p rest ih =>
    obtain ⟨e, i⟩ := p
    intro fuel listed a w hok hS h
    simp only [okOrd, Bool.and_eq_true] at hok
    obtain ⟨⟨hi, hc⟩, hrest⟩ := hok
    obtain ⟨o, ho⟩ := Option.isSome_iff_exists.1 hi
    simp only [List.map_cons, ho, markAll] at h
    simp only [List.length_cons, ← Nat.add_assoc]
    cases e with
    | true =>
      simp only [if_true] at hc
      have hr : Region.ready .any ops listed = [i] := by simpa using hc
      refine wpAnyH_all hr (by simp) fun j hj => ?_
      obtain rfl : j = i := by simpa using hj
      simp only [lexL] at h
      simp only [wpOp, ho]
      split at h
      · rename_i hw
        rw [if_pos hw]
        rcases h with h | h
        · exact Or.inl (Oper.wp_mono (fun a' w' hh => ⟨hh.1, ih fuel _ a' w' hrest hh.1 hh.2⟩) h)
        · exact Or.inr h
      · rename_i hw
        rw [if_neg hw]
        exact ⟨h.1, ih fuel _ _ w hrest h.1 h.2⟩
    | false =>
      simp only [Bool.false_eq_true, if_false, Bool.and_eq_true] at hc
      obtain ⟨v, hy, hl⟩ := h
      refine wpAnyH_take ho hs hc.2 hc.1 (fun c a w hh => ?_) hy hS (ih fuel _ _ w hrest hS hl)
      cases hd : o.dst with
      | none => rw [hd] at hh; exact hh
      | some d => rw [hd] at hh; exact hQ c a d v w hh

/-- the beginning: S holds behind the draw; the operations of 'ord' one behind the other; what is left in whatever order -/
theorem region_lex {id : Nat} {a : Act} {w : World} (S : World → Prop) (fuel : Nat) (ord : List (Bool × Nat)) (listed : Array Bool) (hm : P.follows .mixedOrders = true) (hs : Region.noSelect ops = true) (hl : fuel + ord.length = ops.size)
    (hok : okOrd ops ord (Array.replicate ops.size false) = true) (hli : markAll ord (Array.replicate ops.size false) = listed) (hQ : ∀ c (a : Act) (d : Tmp) v w, Q (.panic c) (a.put (some d) v) w → Q (.panic c) a w)
    (hS : S w.drew) (h : S w.drew → lexL P ops Q S (fun a' w' => S w' → wpAnyH P .any ops Q S fuel listed a' w') (ord.map fun p => (p.1, ops[p.2]?)) a w.drew) : (Code.region id ops true).wp P Q a w := by
  subst hli
  refine wp_region_held_drew hm hS fun h' => ?_
  have h2 := lexL_sound hs hQ ord fuel _ _ _ hok h' (h h')
  rw [hl] at h2
  exact h2
/-- going on, behind a fork -/
theorem lex_more {a : Act} {w : World} {fuel' : Nat} {listed0 : Array Bool} (fuel : Nat) (ord : List (Bool × Nat)) (listed : Array Bool) (hs : Region.noSelect ops = true) (hl : fuel + ord.length = fuel')
    (hok : okOrd ops ord listed0 = true) (hli : markAll ord listed0 = listed) (hQ : ∀ c (a : Act) (d : Tmp) v w, Q (.panic c) (a.put (some d) v) w → Q (.panic c) a w)
    (hS : S w) (h : lexL P ops Q S (fun a' w' => S w' → wpAnyH P .any ops Q S fuel listed a' w') (ord.map fun p => (p.1, ops[p.2]?)) a w) : wpAnyH P .any ops Q S fuel' listed0 a w := by
  subst hli; subst hl
  exact lexL_sound hs hQ ord fuel _ _ _ hok hS h
/-- several may come up -/
theorem lex_fork2 {fuel i j : Nat} {listed l1 l2 : Array Bool} {a : Act} {w : World} (hr : Region.ready .any ops listed = [i, j]) (e1 : listed.setIfInBounds i true = l1) (e2 : listed.setIfInBounds j true = l2)
    (h1 : wpOp P ops Q i (fun a' w' => S w' ∧ wpAnyH P .any ops Q S fuel l1 a' w') a w) (h2 : wpOp P ops Q j (fun a' w' => S w' ∧ wpAnyH P .any ops Q S fuel l2 a' w') a w) : wpAnyH P .any ops Q S (fuel + 1) listed a w := by
  subst e1; subst e2
  refine wpAnyH_all hr (by simp) fun k hk => ?_
  simp only [List.mem_cons, List.mem_nil_iff, or_false] at hk
  rcases hk with rfl | rfl
  · exact h1
  · exact h2
theorem lex_fork3 {fuel i j k : Nat} {listed l1 l2 l3 : Array Bool} {a : Act} {w : World} (hr : Region.ready .any ops listed = [i, j, k]) (e1 : listed.setIfInBounds i true = l1) (e2 : listed.setIfInBounds j true = l2) (e3 : listed.setIfInBounds k true = l3)
    (h1 : wpOp P ops Q i (fun a' w' => S w' ∧ wpAnyH P .any ops Q S fuel l1 a' w') a w) (h2 : wpOp P ops Q j (fun a' w' => S w' ∧ wpAnyH P .any ops Q S fuel l2 a' w') a w)
    (h3 : wpOp P ops Q k (fun a' w' => S w' ∧ wpAnyH P .any ops Q S fuel l3 a' w') a w) : wpAnyH P .any ops Q S (fuel + 1) listed a w := by
  subst e1; subst e2; subst e3
  refine wpAnyH_all hr (by simp) fun m hm => ?_
  simp only [List.mem_cons, List.mem_nil_iff, or_false] at hm
  rcases hm with rfl | rfl | rfl
  · exact h1
  · exact h2
  · exact h3
theorem lex_act {i : Nat} {a : Act} {w : World} {o : Oper} {K : Act → World → Prop} (ho : ops[i]? = some o) (hw : Region.wanted o (yielded ops a.tmps) = true) (h : o.wp P a w K Q) : wpOp P ops Q i K a w := by
  simp only [wpOp, ho, hw, if_true]
  exact Or.inl h

variable {E : Act → World → Prop}
theorem lex_take {rest : List (Bool × Option Oper)} {a : Act} {w : World} {o : Oper} {v : Value}
    (hw : Region.wanted o (yielded ops a.tmps) = true) (hy : ∀ w, S w → (execOp a.eval o).run P w = .ok (.value v) w) (h : lexL P ops Q S E rest (a.put o.dst v) w) : lexL P ops Q S E ((false, some o) :: rest) a w :=
  ⟨v, Or.inl ⟨hw, hy⟩, h⟩
theorem lex_skip {rest : List (Bool × Option Oper)} {a : Act} {w : World} {o : Oper}
    (hw : Region.wanted o (yielded ops a.tmps) = false) (h : lexL P ops Q S E rest (a.put o.dst undef) w) : lexL P ops Q S E ((false, some o) :: rest) a w :=
  ⟨undef, Or.inr ⟨hw, rfl⟩, h⟩
theorem lex_eff {rest : List (Bool × Option Oper)} {a : Act} {w : World} {o : Oper}
    (hw : Region.wanted o (yielded ops a.tmps) = true) (h : o.wp P a w (fun a' w' => S w' ∧ lexL P ops Q S E rest a' w') Q) : lexL P ops Q S E ((true, some o) :: rest) a w := by
  simp only [lexL, hw, if_true]
  exact Or.inl h
theorem lex_effskip {rest : List (Bool × Option Oper)} {a : Act} {w : World} {o : Oper}
    (hw : Region.wanted o (yielded ops a.tmps) = false) (hS : S w) (h : lexL P ops Q S E rest (a.put o.dst undef) w) : lexL P ops Q S E ((true, some o) :: rest) a w := by
  simp only [lexL, hw]
  exact ⟨hS, h⟩
theorem lex_both {p q : Prop} (hp : p) (h : p → q) : p ∧ q := ⟨hp, h hp⟩
theorem lex_nil {a : Act} {w : World} (h : E a w) : lexL P ops Q S E [] a w := h
end
end Go.Proofs.Ytjdkafamaoeifaa
