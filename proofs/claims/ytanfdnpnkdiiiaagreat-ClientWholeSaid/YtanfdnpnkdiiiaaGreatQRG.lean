/- One text of: Reg4 Reg5. -/
import Derived.Test.YtanfdnpnkdiiiaaGreatQReg2
import Derived.Test.YtanfdnpnkdiiiaaGreatQBase
namespace Go.Proofs.YtanfdnpnkdiiiaaGreat
open Go Go.RowKit
set_option linter.unusedVariables false

section
variable {P : Program} {ops : Array Oper} {Q : Exit → Act → World → Prop} {S : World → Prop} {E : Act → World → Prop}
section
variable {marks : List Nat}
/-- what waits for operation i, in one pass (edges go back in the text) -/
def depsOne (ops : Array Oper) (i : Nat) : List Nat :=
  (List.range ops.size).foldl (fun D j => if D.contains j then D else if ((ops[j]?).map fun o => o.after.any fun e => Region.binds .any e && D.contains e.on).getD false then D ++ [j] else D) [i]
/-- kinds: 0: it reads; 1: it acts, and S holds behind it; 2: it yields in whatever world; else: it acts, and S is given up -/
def okH (ops : Array Oper) (marks : List Nat) : List (Nat × Nat) → Array Bool → Bool
  | [], _ => true
  | (0, i) :: rest, listed => (ops[i]?).isSome && (Region.ready .any ops listed).contains i && freeG ops marks listed i (depsOne ops i) && okH ops marks rest (listed.setIfInBounds i true)
  | (1, i) :: rest, listed => (ops[i]?).isSome && (Region.ready .any ops listed == [i]) && okH ops marks rest (listed.setIfInBounds i true)
  | (2, i) :: rest, listed => (ops[i]?).isSome && (Region.ready .any ops listed).contains i && !marks.contains i && freeG ops [] listed i (depsOne ops i) && okH ops marks rest (listed.setIfInBounds i true)
  | (_ + 3, i) :: rest, listed => (ops[i]?).isSome && (Region.ready .any ops listed == [i]) && marks.any (fun m => (listed.setIfInBounds i true).getD m true) && okH ops marks rest (listed.setIfInBounds i true)
theorem lexH_sound (hs : Region.noSelect ops = true) (hQ : ∀ c (a : Act) (d : Tmp) v w, Q (.panic c) (a.put (some d) v) w → Q (.panic c) a w) :
    ∀ (ord : List (Nat × Nat)) (fuel : Nat) (listed : Array Bool) (a : Act) (w : World), okH ops marks ord listed = true → (unmarked marks listed → S w) →
      lexG P ops Q S (fun a' w' => (unmarked marks (markG ord listed) → S w') → wpAnyG P ops Q S marks fuel (markG ord listed) a' w') (ord.map fun p => (p.1, ops[p.2]?)) a w → wpAnyG P ops Q S marks (fuel + ord.length) listed a w := by
  intro ord
  induction ord with
  | nil =>
    intro fuel listed a w hok hS h
    exact h hS
  | cons p rest ih =>
    obtain ⟨e, i⟩ := p
    intro fuel listed a w hok hS h
    match e, hok, h with
    | 0, hok, h =>
      simp only [okH, Bool.and_eq_true] at hok
      obtain ⟨⟨⟨hi, hr⟩, hf⟩, hrest⟩ := hok
      obtain ⟨o, ho⟩ := Option.isSome_iff_exists.1 hi
      simp only [List.map_cons, ho, markG] at h
      simp only [List.length_cons, ← Nat.add_assoc]
      obtain ⟨v, hy, hl⟩ := h
      have hf' := hf
      simp only [freeG, ho, Bool.and_eq_true, List.all_eq_true] at hf'
      have hum : unmarked marks listed := fun m hm => by
        have h1 := hf'.1.1 m hm
        simp only [List.contains_iff_mem] at h1
        have h2 := (hf'.1.2 m h1.1).1
        simpa using h2
      refine wpAnyG_take ho _ hs hf hr (fun c a w hh => ?_) hy (hS hum) (ih fuel _ _ w hrest (fun _ => hS hum) hl)
      cases hd : o.dst with
      | none => rw [hd] at hh; exact hh
      | some d => rw [hd] at hh; exact hQ c a d v w hh
    | 1, hok, h =>
      simp only [okH, Bool.and_eq_true] at hok
      obtain ⟨⟨hi, hr⟩, hrest⟩ := hok
      obtain ⟨o, ho⟩ := Option.isSome_iff_exists.1 hi
      simp only [List.map_cons, ho, markG] at h
      simp only [List.length_cons, ← Nat.add_assoc]
      have hr' : Region.ready .any ops listed = [i] := by simpa using hr
      refine wpAnyG_all hr' (by simp) fun j hj => ?_
      obtain rfl : j = i := by simpa using hj
      simp only [lexG] at h
      simp only [wpOp, ho]
      split at h
      · rename_i hw
        rw [if_pos hw]
        rcases h with h | h
        · exact Or.inl (Oper.wp_mono (fun a' w' hh => ⟨fun _ => hh.1, ih fuel _ a' w' hrest (fun _ => hh.1) hh.2⟩) h)
        · exact Or.inr h
      · rename_i hw
        rw [if_neg hw]
        exact ⟨fun _ => h.1, ih fuel _ _ w hrest (fun _ => h.1) h.2⟩
    | 2, hok, h =>
      simp only [okH, Bool.and_eq_true] at hok
      obtain ⟨⟨⟨⟨hi, hr⟩, hmi⟩, hf⟩, hrest⟩ := hok
      obtain ⟨o, ho⟩ := Option.isSome_iff_exists.1 hi
      simp only [List.map_cons, ho, markG] at h
      simp only [List.length_cons, ← Nat.add_assoc]
      obtain ⟨v, hy, hl⟩ := h
      have hmi' : marks.contains i = false := by simpa using hmi
      have um : unmarked marks (listed.setIfInBounds i true) → unmarked marks listed := unmarked_mono
      refine wpAnyG_takeP ho _ hs hmi' hf hr (fun c a w hh => ?_) hy hS (ih fuel _ _ w hrest (fun hu => hS (um hu)) hl)
      cases hd : o.dst with
      | none => rw [hd] at hh; exact hh
      | some d => rw [hd] at hh; exact hQ c a d v w hh
    | k + 3, hok, h =>
      simp only [okH, Bool.and_eq_true] at hok
      obtain ⟨⟨⟨hi, hr⟩, hm⟩, hrest⟩ := hok
      obtain ⟨o, ho⟩ := Option.isSome_iff_exists.1 hi
      simp only [List.map_cons, ho, markG] at h
      simp only [List.length_cons, ← Nat.add_assoc]
      have hr' : Region.ready .any ops listed = [i] := by simpa using hr
      obtain ⟨m, hm1, hm2⟩ := List.any_eq_true.1 hm
      have hno : ¬ unmarked marks (listed.setIfInBounds i true) := fun hu => by
        have := hu m hm1
        rw [hm2] at this
        cases this
      refine wpAnyG_all hr' (by simp) fun j hj => ?_
      obtain rfl : j = i := by simpa using hj
      simp only [lexG] at h
      simp only [wpOp, ho]
      split at h
      · rename_i hw
        rw [if_pos hw]
        rcases h with h | h
        · exact Or.inl (Oper.wp_mono (fun a' w' hh => ⟨fun hu => absurd hu hno, ih fuel _ a' w' hrest (fun hu => absurd hu hno) hh⟩) h)
        · exact Or.inr h
      · rename_i hw
        rw [if_neg hw]
        exact ⟨fun hu => absurd hu hno, ih fuel _ _ w hrest (fun hu => absurd hu hno) h⟩

theorem region_lexh {id : Nat} {a : Act} {w : World} (S : World → Prop) (marks : List Nat) (fuel : Nat) (ord : List (Nat × Nat)) (listed : Array Bool) (hm : P.follows .mixedOrders = true) (hs : Region.noSelect ops = true) (hl : fuel + ord.length = ops.size)
    (hok : okH ops marks ord (Array.replicate ops.size false) = true) (hli : markG ord (Array.replicate ops.size false) = listed) (hQ : ∀ c (a : Act) (d : Tmp) v w, Q (.panic c) (a.put (some d) v) w → Q (.panic c) a w)
    (hS : S w.drew) (h : S w.drew → lexG P ops Q S (fun a' w' => (unmarked marks listed → S w') → wpAnyG P ops Q S marks fuel listed a' w') (ord.map fun p => (p.1, ops[p.2]?)) a w.drew) : (Code.region id ops true).wp P Q a w := by
  subst hli
  have h2 := lexH_sound hs hQ ord fuel _ _ _ hok (fun _ => hS) (h hS)
  rw [hl] at h2
  exact wp_region_any hm (wpAny_of_G _ _ _ _ h2)
end
structure LQ (P : Program) (ops : Array Oper) (Q : Exit → Act → World → Prop) (S : World → Prop) (E : Act → World → Prop) (l : List (Nat × Option Oper)) (a : Act) (w : World) : Prop where
  out : lexG P ops Q S E l a w
theorem lexG_end {E' : Act → World → Prop} (h : ∀ a w, E a w → E' a w) : ∀ (l : List (Nat × Option Oper)) (a : Act) (w : World), lexG P ops Q S E l a w → lexG P ops Q S E' l a w := by
  intro l
  induction l with
  | nil => exact fun a w hh => h a w hh
  | cons p rest ih =>
    obtain ⟨k, o⟩ := p
    intro a w hh
    cases o with
    | none => simp only [lexG] at hh
    | some o =>
      match k, hh with
      | 0, hh =>
        obtain ⟨v, hy, hl⟩ := hh
        exact ⟨v, hy, ih _ _ hl⟩
      | 1, hh =>
        simp only [lexG] at hh ⊢
        split at hh
        · rename_i hw
          rw [if_pos hw]
          rcases hh with hh | hh
          · exact Or.inl (Oper.wp_mono (fun a' w' h2 => ⟨h2.1, ih _ _ h2.2⟩) hh)
          · exact Or.inr hh
        · rename_i hw
          rw [if_neg hw]
          exact ⟨hh.1, ih _ _ hh.2⟩
      | 2, hh =>
        obtain ⟨v, hy, hl⟩ := hh
        exact ⟨v, hy, ih _ _ hl⟩
      | k + 3, hh =>
        simp only [lexG] at hh ⊢
        split at hh
        · rename_i hw
          rw [if_pos hw]
          rcases hh with hh | hh
          · exact Or.inl (Oper.wp_mono (fun a' w' h2 => ih _ _ h2) hh)
          · exact Or.inr hh
        · rename_i hw
          rw [if_neg hw]
          exact ih _ _ hh
theorem lq_nil {a : Act} {w : World} (h : E a w) : LQ P ops Q S E [] a w := ⟨h⟩
theorem lq_take {rest : List (Nat × Option Oper)} {a : Act} {w : World} {o : Oper} {v : Value}
    (hw : Region.wanted o (yielded ops a.tmps) = true) (hy : ∀ w, S w → (execOp a.eval o).run P w = .ok (.value v) w) (h : ∀ K : Act → Prop, (∀ a, LQ P ops Q S E rest a w → K a) → K (a.put o.dst v)) : LQ P ops Q S E ((0, some o) :: rest) a w :=
  ⟨lexg_take hw hy (h (fun a => lexG P ops Q S E rest a w) fun a ha => ha.out)⟩
theorem lq_skip {rest : List (Nat × Option Oper)} {a : Act} {w : World} {o : Oper}
    (hw : Region.wanted o (yielded ops a.tmps) = false) (h : ∀ K : Act → Prop, (∀ a, LQ P ops Q S E rest a w → K a) → K (a.put o.dst undef)) : LQ P ops Q S E ((0, some o) :: rest) a w :=
  ⟨lexg_skip hw (h (fun a => lexG P ops Q S E rest a w) fun a ha => ha.out)⟩
theorem lq_pure {rest : List (Nat × Option Oper)} {a : Act} {w : World} {o : Oper} {v : Value}
    (hw : Region.wanted o (yielded ops a.tmps) = true) (hy : ∀ w, (execOp a.eval o).run P w = .ok (.value v) w) (h : ∀ K : Act → Prop, (∀ a, LQ P ops Q S E rest a w → K a) → K (a.put o.dst v)) : LQ P ops Q S E ((2, some o) :: rest) a w :=
  ⟨lexg_pure hw hy (h (fun a => lexG P ops Q S E rest a w) fun a ha => ha.out)⟩
theorem lq_skipP {rest : List (Nat × Option Oper)} {a : Act} {w : World} {o : Oper}
    (hw : Region.wanted o (yielded ops a.tmps) = false) (h : ∀ K : Act → Prop, (∀ a, LQ P ops Q S E rest a w → K a) → K (a.put o.dst undef)) : LQ P ops Q S E ((2, some o) :: rest) a w :=
  ⟨lexg_skipP hw (h (fun a => lexG P ops Q S E rest a w) fun a ha => ha.out)⟩
theorem lq_eff {rest : List (Nat × Option Oper)} {a : Act} {w : World} {o : Oper}
    (hw : Region.wanted o (yielded ops a.tmps) = true) (h : ∀ (K : Act → World → Prop) (Q' : Exit → Act → World → Prop), Q' = Q → (∀ a' w', S w' → LQ P ops Q S E rest a' w' → K a' w') → o.wp P a w K Q') : LQ P ops Q S E ((1, some o) :: rest) a w :=
  ⟨lexg_eff hw (h (fun a' w' => S w' ∧ lexG P ops Q S E rest a' w') Q rfl fun a' w' hs hl => ⟨hs, hl.out⟩)⟩
theorem lq_effskip {rest : List (Nat × Option Oper)} {a : Act} {w : World} {o : Oper}
    (hw : Region.wanted o (yielded ops a.tmps) = false) (hS : S w) (h : ∀ K : Act → Prop, (∀ a, LQ P ops Q S E rest a w → K a) → K (a.put o.dst undef)) : LQ P ops Q S E ((1, some o) :: rest) a w :=
  ⟨lexg_effskip hw hS (h (fun a => lexG P ops Q S E rest a w) fun a ha => ha.out)⟩
theorem region_lq {id : Nat} {a : Act} {w : World} {l : List Oper} (S : World → Prop) (ord : List (Nat × Nat)) (listed : Array Bool) (hm : P.follows .mixedOrders = true) (hs : Region.noSelect l.toArray = true) (hl : 0 + ord.length = l.toArray.size)
    (hok : okH l.toArray [] ord (Array.replicate l.toArray.size false) = true) (hli : markG ord (Array.replicate l.toArray.size false) = listed) (hr : Region.ready .any l.toArray listed = []) (hQ : ∀ c (a : Act) (d : Tmp) v w, Q (.panic c) (a.put (some d) v) w → Q (.panic c) a w)
    (hS : S w.drew) {L : List (Nat × Option Oper)} (hL : (ord.map fun p => (p.1, l[p.2]?)) = L)
    (h : LQ P l.toArray Q S (fun a' w' => S w' → Q .normal a' w') L a w.drew) : (Code.region id l.toArray true).wp P Q a w := by
  subst hL
  refine region_lexh S [] 0 ord listed hm hs hl hok hli hQ hS fun _ => ?_
  have h1 := h.out
  have e : (ord.map fun p => (p.1, l.toArray[p.2]?)) = ord.map fun p => (p.1, l[p.2]?) := by simp
  rw [e]
  refine lexG_end (fun a' w' h2 => ?_) _ _ _ h1
  exact fun hS' => wpAnyG_done hr (h2 (hS' (by intro m hm; cases hm))) _
end
end Go.Proofs.YtanfdnpnkdiiiaaGreat

namespace Go.Proofs.YtanfdnpnkdiiiaaGreat
open Go Go.RowKit
set_option linter.unusedVariables false
section
variable {P : Program} {ops : Array Oper} {Q : Exit → Act → World → Prop} {S : World → Prop} {E : Act → World → Prop}
theorem lq_effN {rest : List (Nat × Option Oper)} {a : Act} {w : World} {o : Oper}
    (hw : Region.wanted o (yielded ops a.tmps) = true) (h : ∀ (K : Act → World → Prop) (Q' : Exit → Act → World → Prop), Q' = Q → (∀ a' w', LQ P ops Q S E rest a' w' → K a' w') → o.wp P a w K Q') : LQ P ops Q S E ((3, some o) :: rest) a w :=
  ⟨lexg_effN hw (h (fun a' w' => lexG P ops Q S E rest a' w') Q rfl fun a' w' hl => hl.out)⟩
theorem region_lqm {id : Nat} {a : Act} {w : World} {l : List Oper} (S : World → Prop) (marks : List Nat) (ord : List (Nat × Nat)) (listed : Array Bool) (hm : P.follows .mixedOrders = true) (hs : Region.noSelect l.toArray = true) (hl : 0 + ord.length = l.toArray.size)
    (hok : okH l.toArray marks ord (Array.replicate l.toArray.size false) = true) (hli : markG ord (Array.replicate l.toArray.size false) = listed) (hr : Region.ready .any l.toArray listed = []) (hQ : ∀ c (a : Act) (d : Tmp) v w, Q (.panic c) (a.put (some d) v) w → Q (.panic c) a w)
    (hS : S w.drew) {L : List (Nat × Option Oper)} (hL : (ord.map fun p => (p.1, l[p.2]?)) = L)
    (h : LQ P l.toArray Q S (fun a' w' => Q .normal a' w') L a w.drew) : (Code.region id l.toArray true).wp P Q a w := by
  subst hL
  refine region_lexh S marks 0 ord listed hm hs hl hok hli hQ hS fun _ => ?_
  have h1 := h.out
  have e : (ord.map fun p => (p.1, l.toArray[p.2]?)) = ord.map fun p => (p.1, l[p.2]?) := by simp
  rw [e]
  exact lexG_end (fun a' w' h2 _ => wpAnyG_done hr h2 _) _ _ _ h1
end
theorem giveB {L : List Nat} {a b W : World} (h : Chg L a b) (hb : Below W.heap.size W a) : Below W.heap.size W a := hb
end Go.Proofs.YtanfdnpnkdiiiaaGreat
