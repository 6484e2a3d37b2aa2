/- One text of: Reg2 Reg6 Reg3. -/
import Derived.Deep.RegionHeld3
import Derived.Deep.AppendLies
import Derived.Outline
import Derived.Deep.Quiet
import Derived.Test.YtcahcjfgmdpdoaaGreatQBase
namespace Go.Proofs.YtcahcjfgmdpdoaaGreat
open Go Go.RowKit

section
variable {P : Program} {ops : Array Oper} {Q : Exit → Act → World → Prop} {S : World → Prop} {marks : List Nat}

def unmarked (marks : List Nat) (listed : Array Bool) : Prop := ∀ m ∈ marks, listed.getD m true = false
def wpAnyG (P : Program) (ops : Array Oper) (Q : Exit → Act → World → Prop) (S : World → Prop) (marks : List Nat) : Nat → Array Bool → Act → World → Prop
 |0, listed, a, w => Region.ready .any ops listed = [] ∧ Q .normal a w
 |fuel + 1, listed, a, w =>
  (Region.ready .any ops listed = [] → Q .normal a w) ∧
  ∀ i ∈ Region.ready .any ops listed, wpOp P ops Q i (fun a' w' => (unmarked marks (listed.setIfInBounds i true) → S w') ∧ wpAnyG P ops Q S marks fuel (listed.setIfInBounds i true) a' w') a w
theorem wpAny_of_G : ∀ (fuel : Nat) (listed : Array Bool) (a : Act) (w : World), wpAnyG P ops Q S marks fuel listed a w → wpAny P .any ops Q fuel listed a w
 |0, _, _, _, h => h
 |fuel + 1, _, _, _, h => ⟨h.1, fun i hi => wpOp_mono (fun a' w' h' => wpAny_of_G fuel _ a' w' h'.2) (h.2 i hi)⟩

theorem wpAnyG_first {i : Nat} {oi : Oper} {v : Value} (hi : ops[i]? = some oi) (hsel : ∀ (j : Nat) (o : Oper) cs b, ops[j]? = some o → o.op ≠ .select cs b)
  (hQ : ∀ c a w, Q (.panic c) (a.put oi.dst v) w → Q (.panic c) a w) (D : List Nat) (hmD : ∀ m ∈ marks, m ∈ D ∧ m ≠ i)
  (hD : ∀ j ∈ D, j ≠ i → ∃ oj, ops[j]? = some oj ∧ ∃ e ∈ oj.after, Region.binds .any e = true ∧ e.on ∈ D) :
  ∀ (fuel : Nat) (listed : Array Bool) (a : Act) (w : World),
   (∀ j ∈ D, listed.getD j true = false) →
   (∀ j oj, ops[j]? = some oj → j ∉ D → j ≠ i → listed.getD j true = false → oi.apart ops oj = true) →
   i ∈ Region.ready .any ops listed → YieldsIf P ops S oi v a → S w →
   wpAnyG P ops Q S marks fuel (listed.setIfInBounds i true) (a.put oi.dst v) w → wpAnyG P ops Q S marks (fuel + 1) listed a w := by
 intro fuel
 induction fuel with
 |zero =>
  intro listed a w _ _ hr hy hS H
  refine ⟨fun h => (by rw [h] at hr; cases hr), fun j hj => ?_⟩
  by_cases hji : j = i
  ·subst hji; exact hy.wpOp hi hS ⟨fun _ => hS, H⟩
  ·have := ready_mono hj hji
   rw [H.1] at this
   cases this
 |succ fuel ih =>
  intro listed a w hun hfree hr hy hS H
  refine ⟨fun h => (by rw [h] at hr; cases hr), fun j hj => ?_⟩
  by_cases hji : j = i
  ·subst hji; exact hy.wpOp hi hS ⟨fun _ => hS, H⟩
  ·have h1 := H.2 j (ready_mono hj hji)
   obtain ⟨hjun, oj, hoj, hall⟩ := mem_ready.1 hj
   have hjD : j ∉ D := fun hjD => by
    obtain ⟨oj', hoj', e, he, hb, hon⟩ := hD j hjD hji; rw [hoj] at hoj'
    cases hoj'
    have h2 := hall e he hb; have h3 := hun e.on hon
    rcases Nat.lt_or_ge e.on listed.size with h' | h'
    ·simp [h'] at h2 h3; rw [h2] at h3; cases h3
    ·simp [Array.getElem?_eq_none h'] at h2
   have h2 := wpOp_putIf hoj (hfree j oj hoj hjD hji hjun) (fun cs b => hsel i oi cs b hi) (fun cs b => hsel j oj cs b hoj) hQ hy h1
   have hun' : ∀ k ∈ D, (listed.setIfInBounds j true).getD k true = false := fun k hk => by
    rw [getD_set_ne true (show j ≠ k from fun e => hjD (e ▸ hk))]; exact hun k hk
   have hfree' : ∀ k ok, ops[k]? = some ok → k ∉ D → k ≠ i → (listed.setIfInBounds j true).getD k true = false → oi.apart ops ok = true := fun k ok hk hkD hki hu => by
    refine hfree k ok hk hkD hki ?_
    by_cases hjk : j = k
    ·subst hjk; exact hjun
    ·rw [getD_set_ne true hjk] at hu; exact hu
   have hum : unmarked marks ((listed.setIfInBounds i true).setIfInBounds j true) := fun m hm => by
    obtain ⟨h5, h6⟩ := hmD m hm; rw [getD_set_ne true (show j ≠ m from fun e => hjD (e ▸ h5)), getD_set_ne true (Ne.symm h6)]
    exact hun m h5
   refine wpOp_mono (fun a' w' h3 => ?_) h2
   have hS' := h3.2.1 hum
   refine ⟨fun _ => hS', ih (listed.setIfInBounds j true) a' w' hun' hfree' (ready_mono hr (Ne.symm hji)) h3.1 hS' ?_⟩
   rw [Array.setIfInBounds_comm _ _ hji]
   exact h3.2.2

theorem wpAnyG_firstP {i : Nat} {oi : Oper} {v : Value} (hi : ops[i]? = some oi) (hsel : ∀ (j : Nat) (o : Oper) cs b, ops[j]? = some o → o.op ≠ .select cs b)
  (hQ : ∀ c a w, Q (.panic c) (a.put oi.dst v) w → Q (.panic c) a w) (D : List Nat) (hmi : ∀ m ∈ marks, m ≠ i)
  (hD : ∀ j ∈ D, j ≠ i → ∃ oj, ops[j]? = some oj ∧ ∃ e ∈ oj.after, Region.binds .any e = true ∧ e.on ∈ D) :
  ∀ (fuel : Nat) (listed : Array Bool) (a : Act) (w : World),
   (∀ j ∈ D, listed.getD j true = false) →
   (∀ j oj, ops[j]? = some oj → j ∉ D → j ≠ i → listed.getD j true = false → oi.apart ops oj = true) →
   i ∈ Region.ready .any ops listed → YieldsIf P ops (fun _ => True) oi v a → (unmarked marks listed → S w) →
   wpAnyG P ops Q S marks fuel (listed.setIfInBounds i true) (a.put oi.dst v) w → wpAnyG P ops Q S marks (fuel + 1) listed a w := by
 have um : ∀ listed : Array Bool, unmarked marks (listed.setIfInBounds i true) → unmarked marks listed := fun listed h m hm => by
  have := h m hm
  rwa [getD_set_ne true (Ne.symm (hmi m hm))] at this
 have um' : ∀ listed : Array Bool, unmarked marks listed → unmarked marks (listed.setIfInBounds i true) := fun listed h m hm => by
  rw [getD_set_ne true (Ne.symm (hmi m hm))]; exact h m hm
 intro fuel
 induction fuel with
 |zero =>
  intro listed a w _ _ hr hy hS H
  refine ⟨fun h => (by rw [h] at hr; cases hr), fun j hj => ?_⟩
  by_cases hji : j = i
  ·subst hji; exact hy.wpOp hi trivial ⟨fun h => hS (um _ h), H⟩
  ·have := ready_mono hj hji
   rw [H.1] at this
   cases this
 |succ fuel ih =>
  intro listed a w hun hfree hr hy hS H
  refine ⟨fun h => (by rw [h] at hr; cases hr), fun j hj => ?_⟩
  by_cases hji : j = i
  ·subst hji; exact hy.wpOp hi trivial ⟨fun h => hS (um _ h), H⟩
  ·have h1 := H.2 j (ready_mono hj hji)
   obtain ⟨hjun, oj, hoj, hall⟩ := mem_ready.1 hj
   have hjD : j ∉ D := fun hjD => by
    obtain ⟨oj', hoj', e, he, hb, hon⟩ := hD j hjD hji; rw [hoj] at hoj'
    cases hoj'
    have h2 := hall e he hb; have h3 := hun e.on hon
    rcases Nat.lt_or_ge e.on listed.size with h' | h'
    ·simp [h'] at h2 h3; rw [h2] at h3; cases h3
    ·simp [Array.getElem?_eq_none h'] at h2
   have h2 := wpOp_putIf hoj (hfree j oj hoj hjD hji hjun) (fun cs b => hsel i oi cs b hi) (fun cs b => hsel j oj cs b hoj) hQ hy h1
   have hun' : ∀ k ∈ D, (listed.setIfInBounds j true).getD k true = false := fun k hk => by
    rw [getD_set_ne true (show j ≠ k from fun e => hjD (e ▸ hk))]; exact hun k hk
   have hfree' : ∀ k ok, ops[k]? = some ok → k ∉ D → k ≠ i → (listed.setIfInBounds j true).getD k true = false → oi.apart ops ok = true := fun k ok hk hkD hki hu => by
    refine hfree k ok hk hkD hki ?_
    by_cases hjk : j = k
    ·subst hjk; exact hjun
    ·rw [getD_set_ne true hjk] at hu; exact hu
   refine wpOp_mono (fun a' w' h3 => ?_) h2
   have hS' : unmarked marks (listed.setIfInBounds j true) → S w' := fun h => h3.2.1 (by rw [Array.setIfInBounds_comm _ _ (Ne.symm hji)]; exact um' _ h)
   refine ⟨hS', ih (listed.setIfInBounds j true) a' w' hun' hfree' (ready_mono hr (Ne.symm hji)) h3.1 hS' ?_⟩
   rw [Array.setIfInBounds_comm _ _ hji]
   exact h3.2.2

def depStep (ops : Array Oper) (D : List Nat) : List Nat :=
 D ++ (List.range ops.size).filter fun j => !D.contains j && ((ops[j]?).map fun o => o.after.any fun e => Region.binds .any e && D.contains e.on).getD false
def deps (ops : Array Oper) (i : Nat) : Nat → List Nat
 |0 => [i]
 |n + 1 => depStep ops (deps ops i n)
def freeG (ops : Array Oper) (marks : List Nat) (listed : Array Bool) (i : Nat) (D : List Nat) : Bool :=
 marks.all (fun m => D.contains m && m != i) && D.all (fun j => !listed.getD j true && (j == i || ((ops[j]?).map fun o => o.after.any fun e => Region.binds .any e && D.contains e.on).getD false)) &&
 match ops[i]? with
 |none => false
 |some oi => (List.range ops.size).all fun j => D.contains j || j == i || listed.getD j true || ((ops[j]?).map fun oj => oi.apart ops oj).getD true
theorem wpAnyG_take {i : Nat} {oi : Oper} {v : Value} {fuel : Nat} {listed : Array Bool} {a : Act} {w : World} (hi : ops[i]? = some oi) (D : List Nat)
  (hs : Region.noSelect ops = true) (hf : freeG ops marks listed i D = true) (hr : (Region.ready .any ops listed).contains i = true)
  (hQ : ∀ c a w, Q (.panic c) (a.put oi.dst v) w → Q (.panic c) a w) (hy : YieldsIf P ops S oi v a) (hS : S w)
  (h : wpAnyG P ops Q S marks fuel (listed.setIfInBounds i true) (a.put oi.dst v) w) : wpAnyG P ops Q S marks (fuel + 1) listed a w := by
 simp only [freeG, hi, Bool.and_eq_true, List.all_eq_true] at hf; obtain ⟨⟨h1, h2⟩, h3⟩ := hf
 refine wpAnyG_first hi (Region.noSelect_spec hs) hQ D (fun m hm => ?_) (fun j hj hji => ?_) fuel listed a w (fun j hj => ?_) (fun j oj hoj hjD hji hun => ?_) (by simpa using hr) hy hS h
 ·have := h1 m hm
  simpa using this
 ·have := (h2 j hj).2
  simp only [Bool.or_eq_true, beq_iff_eq, hji, false_or] at this
  cases ho : ops[j]? with
  |none => rw [ho] at this; simp at this
  |some oj =>
   rw [ho] at this; simp only [Option.map_some, Option.getD_some] at this; obtain ⟨e, he, hb⟩ := Array.any_eq_true'.1 this; simp only [Bool.and_eq_true] at hb
   exact ⟨oj, rfl, e, he, hb.1, by simpa using hb.2⟩
 ·have := (h2 j hj).1
  simpa using this
 ·have := h3 j (List.mem_range.2 (Array.getElem?_eq_some_iff.1 hoj).1)
  simp only [Bool.or_eq_true, hoj, Option.map_some, Option.getD_some, hun, Bool.false_eq_true, or_false, beq_iff_eq, hji] at this
  rcases this with this | this
  ·exact absurd (by simpa using this) hjD
  ·exact this
theorem wpAnyG_takeP {i : Nat} {oi : Oper} {v : Value} {fuel : Nat} {listed : Array Bool} {a : Act} {w : World} (hi : ops[i]? = some oi) (D : List Nat)
  (hs : Region.noSelect ops = true) (hmi : marks.contains i = false) (hf : freeG ops [] listed i D = true) (hr : (Region.ready .any ops listed).contains i = true)
  (hQ : ∀ c a w, Q (.panic c) (a.put oi.dst v) w → Q (.panic c) a w) (hy : YieldsIf P ops (fun _ => True) oi v a) (hS : unmarked marks listed → S w)
  (h : wpAnyG P ops Q S marks fuel (listed.setIfInBounds i true) (a.put oi.dst v) w) : wpAnyG P ops Q S marks (fuel + 1) listed a w := by
 simp only [freeG, hi, Bool.and_eq_true, List.all_eq_true] at hf; obtain ⟨⟨_, h2⟩, h3⟩ := hf
 refine wpAnyG_firstP hi (Region.noSelect_spec hs) hQ D (fun m hm e => ?_) (fun j hj hji => ?_) fuel listed a w (fun j hj => ?_) (fun j oj hoj hjD hji hun => ?_) (by simpa using hr) hy hS h
 ·subst e
  have : marks.contains m = true := by simpa using hm
  rw [this] at hmi; cases hmi
 ·have := (h2 j hj).2
  simp only [Bool.or_eq_true, beq_iff_eq, hji, false_or] at this
  cases ho : ops[j]? with
  |none => rw [ho] at this; simp at this
  |some oj =>
   rw [ho] at this; simp only [Option.map_some, Option.getD_some] at this; obtain ⟨e, he, hb⟩ := Array.any_eq_true'.1 this; simp only [Bool.and_eq_true] at hb
   exact ⟨oj, rfl, e, he, hb.1, by simpa using hb.2⟩
 ·have := (h2 j hj).1
  simpa using this
 ·have := h3 j (List.mem_range.2 (Array.getElem?_eq_some_iff.1 hoj).1)
  simp only [Bool.or_eq_true, hoj, Option.map_some, Option.getD_some, hun, Bool.false_eq_true, or_false, beq_iff_eq, hji] at this
  rcases this with this | this
  ·exact absurd (by simpa using this) hjD
  ·exact this
theorem wqD {listed : Array Bool} {a : Act} {w : World} (hr : Region.ready .any ops listed = []) (h : Q .normal a w) : ∀ fuel, wpAnyG P ops Q S marks fuel listed a w
 |0 => ⟨hr, h⟩
 |_ + 1 => ⟨fun _ => h, by rw [hr]; simp⟩

def okG (ops : Array Oper) (marks : List Nat) : List (Nat × Nat) → Array Bool → Bool
 |[], _ => true
 |(0, i) :: rest, listed => (ops[i]?).isSome && (Region.ready .any ops listed).contains i && freeG ops marks listed i (deps ops i ops.size) && okG ops marks rest (listed.setIfInBounds i true)
 |(1, i) :: rest, listed => (ops[i]?).isSome && (Region.ready .any ops listed == [i]) && okG ops marks rest (listed.setIfInBounds i true)
 |(2, i) :: rest, listed => (ops[i]?).isSome && (Region.ready .any ops listed).contains i && !marks.contains i && freeG ops [] listed i (deps ops i ops.size) && okG ops marks rest (listed.setIfInBounds i true)
 |(_ + 3, i) :: rest, listed => (ops[i]?).isSome && (Region.ready .any ops listed == [i]) && marks.any (fun m => (listed.setIfInBounds i true).getD m true) && okG ops marks rest (listed.setIfInBounds i true)
def markG : List (Nat × Nat) → Array Bool → Array Bool
 |[], listed => listed
 |(_, i) :: rest, listed => markG rest (listed.setIfInBounds i true)
def lexG (P : Program) (ops : Array Oper) (Q : Exit → Act → World → Prop) (S : World → Prop) (E : Act → World → Prop) : List (Nat × Option Oper) → Act → World → Prop
 |[], a, w => E a w
 |(_, none) :: _, _, _ => False
 |(0, some o) :: rest, a, w => ∃ v, YieldsIf P ops S o v a ∧ lexG P ops Q S E rest (a.put o.dst v) w
 |(1, some o) :: rest, a, w =>
  if Region.wanted o (yielded ops a.tmps) then o.wp P a w (fun a' w' => S w' ∧ lexG P ops Q S E rest a' w') Q ∨ (o.asks P a w ∧ LetsOut Q) else S w ∧ lexG P ops Q S E rest (a.put o.dst undef) w
 |(2, some o) :: rest, a, w => ∃ v, YieldsIf P ops (fun _ => True) o v a ∧ lexG P ops Q S E rest (a.put o.dst v) w
 |(_ + 3, some o) :: rest, a, w =>
  if Region.wanted o (yielded ops a.tmps) then o.wp P a w (fun a' w' => lexG P ops Q S E rest a' w') Q ∨ (o.asks P a w ∧ LetsOut Q) else lexG P ops Q S E rest (a.put o.dst undef) w

theorem wpAnyG_all {rs : List Nat} {fuel : Nat} {listed : Array Bool} {a : Act} {w : World} (hr : Region.ready .any ops listed = rs) (hne : rs ≠ [])
  (h : ∀ i ∈ rs, wpOp P ops Q i (fun a' w' => (unmarked marks (listed.setIfInBounds i true) → S w') ∧ wpAnyG P ops Q S marks fuel (listed.setIfInBounds i true) a' w') a w) : wpAnyG P ops Q S marks (fuel + 1) listed a w :=
 ⟨fun h0 => absurd (hr ▸ h0) hne, hr ▸ h⟩
theorem unmarked_mono {listed : Array Bool} {i : Nat} (h : unmarked marks (listed.setIfInBounds i true)) : unmarked marks listed := fun m hm => by
 have := h m hm
 by_cases e : i = m
 ·subst e
  rcases Nat.lt_or_ge i listed.size with h' | h'
  ·simp [h'] at this
  ·rw [Array.setIfInBounds_eq_of_size_le h'] at this; exact this
 ·rwa [getD_set_ne true e] at this

theorem lexG_sound (hs : Region.noSelect ops = true) (hQ : ∀ c (a : Act) (d : Tmp) v w, Q (.panic c) (a.put (some d) v) w → Q (.panic c) a w) :
  ∀ (ord : List (Nat × Nat)) (fuel : Nat) (listed : Array Bool) (a : Act) (w : World), okG ops marks ord listed = true → (unmarked marks listed → S w) →
   lexG P ops Q S (fun a' w' => (unmarked marks (markG ord listed) → S w') → wpAnyG P ops Q S marks fuel (markG ord listed) a' w') (ord.map fun p => (p.1, ops[p.2]?)) a w → wpAnyG P ops Q S marks (fuel + ord.length) listed a w := by
 intro ord
 induction ord with
 |nil =>
  intro fuel listed a w hok hS h
  exact h hS
 |cons p rest ih =>
  obtain ⟨e, i⟩ := p
  intro fuel listed a w hok hS h
  match e, hok, h with
  |0, hok, h =>
   simp only [okG, Bool.and_eq_true] at hok; obtain ⟨⟨⟨hi, hr⟩, hf⟩, hrest⟩ := hok; obtain ⟨o, ho⟩ := Option.isSome_iff_exists.1 hi; simp only [List.map_cons, ho, markG] at h; simp only [List.length_cons, ← Nat.add_assoc]; obtain ⟨v, hy, hl⟩ := h; have hf' := hf; simp only [freeG, ho, Bool.and_eq_true, List.all_eq_true] at hf'
   have hum : unmarked marks listed := fun m hm => by
    have h1 := hf'.1.1 m hm; simp only [List.contains_iff_mem] at h1; have h2 := (hf'.1.2 m h1.1).1
    simpa using h2
   refine wpAnyG_take ho _ hs hf hr (fun c a w hh => ?_) hy (hS hum) (ih fuel _ _ w hrest (fun _ => hS hum) hl)
   cases hd : o.dst with
   |none => rw [hd] at hh; exact hh
   |some d => rw [hd] at hh; exact hQ c a d v w hh
  |1, hok, h =>
   simp only [okG, Bool.and_eq_true] at hok; obtain ⟨⟨hi, hr⟩, hrest⟩ := hok; obtain ⟨o, ho⟩ := Option.isSome_iff_exists.1 hi; simp only [List.map_cons, ho, markG] at h; simp only [List.length_cons, ← Nat.add_assoc]
   have hr' : Region.ready .any ops listed = [i] := by simpa using hr
   refine wpAnyG_all hr' (by simp) fun j hj => ?_
   obtain rfl : j = i := by simpa using hj
   simp only [lexG] at h; simp only [wpOp, ho]
   split at h
   ·rename_i hw
    rw [if_pos hw]
    rcases h with h | h
    ·exact Or.inl (Oper.wp_mono (fun a' w' hh => ⟨fun _ => hh.1, ih fuel _ a' w' hrest (fun _ => hh.1) hh.2⟩) h)
    ·exact Or.inr h
   ·rename_i hw
    rw [if_neg hw]
    exact ⟨fun _ => h.1, ih fuel _ _ w hrest (fun _ => h.1) h.2⟩
  |2, hok, h =>
   simp only [okG, Bool.and_eq_true] at hok; obtain ⟨⟨⟨⟨hi, hr⟩, hmi⟩, hf⟩, hrest⟩ := hok; obtain ⟨o, ho⟩ := Option.isSome_iff_exists.1 hi; simp only [List.map_cons, ho, markG] at h; simp only [List.length_cons, ← Nat.add_assoc]; obtain ⟨v, hy, hl⟩ := h
   have hmi' : marks.contains i = false := by simpa using hmi
   have um : unmarked marks (listed.setIfInBounds i true) → unmarked marks listed := unmarked_mono
   refine wpAnyG_takeP ho _ hs hmi' hf hr (fun c a w hh => ?_) hy hS (ih fuel _ _ w hrest (fun hu => hS (um hu)) hl)
   cases hd : o.dst with
   |none => rw [hd] at hh; exact hh
   |some d => rw [hd] at hh; exact hQ c a d v w hh
  |k + 3, hok, h =>
   simp only [okG, Bool.and_eq_true] at hok; obtain ⟨⟨⟨hi, hr⟩, hm⟩, hrest⟩ := hok; obtain ⟨o, ho⟩ := Option.isSome_iff_exists.1 hi; simp only [List.map_cons, ho, markG] at h; simp only [List.length_cons, ← Nat.add_assoc]
   have hr' : Region.ready .any ops listed = [i] := by simpa using hr
   obtain ⟨m, hm1, hm2⟩ := List.any_eq_true.1 hm
   have hno : ¬ unmarked marks (listed.setIfInBounds i true) := fun hu => by
    have := hu m hm1; rw [hm2] at this
    cases this
   refine wpAnyG_all hr' (by simp) fun j hj => ?_
   obtain rfl : j = i := by simpa using hj
   simp only [lexG] at h; simp only [wpOp, ho]
   split at h
   ·rename_i hw
    rw [if_pos hw]
    rcases h with h | h
    ·exact Or.inl (Oper.wp_mono (fun a' w' hh => ⟨fun hu => absurd hu hno, ih fuel _ a' w' hrest (fun hu => absurd hu hno) hh⟩) h)
    ·exact Or.inr h
   ·rename_i hw
    rw [if_neg hw]
    exact ⟨fun hu => absurd hu hno, ih fuel _ _ w hrest (fun hu => absurd hu hno) h⟩

theorem lxR {id : Nat} {a : Act} {w : World} (S : World → Prop) (marks : List Nat) (fuel : Nat) (ord : List (Nat × Nat)) (listed : Array Bool) (hm : P.follows .mixedOrders = true) (hs : Region.noSelect ops = true) (hl : fuel + ord.length = ops.size)
  (hok : okG ops marks ord (Array.replicate ops.size false) = true) (hli : markG ord (Array.replicate ops.size false) = listed) (hQ : ∀ c (a : Act) (d : Tmp) v w, Q (.panic c) (a.put (some d) v) w → Q (.panic c) a w)
  (hS : S w.drew) (h : S w.drew → lexG P ops Q S (fun a' w' => (unmarked marks listed → S w') → wpAnyG P ops Q S marks fuel listed a' w') (ord.map fun p => (p.1, ops[p.2]?)) a w.drew) : (Code.region id ops true).wp P Q a w := by
 subst hli; have h2 := lexG_sound hs hQ ord fuel _ _ _ hok (fun _ => hS) (h hS); rw [hl] at h2
 exact wp_region_any hm (wpAny_of_G _ _ _ _ h2)
theorem lxM {a : Act} {w : World} {fuel' : Nat} {listed0 : Array Bool} (fuel : Nat) (ord : List (Nat × Nat)) (listed : Array Bool) (hs : Region.noSelect ops = true) (hl : fuel + ord.length = fuel')
  (hok : okG ops marks ord listed0 = true) (hli : markG ord listed0 = listed) (hQ : ∀ c (a : Act) (d : Tmp) v w, Q (.panic c) (a.put (some d) v) w → Q (.panic c) a w)
  (hS : unmarked marks listed0 → S w) (h : lexG P ops Q S (fun a' w' => (unmarked marks listed → S w') → wpAnyG P ops Q S marks fuel listed a' w') (ord.map fun p => (p.1, ops[p.2]?)) a w) : wpAnyG P ops Q S marks fuel' listed0 a w := by
 subst hli; subst hl
 exact lexG_sound hs hQ ord fuel _ _ _ hok hS h
theorem lexg_fork2 {fuel i j : Nat} {listed l1 l2 : Array Bool} {a : Act} {w : World} (hr : Region.ready .any ops listed = [i, j]) (e1 : listed.setIfInBounds i true = l1) (e2 : listed.setIfInBounds j true = l2)
  (h1 : wpOp P ops Q i (fun a' w' => S w' ∧ wpAnyG P ops Q S marks fuel l1 a' w') a w) (h2 : wpOp P ops Q j (fun a' w' => S w' ∧ wpAnyG P ops Q S marks fuel l2 a' w') a w) : wpAnyG P ops Q S marks (fuel + 1) listed a w := by
 subst e1; subst e2
 refine wpAnyG_all hr (by simp) fun k hk => ?_
 simp only [List.mem_cons, List.mem_nil_iff, or_false] at hk
 rcases hk with rfl | rfl
 ·exact wpOp_mono (fun _ _ h => ⟨fun _ => h.1, h.2⟩) h1
 ·exact wpOp_mono (fun _ _ h => ⟨fun _ => h.1, h.2⟩) h2
theorem lxA {i : Nat} {a : Act} {w : World} {o : Oper} {K : Act → World → Prop} (ho : ops[i]? = some o) (hw : Region.wanted o (yielded ops a.tmps) = true) (h : o.wp P a w K Q) : wpOp P ops Q i K a w := by
 simp only [wpOp, ho, hw, if_true]
 exact Or.inl h
variable {E : Act → World → Prop}
theorem lxT {rest : List (Nat × Option Oper)} {a : Act} {w : World} {o : Oper} {v : Value}
  (hw : Region.wanted o (yielded ops a.tmps) = true) (hy : ∀ w, S w → (execOp a.eval o).run P w = .ok (.value v) w) (h : lexG P ops Q S E rest (a.put o.dst v) w) : lexG P ops Q S E ((0, some o) :: rest) a w :=
 ⟨v, Or.inl ⟨hw, hy⟩, h⟩
theorem lxS {rest : List (Nat × Option Oper)} {a : Act} {w : World} {o : Oper}
  (hw : Region.wanted o (yielded ops a.tmps) = false) (h : lexG P ops Q S E rest (a.put o.dst undef) w) : lexG P ops Q S E ((0, some o) :: rest) a w :=
 ⟨undef, Or.inr ⟨hw, rfl⟩, h⟩
theorem lxE {rest : List (Nat × Option Oper)} {a : Act} {w : World} {o : Oper}
  (hw : Region.wanted o (yielded ops a.tmps) = true) (h : o.wp P a w (fun a' w' => S w' ∧ lexG P ops Q S E rest a' w') Q) : lexG P ops Q S E ((1, some o) :: rest) a w := by
 simp only [lexG, hw, if_true]
 exact Or.inl h
theorem lxK {rest : List (Nat × Option Oper)} {a : Act} {w : World} {o : Oper}
  (hw : Region.wanted o (yielded ops a.tmps) = false) (hS : S w) (h : lexG P ops Q S E rest (a.put o.dst undef) w) : lexG P ops Q S E ((1, some o) :: rest) a w := by
 simp only [lexG, hw]
 exact ⟨hS, h⟩
theorem lxF {rest : List (Nat × Option Oper)} {a : Act} {w : World} {o : Oper}
  (hw : Region.wanted o (yielded ops a.tmps) = true) (h : o.wp P a w (fun a' w' => lexG P ops Q S E rest a' w') Q) : lexG P ops Q S E ((3, some o) :: rest) a w := by
 simp only [lexG, hw, if_true]
 exact Or.inl h
theorem lexg_effskipN {rest : List (Nat × Option Oper)} {a : Act} {w : World} {o : Oper}
  (hw : Region.wanted o (yielded ops a.tmps) = false) (h : lexG P ops Q S E rest (a.put o.dst undef) w) : lexG P ops Q S E ((3, some o) :: rest) a w := by
 simp only [lexG, hw]
 exact h
theorem lxP {rest : List (Nat × Option Oper)} {a : Act} {w : World} {o : Oper} {v : Value}
  (hw : Region.wanted o (yielded ops a.tmps) = true) (hy : ∀ w, (execOp a.eval o).run P w = .ok (.value v) w) (h : lexG P ops Q S E rest (a.put o.dst v) w) : lexG P ops Q S E ((2, some o) :: rest) a w :=
 ⟨v, Or.inl ⟨hw, fun w _ => hy w⟩, h⟩
theorem lxQ {rest : List (Nat × Option Oper)} {a : Act} {w : World} {o : Oper}
  (hw : Region.wanted o (yielded ops a.tmps) = false) (h : lexG P ops Q S E rest (a.put o.dst undef) w) : lexG P ops Q S E ((2, some o) :: rest) a w :=
 ⟨undef, Or.inr ⟨hw, rfl⟩, h⟩
theorem lxB {p q : Prop} (hp : p) (h : p → q) : p ∧ q := ⟨hp, h hp⟩
theorem lxN {a : Act} {w : World} (h : E a w) : lexG P ops Q S E [] a w := h
end

section
variable {P : Program} {ops : Array Oper} {Q : Exit → Act → World → Prop} {S : World → Prop} {marks : List Nat} {E : Act → World → Prop} {rest : List (Nat × Option Oper)} {a a2 : Act} {w : World} {o : Oper} {v : Value}
theorem lxt (h : lexG P ops Q S E rest a2 w) (hw : Region.wanted o (yielded ops a.tmps) = true := by rfl)
  (hy : ∀ w, S w → (execOp a.eval o).run P w = .ok (.value v) w := by (intro w hw; (try dsimp only at hw); go_simp; (try with_reducible rfl); done))
  (he : a.put o.dst v = a2 := by ((try simp only [Act.put, List.setIfInBounds_toArray, List.set_cons_zero, List.set_cons_succ]); rfl)) : lexG P ops Q S E ((0, some o) :: rest) a w :=
 lxT hw hy (he ▸ h)
theorem lxp (h : lexG P ops Q S E rest a2 w) (hw : Region.wanted o (yielded ops a.tmps) = true := by rfl)
  (hy : ∀ w, (execOp a.eval o).run P w = .ok (.value v) w := by (intro w; go_simp; (try with_reducible rfl); done))
  (he : a.put o.dst v = a2 := by ((try simp only [Act.put, List.setIfInBounds_toArray, List.set_cons_zero, List.set_cons_succ]); rfl)) : lexG P ops Q S E ((2, some o) :: rest) a w :=
 lxP hw hy (he ▸ h)
theorem lxs (h : lexG P ops Q S E rest a2 w) (hw : Region.wanted o (yielded ops a.tmps) = false := by rfl)
  (he : a.put o.dst undef = a2 := by ((try simp only [Act.put, List.setIfInBounds_toArray, List.set_cons_zero, List.set_cons_succ]); rfl)) : lexG P ops Q S E ((0, some o) :: rest) a w :=
 lxS hw (he ▸ h)
theorem lxk (h : lexG P ops Q S E rest a2 w) (hw : Region.wanted o (yielded ops a.tmps) = false := by rfl)
  (he : a.put o.dst undef = a2 := by ((try simp only [Act.put, List.setIfInBounds_toArray, List.set_cons_zero, List.set_cons_succ]); rfl)) : lexG P ops Q S E ((2, some o) :: rest) a w :=
 lxQ hw (he ▸ h)
theorem lxe (h : o.wp P a w (fun a' w' => S w' ∧ lexG P ops Q S E rest a' w') Q) (hw : Region.wanted o (yielded ops a.tmps) = true := by rfl) : lexG P ops Q S E ((1, some o) :: rest) a w := lxE hw h
theorem lxn (h : o.wp P a w (fun a' w' => lexG P ops Q S E rest a' w') Q) (hw : Region.wanted o (yielded ops a.tmps) = true := by rfl) : lexG P ops Q S E ((3, some o) :: rest) a w := lxF hw h
end
section
variable {P : Program} {ops : Array Oper} {Q : Exit → Act → World → Prop}
theorem lexG_mono {S : World → Prop} {E E' : Act → World → Prop} (hE : ∀ a w, E a w → E' a w) : ∀ (l : List (Nat × Option Oper)) (a : Act) (w : World), lexG P ops Q S E l a w → lexG P ops Q S E' l a w
 |[], a, w, h => hE a w h
 |(_, none) :: _, a, w, h => by simp [lexG] at h
 |(0, some o) :: r, a, w, h => by
  obtain ⟨v, h1, h2⟩ := h
  exact ⟨v, h1, lexG_mono hE r _ _ h2⟩
 |(1, some o) :: r, a, w, h => by
  simp only [lexG] at h ⊢
  split at h <;> rename_i hw
  ·rw [if_pos hw]
   exact h.imp (Oper.wp_mono (fun a' w' hh => ⟨hh.1, lexG_mono hE r _ _ hh.2⟩)) id
  ·rw [if_neg hw]
   exact ⟨h.1, lexG_mono hE r _ _ h.2⟩
 |(2, some o) :: r, a, w, h => by
  obtain ⟨v, h1, h2⟩ := h
  exact ⟨v, h1, lexG_mono hE r _ _ h2⟩
 |(k + 3, some o) :: r, a, w, h => by
  simp only [lexG] at h ⊢
  split at h <;> rename_i hw
  ·rw [if_pos hw]
   exact h.imp (Oper.wp_mono (fun a' w' hh => lexG_mono hE r _ _ hh)) id
  ·rw [if_neg hw]
   exact lexG_mono hE r _ _ h
theorem region_lx {id : Nat} {a : Act} {w : World} (S : World → Prop) (marks ks : List Nat) (hS : S w.drew) {os : List (Nat × Option Oper)}
  (h : S w.drew → lexG P ops Q S (fun a' w' => Q .normal a' w') os a w.drew) (ho : (ks.zipIdx.map fun p => (p.1, ops[p.2]?)) = os := by (simp only [List.zipIdx_cons, List.zipIdx_nil, List.map_cons, List.map_nil, Nat.reduceAdd, List.getElem?_toArray, List.getElem?_cons_succ, List.getElem?_cons_zero]; rfl))
  (hm : P.follows .mixedOrders = true := by kernel_rfl) (hs : Region.noSelect ops = true := by kernel_rfl) (hl : ks.length = ops.size := by decide)
  (hok : okG ops marks ks.zipIdx (Array.replicate ops.size false) = true := by kernel_rfl) (hli : Region.ready .any ops (markG ks.zipIdx (Array.replicate ops.size false)) = [] := by kernel_rfl)
  (hQ : ∀ c (a : Act) (d : Tmp) v w, Q (.panic c) (a.put (some d) v) w → Q (.panic c) a w := by exact fun _ _ _ _ _ h => h) : (Code.region id ops true).wp P Q a w :=
 lxR S marks 0 ks.zipIdx _ hm hs (by simpa using hl) hok rfl hQ hS (fun hS0 => ho ▸ lexG_mono (fun a' w' h => fun _ => ⟨hli, h⟩) _ _ _ (h hS0))
def bzA (n k : Nat) : Array Bool := ((List.range n).map k.testBit).toArray
theorem region_lxf {id : Nat} {a : Act} {w : World} (S : World → Prop) (marks : List Nat) (fuel : Nat) (ord : List (Nat × Nat)) (listed : Array Bool) (hS : S w.drew) {os : List (Nat × Option Oper)}
  (h : S w.drew → lexG P ops Q S (fun a' w' => (unmarked marks listed → S w') → wpAnyG P ops Q S marks fuel listed a' w') os a w.drew) (ho : (ord.map fun p => (p.1, ops[p.2]?)) = os := by ((try simp only [List.map_cons, List.map_nil, List.getElem?_toArray, List.getElem?_cons_succ, List.getElem?_cons_zero]); rfl))
  (hm : P.follows .mixedOrders = true := by kernel_rfl) (hs : Region.noSelect ops = true := by kernel_rfl) (hl : fuel + ord.length = ops.size := by decide)
  (hok : okG ops marks ord (Array.replicate ops.size false) = true := by kernel_rfl) (hli : markG ord (Array.replicate ops.size false) = listed := by kernel_rfl)
  (hQ : ∀ c (a : Act) (d : Tmp) v w, Q (.panic c) (a.put (some d) v) w → Q (.panic c) a w := by exact fun _ _ _ _ _ h => h) : (Code.region id ops true).wp P Q a w :=
 lxR S marks fuel ord _ hm hs hl hok hli hQ hS (fun hS0 => ho ▸ h hS0)
variable {S : World → Prop} {marks : List Nat}
theorem lxm {a : Act} {w : World} {fuel' : Nat} {listed0 : Array Bool} (fuel : Nat) (ord : List (Nat × Nat)) (listed : Array Bool) {os : List (Nat × Option Oper)}
  (h : lexG P ops Q S (fun a' w' => (unmarked marks listed → S w') → wpAnyG P ops Q S marks fuel listed a' w') os a w) (ho : (ord.map fun p => (p.1, ops[p.2]?)) = os := by ((try simp only [List.map_cons, List.map_nil, List.getElem?_toArray, List.getElem?_cons_succ, List.getElem?_cons_zero]); rfl))
  (hs : Region.noSelect ops = true := by kernel_rfl) (hl : fuel + ord.length = fuel' := by decide) (hok : okG ops marks ord listed0 = true := by kernel_rfl) (hli : markG ord listed0 = listed := by kernel_rfl)
  (hQ : ∀ c (a : Act) (d : Tmp) v w, Q (.panic c) (a.put (some d) v) w → Q (.panic c) a w := by exact fun _ _ _ _ _ h => h) (hS : unmarked marks listed0 → S w := by exact fun _ => by assumption) : wpAnyG P ops Q S marks fuel' listed0 a w :=
 lxM fuel ord listed hs hl hok hli hQ hS (ho ▸ h)
theorem lxf2 {X : Prop} {fuel : Nat} {listed : Array Bool} {a : Act} {w : World} (i j : Nat) (l1 l2 : Array Bool) (h1 : wpOp P ops Q i (fun a' w' => S w' ∧ wpAnyG P ops Q S marks fuel l1 a' w') a w) (h2 : wpOp P ops Q j (fun a' w' => S w' ∧ wpAnyG P ops Q S marks fuel l2 a' w') a w)
  (hr : Region.ready .any ops listed = [i, j] := by kernel_rfl) (e1 : listed.setIfInBounds i true = l1 := by kernel_rfl) (e2 : listed.setIfInBounds j true = l2 := by kernel_rfl) : X → wpAnyG P ops Q S marks (fuel + 1) listed a w := fun _ => lexg_fork2 hr e1 e2 h1 h2
theorem lxa {i : Nat} {a : Act} {w : World} {o : Oper} {K : Act → World → Prop} (h : o.wp P a w K Q) (ho : ops[i]? = some o := by (simp only [List.getElem?_toArray, List.getElem?_cons_succ, List.getElem?_cons_zero]; rfl)) (hw : Region.wanted o (yielded ops a.tmps) = true := by rfl) : wpOp P ops Q i K a w := lxA ho hw h
theorem lxd {X : Prop} {listed : Array Bool} {a : Act} {w : World} {fuel : Nat} (h : Q .normal a w) (hr : Region.ready .any ops listed = [] := by kernel_rfl) : X → wpAnyG P ops Q S marks fuel listed a w := fun _ => wqD hr h fuel
end
end Go.Proofs.YtcahcjfgmdpdoaaGreat

namespace Go.Proofs.YtcahcjfgmdpdoaaGreat
open Go.RowKit Go.Proofs
set_option linter.unusedVariables false

section
variable {P : Program} {ops : Array Oper} {C : World → Prop}
end
end Go.Proofs.YtcahcjfgmdpdoaaGreat
