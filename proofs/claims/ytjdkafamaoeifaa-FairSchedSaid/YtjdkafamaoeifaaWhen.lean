/- SchedLimit's memory: six slices in an array, beside a scheduler. -/
import Derived.Test.YtjdkafamaoeifaaLim
namespace Go.Proofs.Ytjdkafamaoeifaa
open Go.RowKit Go.Proofs Go.Maps
set_option linter.unusedVariables false
set_option linter.unusedSimpArgs false

theorem rowBlkV {w : World} {t : TypeId} {sz n : Nat} {v : Value} {xs : List Value} (h : w.ownsRow 0 t sz v n xs) {g : Nat} (hg : v.ownBlock = some g) : ∃ cs, w.heap[g]? = some (.cells cs t (0, 0)) := by
  rcases h.2 with ⟨rfl, _⟩ | ⟨g', cp, cur, rfl, h1, h2⟩
  · simp [Value.ownBlock] at hg
  · simp [Value.ownBlock] at hg
    subst hg
    exact ⟨_, by first | exact h1 | exact h2 | exact h1.2 | exact h2.1⟩
def upW {α : Type} (C : Nat → α) (j : Nat) (c : α) : Nat → α := fun k => if k = j then c else C k
theorem upW_same {α : Type} (C : Nat → α) (j : Nat) (c : α) : upW C j c j = c := by simp [upW]
theorem upW_other {α : Type} {C : Nat → α} {j k : Nat} (h : k ≠ j) (c : α) : upW C j c k = C k := by simp [upW, h]
def whCells (sv : Nat → Value) : List Value := [sv 0, sv 1, sv 2, sv 3, sv 4, sv 5]
theorem whCells_set (sv : Nat → Value) {i : Nat} (hi : i < 6) (v : Value) : (whCells sv).set i v = whCells (upW sv i v) := by
  have : i = 0 ∨ i = 1 ∨ i = 2 ∨ i = 3 ∨ i = 4 ∨ i = 5 := by omega
  rcases this with rfl | rfl | rfl | rfl | rfl | rfl <;> rfl
theorem whCells_get (sv : Nat → Value) {i : Nat} (hi : i < 6) : (whCells sv)[i]? = some (sv i) := by
  have : i = 0 ∨ i = 1 ∨ i = 2 ∨ i = 3 ∨ i = 4 ∨ i = 5 := by omega
  rcases this with rfl | rfl | rfl | rfl | rfl | rfl <;> rfl
/-- the six slices -/
structure Whens (w : World) (b : Nat) (sv : Nat → Value) (ts : Nat → List Int) : Prop where
  blk : Blk w b 34 (whCells sv)
  row : ∀ i, i < 6 → w.ownsRow 0 3 1 (sv i) (ts i).length ((ts i).map (Value.int .i64))
  apart : ∀ i j g, i < 6 → j < 6 → i ≠ j → (sv i).ownBlock = some g → (sv j).ownBlock ≠ some g
def WFoot (b : Nat) (sv : Nat → Value) (z : Nat) : Prop := z = b ∨ ∃ i, i < 6 ∧ (sv i).ownBlock = some z
section
variable {w w' W : World} {b : Nat} {sv : Nat → Value} {ts : Nat → List Int}
theorem Whens.lt (h : Whens w b sv ts) : ∀ z, WFoot b sv z → z < w.heap.size := by
  rintro z (rfl | ⟨i, hi, hz⟩)
  · exact h.blk.lt
  · exact own_lt (h.row i hi) hz
theorem Whens.ne (h : Whens w b sv ts) {i g : Nat} (hi : i < 6) (hg : (sv i).ownBlock = some g) : b ≠ g := by
  intro e
  obtain ⟨cs, hc⟩ := rowBlkV (h.row i hi) hg
  rw [← e] at hc
  have := h.blk.symm.trans hc
  simp at this
theorem Whens.chg {G : List Nat} (h : Whens w b sv ts) (hc : Chg G w w') (hg : ∀ z ∈ G, ¬ WFoot b sv z) : Whens w' b sv ts :=
  ⟨h.blk.chg hc (fun hz => hg _ hz (Or.inl rfl)), fun i hi => own_chg (h.row i hi) hc (fun g hz hm => hg g hm (Or.inr ⟨i, hi, hz⟩)), h.apart⟩
theorem Whens.below (h : Whens w b sv ts) (hb : Below w.heap.size w w') : Whens w' b sv ts := h.chg (G := []) (Chg.of_below hb) (fun _ hz => by cases hz)
/-- one more moment in row i: w1: the world at the append; w2: behind it -/
theorem Whens.push {w1 w2 : World} {i g cap : Nat} {t : Int} (h : Whens w1 b sv ts) (hi : i < 6)
    (hown : w2.ownsRow 0 3 1 (.slice (some ⟨g, 0, none⟩) ((ts i).length + 1) cap) ((ts i).length + 1) ((ts i).map (Value.int .i64) ++ [.int .i64 t])) (hc : Chg (sv i).ownBlock.toList w1 w2) (hor : (sv i).ownBlock = some g ∨ w1.heap.size ≤ g) :
    Whens (w2.setCell ⟨b, i, none⟩ (.slice (some ⟨g, 0, none⟩) ((ts i).length + 1) cap)) b (upW sv i (.slice (some ⟨g, 0, none⟩) ((ts i).length + 1) cap)) (upW ts i (ts i ++ [t])) := by
  have hb2 : Blk w2 b 34 (whCells sv) := h.blk.chg hc (fun hm => h.ne hi (by simpa using hm) rfl)
  have hbg : b ≠ g := by
    rcases hor with e | e
    · exact h.ne hi e
    · have := h.blk.lt; omega
  have hc2 : Chg [b] w2 (w2.setCell ⟨b, i, none⟩ (.slice (some ⟨g, 0, none⟩) ((ts i).length + 1) cap)) := (Chg.refl [b] w2).setCell (Or.inl (by simp)) _
  refine ⟨by rw [← whCells_set sv hi]; exact hb2.set i _, fun j hj => ?_, fun j k z hj hk hjk hz hz2 => ?_⟩
  · by_cases e : j = i
    · subst e
      rw [upW_same, upW_same, List.length_append, List.length_singleton, List.map_append]
      exact own_chg hown hc2 (fun z hz hm => by
        have : g = z := by simpa [Value.ownBlock] using hz
        rw [List.mem_singleton.1 hm] at this
        exact hbg this.symm)
    · rw [upW_other e, upW_other e]
      refine own_chg (own_chg (h.row j hj) hc (fun z hz hm => ?_)) hc2 (fun z hz hm => ?_)
      · exact h.apart i j z hi hj (Ne.symm e) (by simpa using hm) hz
      · rw [List.mem_singleton.1 hm] at hz
        exact h.ne hj hz rfl
  · by_cases ej : j = i
    · subst ej
      rw [upW_same] at hz
      have hgz : g = z := by simpa [Value.ownBlock] using hz
      subst hgz
      rw [upW_other (Ne.symm hjk)] at hz2
      rcases hor with e | e
      · exact h.apart j k g hj hk hjk e hz2
      · have := own_lt (h.row k hk) hz2; omega
    · rw [upW_other ej] at hz
      by_cases ek : k = i
      · subst ek
        rw [upW_same] at hz2
        have hgz : g = z := by simpa [Value.ownBlock] using hz2
        subst hgz
        rcases hor with e | e
        · exact h.apart k j g hk hj (Ne.symm hjk) e hz
        · have := own_lt (h.row j hj) hz; omega
      · rw [upW_other ek] at hz2
        exact h.apart j k z hj hk hjk hz hz2
end
/-- a scheduler and the six slices -/
structure LimSt (W w : World) (b ps : Nat) (X : List Fl) (sv : Nat → Value) (ts : Nat → List Int) : Prop where
  ex : ∃ F, SS w ps F X ∧ ∀ z ∈ F, W.heap.size ≤ z ∧ ¬ WFoot b sv z
  wh : Whens w b sv ts
  lo : ∀ z, WFoot b sv z → W.heap.size ≤ z
  base : Below W.heap.size W w
section
variable {W w w' : World} {b ps : Nat} {X X' : List Fl} {sv : Nat → Value} {ts : Nat → List Int}
theorem LimSt.turn {F : List Nat} (hF : ∀ z ∈ F, W.heap.size ≤ z ∧ ¬ WFoot b sv z) (wh : Whens w b sv ts) (lo : ∀ z, WFoot b sv z → W.heap.size ≤ z) (base : Below W.heap.size W w) (t : Turn w w' ps F X') : LimSt W w' b ps X' sv ts := by
  obtain ⟨F', hs, hc, hg⟩ := t
  refine ⟨⟨F', hs, fun z hz => ?_⟩, wh.chg hc (fun z hz => (hF z hz).2), lo, Chg.onto base base.size hc (fun z hz => (hF z hz).1)⟩
  rcases hg z hz with h | h
  · exact hF z h
  · exact ⟨Nat.le_trans base.size h, fun hw => by have := wh.lt z hw; omega⟩
theorem LimSt.below (h : LimSt W w b ps X sv ts) (hb : Below w.heap.size w w') : LimSt W w' b ps X sv ts := by
  obtain ⟨⟨F, hs, hF⟩, wh, lo, base⟩ := h
  exact ⟨⟨F, hs.below hb, hF⟩, wh.below hb, lo, base.trans (hb.mono base.size)⟩
/-- what 'Pick' does, beside the six slices -/
def PickL (W : World) (b ps : Nat) (X : List Fl) (sv : Nat → Value) (ts : Nat → List Int) (tag : Int) (e : Ending) (w' : World) : Prop :=
  (e = .returned (.tuple #[.int .i64 0, .agg #[.int .i64 0, .int .i64 0, .int .i64 0], .int .i64 0, .bool false]) ∧ LimSt W w' b ps X sv ts) ∨
  ∃ (i : Nat) (phase : Int) (f : Fl) (x : It) (rest : List It), Picks X tag i phase ∧ (∃ hi : i < X.length, X[i] = f) ∧ f.q = x :: rest ∧
    e = .returned (.tuple #[.int .i64 f.id, .agg #[.int .i64 x.name, .int .i64 x.delta, .int .i64 x.rho], .int .i64 phase, .bool true]) ∧ LimSt W w' b ps (X.set i (popped f tag phase x rest)) sv ts
theorem pick_l (now : Int) (h : LimSt W w b ps X sv ts) (hX : X.length ≤ 900) :
    Calls Try.prog 15 #[.pointer (some ⟨ps, 0, none⟩), .int .i64 now] w (PickL W b ps X sv ts (at_ now)) := by
  have h0 := h
  obtain ⟨⟨F, hs, hF⟩, wh, lo, base⟩ := h
  refine (spick_calls w ps F X now hs hX).mono fun e w' ho => ?_
  rcases ho with ⟨he, _, hb⟩ | ⟨i, phase, f, x, rest, hp, hf, hq, he, ht⟩
  · exact Or.inl ⟨he, h0.below hb⟩
  · exact Or.inr ⟨i, phase, f, x, rest, hp, hf, hq, he, LimSt.turn hF wh lo base ht⟩
theorem push_more_l (i : Nat) (f : Fl) (id now : Int) (x : It) (h : LimSt W w b ps X sv ts) (hX : X.length ≤ 900) (hi : i < X.length) (hf : X[i] = f) (hid : f.id = id) (hq0 : f.q ≠ []) (hql : f.q.length < 1024) :
    Calls Try.prog 16 #[.pointer (some ⟨ps, 0, none⟩), .int .i64 id, .agg #[.int .i64 x.name, .int .i64 x.delta, .int .i64 x.rho], .int .i64 now] w fun e w' =>
      e = .returned (.int .i64 0) ∧ LimSt W w' b ps (X.set i ⟨f.id, f.ver, f.p, f.c, f.q ++ [x]⟩) sv ts := by
  obtain ⟨⟨F, hs, hF⟩, wh, lo, base⟩ := h
  exact (spush_more w ps F X i f id now x hs hX hi hf hid hq0 hql).mono fun e w' ⟨he, ht⟩ => ⟨he, LimSt.turn hF wh lo base ht⟩
/-- the six slices are turned: one more moment in row i -/
theorem LimSt.push {w1 w2 : World} {i g cap : Nat} {t : Int} (h : LimSt W w1 b ps X sv ts) (hi : i < 6)
    (hown : w2.ownsRow 0 3 1 (.slice (some ⟨g, 0, none⟩) ((ts i).length + 1) cap) ((ts i).length + 1) ((ts i).map (Value.int .i64) ++ [.int .i64 t])) (hc : Chg (sv i).ownBlock.toList w1 w2) (hor : (sv i).ownBlock = some g ∨ w1.heap.size ≤ g) :
    LimSt W (w2.setCell ⟨b, i, none⟩ (.slice (some ⟨g, 0, none⟩) ((ts i).length + 1) cap)) b ps X (upW sv i (.slice (some ⟨g, 0, none⟩) ((ts i).length + 1) cap)) (upW ts i (ts i ++ [t])) := by
  obtain ⟨⟨F, hs, hF⟩, wh, lo, base⟩ := h
  have hcc : Chg (b :: (sv i).ownBlock.toList) w1 (w2.setCell ⟨b, i, none⟩ (.slice (some ⟨g, 0, none⟩) ((ts i).length + 1) cap)) :=
    (hc.mono (L' := b :: (sv i).ownBlock.toList) (fun z hz => Or.inl (List.mem_cons_of_mem _ hz))).trans ((Chg.refl [b] w2).setCell (Or.inl (by simp)) _) (fun z hz => Or.inl (by rw [List.mem_singleton.1 hz]; simp))
  have hin : ∀ z ∈ b :: (sv i).ownBlock.toList, WFoot b sv z := fun z hz => by
    rcases List.mem_cons.1 hz with rfl | hz
    · exact Or.inl rfl
    · exact Or.inr ⟨i, hi, by simpa using hz⟩
  have hft : ∀ z, WFoot b (upW sv i (.slice (some ⟨g, 0, none⟩) ((ts i).length + 1) cap)) z → WFoot b sv z ∨ w1.heap.size ≤ z := by
    rintro z (rfl | ⟨j, hj, hz⟩)
    · exact Or.inl (Or.inl rfl)
    · by_cases e : j = i
      · subst e
        rw [upW_same] at hz
        have hgz : g = z := by simpa [Value.ownBlock] using hz
        subst hgz
        exact hor.imp (fun h => Or.inr ⟨j, hj, h⟩) id
      · rw [upW_other e] at hz
        exact Or.inl (Or.inr ⟨j, hj, hz⟩)
  refine ⟨⟨F, hs.chg hcc (fun z hz hm => (hF z hm).2 (hin z hz)), fun z hz => ⟨(hF z hz).1, fun hw => ?_⟩⟩, wh.push hi hown hc hor, fun z hz => ?_, Chg.onto base base.size hcc (fun z hz => lo z (hin z hz))⟩
  · rcases hft z hw with h1 | h1
    · exact (hF z hz).2 h1
    · have := hs.lt z hz; omega
  · rcases hft z hz with h1 | h1
    · exact lo z h1
    · exact Nat.le_trans base.size h1
end
end Go.Proofs.Ytjdkafamaoeifaa
