/- FairSched: what is kept of the picks, plainly and in memory. -/
import Derived.Test.YtjdkafamaoeifaaUnder
import Derived.Test.YtjdkafamaoeifaaRes
namespace Go.Proofs.Ytjdkafamaoeifaa
open Go.RowKit Go.Proofs Go.Maps
set_option linter.unusedVariables false
set_option linter.unusedSimpArgs false

/-- a scheduler beside a slice of loads -/
structure GotSt (W w : World) (ps : Nat) (X : List Fl) (v : Value) (g : List Ld) : Prop where
  ex : ∃ F, SS w ps F X ∧ ∀ z ∈ F, W.heap.size ≤ z ∧ v.ownBlock ≠ some z
  row : w.ownsRow 0 57 2 v g.length (ldCells g)
  lo : ∀ z, v.ownBlock = some z → W.heap.size ≤ z
  base : Below W.heap.size W w
section
variable {W w w' : World} {ps : Nat} {X X' : List Fl} {v : Value} {g : List Ld}
theorem GotSt.start (h : Sch W [] w ps X) : GotSt W w ps X (.slice none 0 0) [] := by
  obtain ⟨⟨F, hs, h1, _⟩, hi⟩ := h
  exact ⟨⟨F, hs, fun z hz => ⟨h1 z hz, by simp [Value.ownBlock]⟩⟩, ⟨rfl, Or.inl ⟨rfl, rfl⟩⟩, fun z hz => by simp [Value.ownBlock] at hz, hi.base⟩
theorem GotSt.turn {F : List Nat} (hF : ∀ z ∈ F, W.heap.size ≤ z ∧ v.ownBlock ≠ some z) (row : w.ownsRow 0 57 2 v g.length (ldCells g)) (lo : ∀ z, v.ownBlock = some z → W.heap.size ≤ z) (base : Below W.heap.size W w) (t : Turn w w' ps F X') : GotSt W w' ps X' v g := by
  obtain ⟨F', hs, hc, hg⟩ := t
  refine ⟨⟨F', hs, fun z hz => ?_⟩, own_chg row hc (fun z hz hm => (hF z hm).2 hz), lo, Chg.onto base base.size hc (fun z hz => (hF z hz).1)⟩
  rcases hg z hz with h | h
  · exact hF z h
  · exact ⟨Nat.le_trans base.size h, fun hw => by have := own_lt row hw; omega⟩
theorem GotSt.below (h : GotSt W w ps X v g) (hb : Below w.heap.size w w') : GotSt W w' ps X v g := by
  obtain ⟨⟨F, hs, hF⟩, row, lo, base⟩ := h
  exact ⟨⟨F, hs.below hb, hF⟩, own_chg row (Chg.of_below (L := []) hb) (fun _ _ hx => by cases hx), lo, base.trans (hb.mono base.size)⟩
theorem GotSt.drewN (h : GotSt W w ps X v g) (q : Nat) : GotSt W (w.drewN q) ps X v g := h.below (below_drewN (Below.refl _ _) q)
def PickG (W : World) (ps : Nat) (X : List Fl) (v : Value) (g : List Ld) (tag : Int) (e : Ending) (w' : World) : Prop :=
  (e = .returned (.tuple #[.int .i64 0, .agg #[.int .i64 0, .int .i64 0, .int .i64 0], .int .i64 0, .bool false]) ∧ (∀ f ∈ X, up f = true → mayL tag f = false) ∧ GotSt W w' ps X v g) ∨
  ∃ (i : Nat) (phase : Int) (f : Fl) (x : It) (rest : List It), Picks X tag i phase ∧ (∃ hi : i < X.length, X[i] = f) ∧ f.q = x :: rest ∧
    e = .returned (.tuple #[.int .i64 f.id, .agg #[.int .i64 x.name, .int .i64 x.delta, .int .i64 x.rho], .int .i64 phase, .bool true]) ∧ GotSt W w' ps (X.set i (popped f tag phase x rest)) v g
theorem pick_g (now : Int) (h : GotSt W w ps X v g) (hX : X.length ≤ 900) :
    Calls Try.prog 15 #[.pointer (some ⟨ps, 0, none⟩), .int .i64 now] w (PickG W ps X v g (at_ now)) := by
  have h0 := h
  obtain ⟨⟨F, hs, hF⟩, row, lo, base⟩ := h
  refine (spick_calls w ps F X now hs hX).mono fun e w' ho => ?_
  rcases ho with ⟨he, hn, hb⟩ | ⟨i, phase, f, x, rest, hp, hf, hq, he, ht⟩
  · exact Or.inl ⟨he, hn, h0.below hb⟩
  · exact Or.inr ⟨i, phase, f, x, rest, hp, hf, hq, he, GotSt.turn hF row lo base ht⟩
theorem push_more_g (i : Nat) (f : Fl) (id now : Int) (x : It) (h : GotSt W w ps X v g) (hX : X.length ≤ 900) (hi : i < X.length) (hf : X[i] = f) (hid : f.id = id) (hq0 : f.q ≠ []) (hql : f.q.length < 1024) :
    Calls Try.prog 16 #[.pointer (some ⟨ps, 0, none⟩), .int .i64 id, .agg #[.int .i64 x.name, .int .i64 x.delta, .int .i64 x.rho], .int .i64 now] w fun e w' =>
      e = .returned (.int .i64 0) ∧ GotSt W w' ps (X.set i ⟨f.id, f.ver, f.p, f.c, f.q ++ [x]⟩) v g := by
  obtain ⟨⟨F, hs, hF⟩, row, lo, base⟩ := h
  exact (spush_more w ps F X i f id now x hs hX hi hf hid hq0 hql).mono fun e w' ⟨he, ht⟩ => ⟨he, GotSt.turn hF row lo base ht⟩
theorem GotSt.push {A : Option Addr} {cap : Nat} {x : Ld} (h : GotSt W w ps X v g) (hown : w'.ownsRow 0 57 2 (.slice A (g.length + 1) cap) (g.length + 1) (ldCells g ++ x.cells)) (hc : Chg v.ownBlock.toList w w')
    (hor : ∀ z, A.map Addr.block = some z → v.ownBlock = some z ∨ w.heap.size ≤ z) : GotSt W w' ps X (.slice A (g.length + 1) cap) (g ++ [x]) := by
  obtain ⟨⟨F, hs, hF⟩, row, lo, base⟩ := h
  have hin : ∀ z ∈ v.ownBlock.toList, v.ownBlock = some z := fun z hz => by simpa using hz
  refine ⟨⟨F, hs.chg hc (fun z hz hm => (hF z hm).2 (hin z hz)), fun z hz => ⟨(hF z hz).1, fun hw => ?_⟩⟩, ?_, fun z hz => ?_, Chg.onto base base.size hc (fun z hz => lo z (hin z hz))⟩
  · rw [ownBlock_slice] at hw
    rcases hor z hw with h1 | h1
    · exact (hF z hz).2 h1
    · have := hs.lt z hz; omega
  · rw [List.length_append, List.length_singleton]
    have : ldCells (g ++ [x]) = ldCells g ++ x.cells := by simp [ldCells]
    rw [this]
    exact hown
  · rw [ownBlock_slice] at hz
    rcases hor z hz with h1 | h1
    · exact lo z h1
    · exact Nat.le_trans base.size h1
end
/-! ### plainly -/
def cntG (g : List Ld) (j : Nat) : Int := (((g.filter fun x => decide (x.id = (j : Int))).length : Nat) : Int)
def leG (g : List Ld) (a j : Nat) : Int := (((g.filter fun x => decide (x.id = (j : Int)) && decide (x.n ≤ (a : Int))).length : Nat) : Int)
theorem cntG_snoc (g : List Ld) (i : Nat) (t : Int) : cntG (g ++ [⟨(i : Int), t⟩]) = upW (cntG g) i (cntG g i + 1) := by
  funext j
  unfold cntG
  rw [List.filter_append, List.length_append]
  by_cases e : j = i
  · subst e
    rw [upW_same]
    simp
  · rw [upW_other e]
    have : ¬ ((i : Int) = (j : Int)) := by omega
    simp [this]
theorem leG_snoc (g : List Ld) (i : Nat) (t : Nat) {a : Nat} (ha : a < t) (j : Nat) : leG (g ++ [⟨(i : Int), (t : Int)⟩]) a j = leG g a j := by
  unfold leG
  rw [List.filter_append, List.length_append]
  have : ¬ ((t : Int) ≤ (a : Int)) := by omega
  simp [this]
theorem leG_all {g : List Ld} {t : Nat} (h : ∀ x ∈ g, 0 ≤ x.n ∧ x.n ≤ (t : Int)) (j : Nat) : leG g t j = cntG g j := by
  unfold leG cntG
  congr 2
  refine List.filter_congr fun x hx => ?_
  have := (h x hx).2
  simp [this]
theorem most_split {g : List Ld} {a t : Nat} (hat : a ≤ t) (h : ∀ x ∈ g, 0 ≤ x.n ∧ x.n ≤ (t : Int)) (j : Nat) : (most g (j : Int) (a : Int) (t : Int) : Int) + leG g a j = cntG g j := by
  unfold most leG cntG
  induction g with
  | nil => rfl
  | cons x g ih =>
    have h1 := ih fun y hy => h y (List.mem_cons_of_mem _ hy)
    have h2 := (h x (List.mem_cons_self ..)).2
    simp only [List.filter_cons, inSpan]
    by_cases e : x.id = (j : Int)
    · by_cases e2 : x.n ≤ (a : Int)
      · have e3 : ¬ ((a : Int) < x.n) := by omega
        simp [e, e2, e3] at h1 ⊢
        omega
      · have e3 : (a : Int) < x.n := by omega
        simp [e, e2, e3, h2] at h1 ⊢
        omega
    · simp [e] at h1 ⊢
      exact h1
theorem ticksL_snoc (g : List Ld) (i : Nat) (t : Int) : (fun j : Nat => ticksL (g ++ [⟨(i : Int), t⟩]) (j : Int)) = upW (fun j : Nat => ticksL g (j : Int)) i (ticksL g (i : Int) ++ [t]) := by
  funext j
  unfold ticksL
  rw [List.filter_append, List.map_append]
  by_cases e : j = i
  · subst e
    rw [upW_same]
    simp
  · rw [upW_other e]
    have : ¬ ((i : Int) = (j : Int)) := by omega
    simp [this]
theorem Cnt.congr {pl : List Pol} {C : Nat → Clk} {cnt cnt' : Nat → Int} {rows rows' : Nat → Nat → Int} {t : Nat} (h : Cnt pl C cnt rows t) (hc : cnt' = cnt) (hr : ∀ a, a < t → ∀ j, rows' a j = rows a j) : Cnt pl C cnt' rows' t := by
  subst hc
  exact ⟨fun a ha j hj => by rw [hr a ha j]; exact h.d a ha j hj⟩
/-- the picks so far: now the tick, k picks tried in it, rows for ticks below t, at most m picks -/
structure Fair (pl : List Pol) (n : Int) (b : Bool) (C : Nat → Clk) (Q : Nat → List It) (g : List Ld) (t now : Nat) (k : Int) (m : Nat) : Prop where
  lim : Lim2 pl C Q (fun j => ticksL g (j : Int)) (now : Int) m
  gl : ∀ x ∈ g, 0 ≤ x.n ∧ x.n ≤ (now : Int)
  len : g.length ≤ m
  res : b = false → (∀ j, j < pl.length → (pg pl j).l = 0) ∧ Res pl n C (65536 * (now : Int)) k ∧ Cnt pl C (cntG g) (leG g) t
section
variable {pl : List Pol} {n : Int} {b : Bool} {C : Nat → Clk} {Q : Nat → List It} {g : List Ld} {t now m : Nat} {k : Int}
theorem Fair.start (h : Filled pl C pl.length) (hq : ∀ j, j < pl.length → QOk (Q j)) (hb : b = false → ∀ j, j < pl.length → (pg pl j).l = 0) : Fair pl n b C Q [] 1 0 n 0 := by
  refine ⟨Lim2.start h hq, by simp, by simp, fun e => ⟨hb e, Res.start fun j hj => (h j hj).1.2, ⟨fun a ha j hj => ?_⟩⟩⟩
  rw [(h j hj).1.2]
  have := space_bd (pg pl j).r
  unfold sp leG cntG
  simp
  omega
theorem Fair.tick (h : Fair pl n b C Q g (now + 1) now n m) (hl : load pl ≤ n * 16777216) : Fair pl n b C Q g (now + 1) (now + 1) 0 m := by
  obtain ⟨h1, h2, h3, h4⟩ := h
  refine ⟨h1.later (by omega) (Nat.le_refl _), fun x hx => ?_, h3, fun e => ?_⟩
  · have := h2 x hx
    omega
  · obtain ⟨a1, a2, a3⟩ := h4 e
    refine ⟨a1, ?_, a3⟩
    have := a2.next (Int.le_refl _) hl
    rw [show 65536 * (now : Int) + 65536 = 65536 * ((now + 1 : Nat) : Int) by omega] at this
    exact this
theorem Fair.none (h : Fair pl n b C Q g t now k m) (hn : ∀ f ∈ XL (pg pl) C Q pl.length, up f = true → mayL (at_ (now : Int)) f = false) : Fair pl n b C Q g t now (k + 1) m := by
  obtain ⟨h1, h2, h3, h4⟩ := h
  refine ⟨h1, h2, h3, fun e => ?_⟩
  obtain ⟨a1, a2, a3⟩ := h4 e
  have hz := none_up hn (fun j hj => by
    intro e
    have := (h1.q j hj).1.1
    rw [e] at this
    simp at this) h1.r a1
  exact ⟨a1, ⟨a2.lo, Or.inr fun j hj => absurd hj (by omega)⟩, a3⟩
theorem Fair.more {m' : Nat} (h : Fair pl n b C Q g t now k m) (hm : m ≤ m') : Fair pl n b C Q g t now k m' := ⟨h.lim.later (Int.le_refl _) hm, h.gl, Nat.le_trans h.len hm, h.res⟩
theorem Fair.pick {i : Nat} {phase : Int} {x : It} {rest : List It} (h : Fair pl n b C Q g now now k m) (hi : i < pl.length) (n1 : now ≤ 1000) (hp : Picks (XL (pg pl) C Q pl.length) (at_ (now : Int)) i phase) (hq : Q i = x :: rest) :
    Fair pl n b (upW C i (charge (pg pl i) (C i) (at_ (now : Int)) phase x.delta x.rho)) (upW Q i (rest ++ [⟨0, 0, 0⟩])) (g ++ [⟨(i : Int), (now : Int)⟩]) now now (k + 1) (m + 1) := by
  obtain ⟨h1, h2, h3, h4⟩ := h
  obtain ⟨hst, _, _, hd, hr⟩ := (h1.q i hi).step hq
  refine ⟨?_, fun y hy => ?_, by simp; omega, fun e => ?_⟩
  · rw [ticksL_snoc]
    exact h1.pick hi (by omega) (by omega) hp hq
  · rcases List.mem_append.1 hy with hy | hy
    · exact h2 y hy
    · rw [List.mem_singleton.1 hy]
      exact ⟨by simp only; omega, by simp⟩
  · obtain ⟨a1, a2, a3⟩ := h4 e
    have hat : at_ (now : Int) = 65536 * (now : Int) := at_small (by omega) (by omega)
    rw [hat] at hp ⊢
    obtain ⟨g1, g2, _⟩ := a2.pick (by omega) hi hp hd hr (fun j hj => by
      intro e
      have := (h1.q j hj).1.1
      rw [e] at this
      simp at this) h1.r a1
    exact ⟨a1, g1, (a3.pick g2).congr (cntG_snoc g i _) (fun a ha j => leG_snoc g i now ha j)⟩
theorem Fair.done (h : Fair pl n b C Q g now now k m) (hk : n ≤ k) : Fair pl n b C Q g (now + 1) now n m := by
  obtain ⟨h1, h2, h3, h4⟩ := h
  refine ⟨h1, h2, h3, fun e => ?_⟩
  obtain ⟨a1, a2, a3⟩ := h4 e
  refine ⟨a1, a2.more hk, (a3.row a2 rfl).congr rfl (fun a ha j => ?_)⟩
  by_cases e2 : a = now
  · subst e2
    rw [upW_same]
    exact leG_all h2 j
  · rw [upW_other e2]
/-- nothing is over -/
theorem Fair.over (h : Fair pl n b C Q g t now k m) (n1 : now ≤ 1000) {j : Nat} (hj : j < pl.length) : over g (j : Int) (pg pl j) = false := by
  unfold Go.Proofs.Ytjdkafamaoeifaa.over
  by_cases hl : 0 < (pg pl j).l
  · have hh := h.lim.h j hj hl
    have hno := over_no_mk (ts := ticksL g (j : Int)) (wd := wide (pg pl j).l) (bu := (pg pl j).b) (fun a c ha hac hc => by
      have h1 := hh.ok a c hac hc
      have h2 := hh.rise a c hac hc
      have h3 := hh.le _ (List.getElem_mem ha)
      have h4 := hh.le _ (List.getElem_mem hc)
      unfold overAt
      have e1 : (ticksL g (j : Int)).getD c 0 = (ticksL g (j : Int))[c] := by simp [hc]
      have e2 : (ticksL g (j : Int)).getD a 0 = (ticksL g (j : Int))[a] := by simp [ha]
      rw [e1, e2]
      rw [at_small (by omega) (by omega)]
      omega)
    rw [hno, Bool.and_false]
  · have : decide ((pg pl j).l ≠ 0) = false := by
      have := right_iff.1 (h.lim.r j hj)
      simp
      omega
    rw [this, Bool.and_false, Bool.false_and]
/-- nothing is under -/
theorem Fair.under (h : Fair pl n b C Q g (now + 1) now n m) (hb : b = false) (hm : pl.length ≤ 6) {j a : Nat} (hj : j < pl.length) (ha : a < now) (hr : 1 ≤ (pg pl j).r) :
    65536 * ((now : Int) - a) / space (pg pl j).r ≤ most g (j : Int) (a : Int) (now : Int) + pl.length + 3 := by
  obtain ⟨_, a2, a3⟩ := h.res hb
  have h2 := right_iff.1 (h.lim.r j hj)
  have h1 := a3.ok a2 (Int.le_refl _) rfl hm (a := a) (j := j) (by omega) hj hr (by omega)
  have h3 := most_split (g := g) (a := a) (t := now) (by omega) h.gl j
  unfold sp at h1
  omega
end
end Go.Proofs.Ytjdkafamaoeifaa
