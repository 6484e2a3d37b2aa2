/- A scheduler beside known blocks; the document's example for layer 12. -/
import Derived.Test.YtjdkafamaoeifaaSch7
-- PARTIAL
namespace Go.Proofs.Ytjdkafamaoeifaa
open Go.RowKit Go.Proofs Go.Maps
set_option linter.unusedVariables false
set_option linter.unusedSimpArgs false

/-- a scheduler, made since W; L: known blocks that are not its own -/
structure Sch (W : World) (L : List (Nat × TypeId × Array Value)) (w : World) (ps : Nat) (X : List Fl) : Prop where
  ex : ∃ F, SS w ps F X ∧ (∀ z ∈ F, W.heap.size ≤ z) ∧ ∀ p ∈ L, p.1 ∉ F
  inv : Inv W L w
section
variable {W w w' : World} {L L' : List (Nat × TypeId × Array Value)} {ps : Nat} {X X' : List Fl}
theorem Inv.chg {F : List Nat} (h : Inv W L w) (hc : Chg F w w') (h1 : ∀ z ∈ F, W.heap.size ≤ z) (h2 : ∀ p ∈ L, p.1 ∉ F) : Inv W L w' :=
  ⟨Chg.onto h.1 h.1.size hc h1, fun p hp => by rw [hc.block p.1 (heap_lt (h.2 p hp)) (h2 p hp)]; exact h.2 p hp⟩
theorem Sch.turn {F : List Nat} (hi : Inv W L w) (h1 : ∀ z ∈ F, W.heap.size ≤ z) (h2 : ∀ p ∈ L, p.1 ∉ F) (t : Turn w w' ps F X') : Sch W L w' ps X' := by
  obtain ⟨F', hs, hc, hg⟩ := t
  refine ⟨⟨F', hs, fun z hz => ?_, fun p hp hm => ?_⟩, hi.chg hc h1 h2⟩
  · rcases hg z hz with h | h
    · exact h1 z h
    · exact Nat.le_trans hi.1.size h
  · rcases hg _ hm with h | h
    · exact h2 p hp h
    · have := heap_lt (hi.2 p hp)
      omega
theorem Sch.below (h : Sch W L w ps X) (hb : Below w.heap.size w w') : Sch W L w' ps X := by
  obtain ⟨⟨F, hs, h1, h2⟩, hi⟩ := h
  exact ⟨⟨F, hs.below hb, h1, h2⟩, hi.below hb⟩
theorem Sch.drew (h : Sch W L w ps X) : Sch W L w.drew ps X := h.below (Below.refl _ _).drew
theorem Sch.drewN (h : Sch W L w ps X) (n : Nat) : Sch W L (w.drewN n) ps X := h.below (below_drewN (Below.refl _ _) n)
theorem Sch.alloc (h : Sch W L w ps X) (o : Obj) : Sch W L (w.alloc o) ps X := h.below ((Below.refl _ _).alloc (Nat.le_refl _) o)
theorem Sch.new (h : Sch W L w ps X) {b : Nat} {t : TypeId} {cs : Array Value} (hb : w.heap.size = b) : Sch W ((b, t, cs) :: L) (w.alloc (.cells cs t)) ps X := by
  obtain ⟨⟨F, hs, h1, h2⟩, hi⟩ := h
  refine ⟨⟨F, hs.below ((Below.refl _ _).alloc (Nat.le_refl _) _), h1, fun p hp hm => ?_⟩, hi.new hb⟩
  rcases List.mem_cons.1 hp with rfl | hp
  · have := hs.lt _ hm
    simp only at this
    omega
  · exact h2 p hp hm
theorem Sch.set {b : Nat} {t : TypeId} {cs : Array Value} (h : Sch W ((b, t, cs) :: L) w ps X) (hb : W.heap.size ≤ b) (hd : ∀ p ∈ L, p.1 ≠ b) (i : Nat) (u : Value) :
    Sch W ((b, t, cs.setIfInBounds i u) :: L) (w.setCell ⟨b, i, none⟩ u) ps X := by
  obtain ⟨⟨F, hs, h1, h2⟩, hi⟩ := h
  have hbF := h2 _ (List.Mem.head _)
  refine ⟨⟨F, hs.chg ((Chg.refl [b] w).setCell (Or.inl (by simp)) u) (fun z hz => by rw [List.mem_singleton.1 hz]; exact hbF), h1, fun p hp => ?_⟩, hi.set hb hd i u⟩
  rcases List.mem_cons.1 hp with rfl | hp
  · exact hbF
  · exact h2 p (List.mem_cons_of_mem _ hp)
theorem Sch.sub (h : Sch W L w ps X) (hs : ∀ p ∈ L', p ∈ L) : Sch W L' w ps X := by
  obtain ⟨⟨F, hF, h1, h2⟩, hi⟩ := h
  exact ⟨⟨F, hF, h1, fun p hp => h2 p (hs p hp)⟩, hi.sub hs⟩
theorem Sch.base (h : Sch W L w ps X) : Below W.heap.size W w := h.inv.base
theorem Sch.ids (h : Sch W L w ps X) : ∀ f ∈ X, 0 ≤ f.id ∧ f.id ≤ 9223372036854775807 := by
  obtain ⟨⟨F, hs, _⟩, _⟩ := h
  exact hs.ids
theorem Sch.nodup (h : Sch W L w ps X) : (X.map Fl.id).Nodup := by
  obtain ⟨⟨F, hs, _⟩, _⟩ := h
  exact hs.nodup
end
theorem snew_s {W w : World} {L : List (Nat × TypeId × Array Value)} (hi : Inv W L w) : Calls Try.prog 11 #[] w fun e w' => ∃ ps, e = .returned (.pointer (some ⟨ps, 0, none⟩)) ∧ Sch W L w' ps [] := by
  refine (snew_calls w).mono ?_
  rintro e w' ⟨ps, he, _, hb, F, hs, hF⟩
  refine ⟨ps, he, ⟨F, hs, fun z hz => Nat.le_trans hi.1.size (hF z hz), fun p hp hm => ?_⟩, hi.below hb⟩
  have := hF _ hm
  have := heap_lt (hi.2 p hp)
  omega
theorem set_new_s {W w : World} {L : List (Nat × TypeId × Array Value)} {ps : Nat} {X : List Fl} (id ver : Int) (p : Pol) (h : Sch W L w ps X) (hX : X.length ≤ 900) (hno : ∀ f ∈ X, f.id ≠ id) (hid : 0 ≤ id) (hidm : id ≤ 9223372036854775807) (hv : 0 ≤ ver) (hp : right p.r p.w p.l p.b = true) :
    Calls Try.prog 13 #[.pointer (some ⟨ps, 0, none⟩), .int .i64 id, .int .i64 ver, .agg #[.int .i64 p.r, .int .i64 p.w, .int .i64 p.l, .int .i64 p.b]] w fun e w' =>
      e = .returned (.int .i64 0) ∧ Sch W L w' ps (X ++ [⟨id, ver, p, ⟨0, 0, 0⟩, []⟩]) := by
  obtain ⟨⟨F, hs, h1, h2⟩, hi⟩ := h
  exact (set_new_calls w ps F X id ver p hs hX hno hid hidm hv hp).mono fun e w' ⟨he, ht⟩ => ⟨he, Sch.turn hi h1 h2 ht⟩
theorem set_up_s {W w : World} {L : List (Nat × TypeId × Array Value)} {ps : Nat} {X : List Fl} (i : Nat) (f : Fl) (id ver : Int) (p : Pol) (h : Sch W L w ps X) (hi : i < X.length) (hf : X[i] = f) (hid : f.id = id) (hv : 0 ≤ ver) (hvf : f.ver ≤ ver) (hp : right p.r p.w p.l p.b = true) :
    Calls Try.prog 13 #[.pointer (some ⟨ps, 0, none⟩), .int .i64 id, .int .i64 ver, .agg #[.int .i64 p.r, .int .i64 p.w, .int .i64 p.l, .int .i64 p.b]] w fun e w' =>
      e = .returned (.int .i64 0) ∧ Sch W L w' ps (X.set i ⟨f.id, ver, p, f.c, f.q⟩) := by
  obtain ⟨⟨F, hs, h1, h2⟩, hi'⟩ := h
  exact (set_up_calls w ps F X i f id ver p hs hi hf hid hv hvf hp).mono fun e w' ⟨he, ht⟩ => ⟨he, Sch.turn hi' h1 h2 ht⟩
theorem set_old_s {W w : World} {L : List (Nat × TypeId × Array Value)} {ps : Nat} {X : List Fl} (i : Nat) (f : Fl) (id ver : Int) (p : Pol) (h : Sch W L w ps X) (hi : i < X.length) (hf : X[i] = f) (hid : f.id = id) (hv : 0 ≤ ver) (hvf : ver < f.ver) (hp : right p.r p.w p.l p.b = true) :
    Calls Try.prog 13 #[.pointer (some ⟨ps, 0, none⟩), .int .i64 id, .int .i64 ver, .agg #[.int .i64 p.r, .int .i64 p.w, .int .i64 p.l, .int .i64 p.b]] w fun e w' =>
      e = .returned (.int .i64 13) ∧ Sch W L w' ps X := by
  have h0 := h
  obtain ⟨⟨F, hs, h1, h2⟩, hi'⟩ := h
  exact (set_old_calls w ps F X i f id ver p hs hi hf hid hv hvf hp).mono fun e w' ⟨he, ht⟩ => ⟨he, h0.below ht⟩
theorem set_bad_s {W w : World} {L : List (Nat × TypeId × Array Value)} {ps : Nat} {X : List Fl} (id ver : Int) (p : Pol) (h : Sch W L w ps X) (hb : id < 0 ∨ ver < 0 ∨ right p.r p.w p.l p.b = false) :
    Calls Try.prog 13 #[.pointer (some ⟨ps, 0, none⟩), .int .i64 id, .int .i64 ver, .agg #[.int .i64 p.r, .int .i64 p.w, .int .i64 p.l, .int .i64 p.b]] w fun e w' => e = .returned (.int .i64 1) ∧ Sch W L w' ps X :=
  (sset_bad w ps id ver p hb).mono fun e w' ⟨he, ht⟩ => ⟨he, h.below ht⟩
theorem get_none_s {W w : World} {L : List (Nat × TypeId × Array Value)} {ps : Nat} {X : List Fl} (id : Int) (h : Sch W L w ps X) (hid : i64ok id) (hno : ∀ f ∈ X, f.id ≠ id) :
    Calls Try.prog 20 #[.pointer (some ⟨ps, 0, none⟩), .int .i64 id] w fun e w' =>
      e = .returned (.tuple #[.int .i64 0, .agg #[.int .i64 0, .int .i64 0, .int .i64 0, .int .i64 0], .agg #[.int .i64 0, .int .i64 0, .int .i64 0], .bool false]) ∧ Sch W L w' ps X := by
  have h0 := h
  obtain ⟨⟨F, hs, h1, h2⟩, hi'⟩ := h
  exact (sget_none w ps F X id hs hid hno).mono fun e w' ⟨he, ht⟩ => ⟨he, h0.below ht⟩
theorem get_yes_s {W w : World} {L : List (Nat × TypeId × Array Value)} {ps : Nat} {X : List Fl} (i : Nat) (f : Fl) (id : Int) (h : Sch W L w ps X) (hi : i < X.length) (hf : X[i] = f) (hid : f.id = id) :
    Calls Try.prog 20 #[.pointer (some ⟨ps, 0, none⟩), .int .i64 id] w fun e w' =>
      e = .returned (.tuple #[.int .i64 f.ver, .agg #[.int .i64 f.p.r, .int .i64 f.p.w, .int .i64 f.p.l, .int .i64 f.p.b], .agg #[.int .i64 f.c.r, .int .i64 f.c.p, .int .i64 f.c.l], .bool true]) ∧ Sch W L w' ps X := by
  have h0 := h
  obtain ⟨⟨F, hs, h1, h2⟩, hi'⟩ := h
  exact (sget_yes w ps F X i f id hs hi hf hid).mono fun e w' ⟨he, ht⟩ => ⟨he, h0.below ht⟩
theorem push_more_s {W w : World} {L : List (Nat × TypeId × Array Value)} {ps : Nat} {X : List Fl} (i : Nat) (f : Fl) (id now : Int) (x : It) (h : Sch W L w ps X) (hX : X.length ≤ 900) (hi : i < X.length) (hf : X[i] = f) (hid : f.id = id) (hq0 : f.q ≠ []) (hql : f.q.length < 1024) :
    Calls Try.prog 16 #[.pointer (some ⟨ps, 0, none⟩), .int .i64 id, .agg #[.int .i64 x.name, .int .i64 x.delta, .int .i64 x.rho], .int .i64 now] w fun e w' =>
      e = .returned (.int .i64 0) ∧ Sch W L w' ps (X.set i ⟨f.id, f.ver, f.p, f.c, f.q ++ [x]⟩) := by
  obtain ⟨⟨F, hs, h1, h2⟩, hi'⟩ := h
  exact (spush_more w ps F X i f id now x hs hX hi hf hid hq0 hql).mono fun e w' ⟨he, ht⟩ => ⟨he, Sch.turn hi' h1 h2 ht⟩
theorem push_first_s {W w : World} {L : List (Nat × TypeId × Array Value)} {ps : Nat} {X : List Fl} (i : Nat) (f : Fl) (id now : Int) (x : It) (h : Sch W L w ps X) (hX : X.length ≤ 900) (hi : i < X.length) (hf : X[i] = f) (hid : f.id = id) (hq0 : f.q = []) :
    Calls Try.prog 16 #[.pointer (some ⟨ps, 0, none⟩), .int .i64 id, .agg #[.int .i64 x.name, .int .i64 x.delta, .int .i64 x.rho], .int .i64 now] w fun e w' =>
      e = .returned (.int .i64 0) ∧ Sch W L w' ps (X.set i ⟨f.id, f.ver, f.p, wake f.c (at_ now) (leastP X), f.q ++ [x]⟩) := by
  obtain ⟨⟨F, hs, h1, h2⟩, hi'⟩ := h
  exact (spush_first w ps F X i f id now x hs hX hi hf hid hq0).mono fun e w' ⟨he, ht⟩ => ⟨he, Sch.turn hi' h1 h2 ht⟩
/-- what 'Pick' does, beside known blocks -/
def PickS (W : World) (L : List (Nat × TypeId × Array Value)) (ps : Nat) (X : List Fl) (tag : Int) (e : Ending) (w' : World) : Prop :=
  (e = .returned (.tuple #[.int .i64 0, .agg #[.int .i64 0, .int .i64 0, .int .i64 0], .int .i64 0, .bool false]) ∧ (∀ f ∈ X, up f = true → mayL tag f = false) ∧ Sch W L w' ps X) ∨
  ∃ (i : Nat) (phase : Int) (f : Fl) (x : It) (rest : List It), Picks X tag i phase ∧ (∃ hi : i < X.length, X[i] = f) ∧ f.q = x :: rest ∧
    e = .returned (.tuple #[.int .i64 f.id, .agg #[.int .i64 x.name, .int .i64 x.delta, .int .i64 x.rho], .int .i64 phase, .bool true]) ∧ Sch W L w' ps (X.set i (popped f tag phase x rest))
theorem pick_s {W w : World} {L : List (Nat × TypeId × Array Value)} {ps : Nat} {X : List Fl} (now : Int) (h : Sch W L w ps X) (hX : X.length ≤ 900) :
    Calls Try.prog 15 #[.pointer (some ⟨ps, 0, none⟩), .int .i64 now] w (PickS W L ps X (at_ now)) := by
  have h0 := h
  obtain ⟨⟨F, hs, h1, h2⟩, hi'⟩ := h
  refine (spick_calls w ps F X now hs hX).mono fun e w' ho => ?_
  rcases ho with ⟨he, hn, hb⟩ | ⟨i, phase, f, x, rest, hp, hf, hq, he, ht⟩
  · exact Or.inl ⟨he, hn, h0.below hb⟩
  · exact Or.inr ⟨i, phase, f, x, rest, hp, hf, hq, he, Sch.turn hi' h1 h2 ht⟩
def aw1 : Fl := ⟨1, 0, ⟨1000, 1, 0, 0⟩, ⟨196608, 0, 0⟩, [⟨6, 0, 0⟩]⟩
def aw0 : Fl := ⟨0, 0, ⟨0, 9, 0, 0⟩, ⟨196608, 0, 0⟩, [⟨5, 0, 0⟩]⟩
theorem lt_two {i : Nat} {a b : Fl} (h : i < [a, b].length) : i = 0 ∨ i = 1 := by
  simp at h
  omega
theorem aw_first {i : Nat} {phase : Int} (h : Picks [aw1, aw0] (at_ 3) i phase) : i = 0 ∧ phase = 1 := by
  rcases h with ⟨rfl, hi, hu, hm, _⟩ | ⟨rfl, hn, _⟩
  · rcases lt_two hi with rfl | rfl
    · exact ⟨rfl, rfl⟩
    · exact absurd (show mayR (at_ 3) aw0 = true from hm) (by decide)
  · exact absurd (hn aw1 (by simp) rfl) (by decide)
theorem aw_second {i : Nat} {phase : Int} (h : Picks [popped aw1 (at_ 3) 1 ⟨6, 0, 0⟩ [], aw0] (at_ 3) i phase) : i = 1 ∧ phase = 2 := by
  rcases h with ⟨rfl, hi, hu, hm, _⟩ | ⟨rfl, _, hi, hu, hm, _⟩
  · rcases lt_two hi with rfl | rfl
    · exact absurd (show up (popped aw1 (at_ 3) 1 ⟨6, 0, 0⟩ []) = true from hu) (by decide)
    · exact absurd (show mayR (at_ 3) aw0 = true from hm) (by decide)
  · rcases lt_two hi with rfl | rfl
    · exact absurd (show up (popped aw1 (at_ 3) 1 ⟨6, 0, 0⟩ []) = true from hu) (by decide)
    · exact ⟨rfl, rfl⟩
set_option maxHeartbeats 4000000 in
set_option maxRecDepth 100000 in
theorem awake12_calls (w : World) : Calls Try.prog 10 #[] w fun e w' => e = .returned (.bool true) ∧ Below w.heap.size w w' := by
  have HN := hide (snew_s (Inv.refl w))
  go_enter Try.func10, Try.ntmps10
  go_wp2_with fail
  refine HN.out.mono ?_
  rintro e w1 ⟨ps, rfl, h1⟩
  have H1 := hide (set_new_s 1 0 ⟨1000, 1, 0, 0⟩ h1 (by simp) (by simp) (by decide) (by decide) (by decide) (by decide))
  clear h1 HN
  go_wp2_with fail
  refine H1.out.mono ?_
  rintro e w2 ⟨rfl, h2⟩
  have H2 := hide (set_new_s 0 0 ⟨0, 9, 0, 0⟩ h2 (by simp) (by simp) (by decide) (by decide) (by decide) (by decide))
  clear h2 H1
  go_wp2_with fail
  refine H2.out.mono ?_
  rintro e w3 ⟨rfl, h3⟩
  have H3 := hide (push_first_s 1 ⟨0, 0, ⟨0, 9, 0, 0⟩, ⟨0, 0, 0⟩, []⟩ 0 3 ⟨5, 0, 0⟩ h3 (by simp) (by simp) rfl rfl rfl)
  clear h3 H2
  go_wp2_with fail
  refine H3.out.mono ?_
  rintro e w4 ⟨rfl, h4⟩
  have H4 := hide (push_first_s 0 ⟨1, 0, ⟨1000, 1, 0, 0⟩, ⟨0, 0, 0⟩, []⟩ 1 3 ⟨6, 0, 0⟩ h4 (by simp) (by simp) rfl rfl rfl)
  clear h4 H3
  go_wp2_with fail
  refine H4.out.mono ?_
  rintro e w5 ⟨rfl, h5⟩
  have h5' : Sch w [] w5 ps [aw1, aw0] := h5
  have H5 := hide (pick_s 3 h5' (by simp))
  clear h5 h5' H4
  go_wp2_with fail
  refine H5.out.mono ?_
  rintro e w6 (⟨rfl, hn, _⟩ | ⟨i, phase, f, x, rest, hp, ⟨hi, hf⟩, hq, rfl, h6⟩)
  · exact absurd (hn aw1 (by simp) rfl) (by decide)
  obtain ⟨rfl, rfl⟩ := aw_first hp
  obtain rfl : aw1 = f := hf
  have hq' : [(⟨6, 0, 0⟩ : It)] = x :: rest := hq
  injection hq' with e1 e2
  subst e1 e2
  have h7 := h6.new (b := w6.heap.size) (t := 36) (cs := #[.int .i64 6, .int .i64 0, .int .i64 0]) rfl
  have h7' : Sch w _ _ ps [popped aw1 (at_ 3) 1 ⟨6, 0, 0⟩ [], aw0] := h7
  have H7 := hide (pick_s 3 h7' (by simp))
  clear h6 h7 h7' H5 hp hq
  go_wp2_with fail
  refine H7.out.mono ?_
  rintro e w8 (⟨rfl, hn, _⟩ | ⟨i, phase, f, x, rest, hp, ⟨hi, hf⟩, hq, rfl, h8⟩)
  · exact absurd (hn aw0 (by simp) rfl) (by decide)
  obtain ⟨rfl, rfl⟩ := aw_second hp
  obtain rfl : aw0 = f := hf
  have c0 : w8.cell? ⟨w6.heap.size, 0, none⟩ = some (.int .i64 6) := h8.inv.cell (List.Mem.head _) 0
  have hlt := h8.inv.lt (List.Mem.head _)
  have hb := h8.base
  have hne : ¬ (w6.heap.size = w8.heap.size) := by omega
  rw [show aw1.id = 1 from rfl, show aw0.id = 0 from rfl]
  clear h8 H7 hp
  go_wp2

  go_ret
  exact ⟨rfl, hb.alloc hb.size _⟩
end Go.Proofs.Ytjdkafamaoeifaa
