/- The walks through sched.New, Set. -/
import Derived.Test.YtjdkafamaoeifaaStand
import Derived.StillTailTactics
namespace Go.Proofs.Ytjdkafamaoeifaa
open Go.RowKit Go.Proofs Go.Maps
set_option linter.unusedVariables false
set_option linter.unusedSimpArgs false

theorem FmAt.store {w w' : World} {m m' : Fm} (h : FmAt w m) (hc : Chg [m.b] w w') (hb : Blk w' m.b 87 m'.cells) (h1 : m'.b = m.b) (h2 : m'.qv = m.qv) (h3 : m'.f.q = m.f.q) : FmAt w' m' := by
  refine ⟨by rw [h1]; exact hb, ?_⟩
  rw [h2, h3]
  refine h.2.chg hc fun g hg hx => ?_
  obtain ⟨cs, hq⟩ := h.2.blk hg
  rw [List.mem_singleton.1 hx] at hq
  have := h.1.symm.trans hq
  simp at this
theorem set_foot {Ms : List Fm} {i : Nat} {m m' m0 : Fm} {z : Nat} (hi : i < Ms.length) (hm : Ms[i] = m) (hf : m'.foot = m.foot) (h0 : m0 ∈ Ms.set i m') (hz : z ∈ m0.foot) : ∃ m1 ∈ Ms, z ∈ m1.foot := by
  rcases List.mem_or_eq_of_mem_set h0 with h | h
  · exact ⟨m0, h, hz⟩
  · rw [h, hf] at hz
    exact ⟨m, by rw [← hm]; exact List.getElem_mem hi, hz⟩
def kR (f : Fl) : Int := f.c.r
def kP (f : Fl) : Int := f.c.p
/-- a scheduler: its flows, in the order in which they came -/
def SS (w : World) (ps : Nat) (F : List Nat) (X : List Fl) : Prop := ∃ LR LW, SA w ps F X LR LW ∧ Stands LR X kR ∧ Stands LW X kP
/-- it is turned -/
def Turn (w w' : World) (ps : Nat) (F : List Nat) (X' : List Fl) : Prop := ∃ F', SS w' ps F' X' ∧ Up F w w' F'
theorem SS.below {w w' : World} {ps : Nat} {F : List Nat} {X : List Fl} (h : SS w ps F X) (hb : Below w.heap.size w w') : SS w' ps F X := by
  obtain ⟨LR, LW, h, h1, h2⟩ := h
  exact ⟨LR, LW, h.below hb, h1, h2⟩
theorem SS.chg {w w' : World} {ps : Nat} {F G : List Nat} {X : List Fl} (h : SS w ps F X) (hc : Chg G w w') (hg : ∀ z ∈ G, z ∉ F) : SS w' ps F X := by
  obtain ⟨LR, LW, h, h1, h2⟩ := h
  exact ⟨LR, LW, h.chg hc hg, h1, h2⟩
theorem SS.nodup {w : World} {ps : Nat} {F : List Nat} {X : List Fl} (h : SS w ps F X) : (X.map Fl.id).Nodup := by
  obtain ⟨LR, LW, ⟨bm, role, Ms, svR, mvR, svW, mvW, FR, FW, h, rfl, _⟩, _⟩ := h
  rw [List.map_map]
  exact h.nd
theorem SS.ids {w : World} {ps : Nat} {F : List Nat} {X : List Fl} (h : SS w ps F X) : ∀ f ∈ X, 0 ≤ f.id ∧ f.id ≤ 9223372036854775807 := by
  obtain ⟨LR, LW, ⟨bm, role, Ms, svR, mvR, svW, mvW, FR, FW, h, rfl, _⟩, _⟩ := h
  intro f hf
  obtain ⟨m, hm, rfl⟩ := List.mem_map.1 hf
  exact ⟨(h.rF m hm).1, (h.rF m hm).2.1⟩
theorem SS.lt {w : World} {ps : Nat} {F : List Nat} {X : List Fl} (h : SS w ps F X) : ∀ z ∈ F, z < w.heap.size := by
  obtain ⟨LR, LW, ⟨bm, role, Ms, svR, mvR, svW, mvW, FR, FW, h, rfl, h2⟩, _⟩ := h
  exact h2.2.2.2.2.2
theorem PM.wp_put {o : Oper} {a : Act} {K : Act → World → Prop} {Q : Exit → Act → World → Prop} {w : World} {b c : Nat} {f : Int → Option Nat} {k : Int} {nb : Nat} (m x y : Operand)
    (ho : o.op = .mapUpdate 78 m x y) (hm : a.eval m = .map (some b)) (hx : a.eval x = .int .i64 k) (hy : a.eval y = .pointer (some ⟨nb, 0, none⟩)) (h : PM w b c f) (hk : i64ok k) (hc : c < 1000000)
    (hK : ∀ w', PM w' b (if (f k).isSome then c else c + 1) (updN f k (some nb)) → Chg [b] w w' → K (a.put o.dst undef) w') : o.wp Try.prog a w K Q := by
  obtain ⟨w', hrun, r1, r2⟩ := h.put hk nb hc
  unfold Oper.wp
  simp [execOp, ho, hm, hx, hy, hrun, Result.andThen]
  exact hK w' r1 r2
theorem PM.wpl_put {ops : Array Oper} {rest : List Oper} {o : Oper} {a : Act} {Q : Exit → Act → World → Prop} {w : World} {b c : Nat} {f : Int → Option Nat} {k : Int} {nb : Nat} (hg : o.guard = none) (m x y : Operand)
    (ho : o.op = .mapUpdate 78 m x y) (hm : a.eval m = .map (some b)) (hx : a.eval x = .int .i64 k) (hy : a.eval y = .pointer (some ⟨nb, 0, none⟩)) (h : PM w b c f) (hk : i64ok k) (hc : c < 1000000)
    (hK : ∀ w', PM w' b (if (f k).isSome then c else c + 1) (updN f k (some nb)) → Chg [b] w w' → wpList Try.prog ops Q rest (a.put o.dst undef) w') : wpList Try.prog ops Q (o :: rest) a w :=
  wpList_plain hg fun _ hK' => PM.wp_put m x y ho hm hx hy h hk hc fun w' h1 h2 => hK' _ _ (hK w' h1 h2)
theorem SM.snoc {w w' : World} {ps bm : Nat} {role : Nat → Int} {Ms : List Fm} {LR LW : List Ld} {svR mvR svW mvW : Value} {FR FW : List Nat} {m : Fm} (h : SM w ps bm role Ms LR LW svR mvR svW mvW FR FW) (hno : ∀ x ∈ Ms, x.f.id ≠ m.f.id) (h0 : 0 ≤ m.f.id) (h1 : m.f.id ≤ 9223372036854775807)
    (hm : FmAt w' m) (hp : PM w' bm (Ms.length + 1) (updN (look Ms) m.f.id (some m.b))) (hc : Chg [bm] w w') (hf : ∀ z ∈ m.foot, w.heap.size ≤ z) : SM w' ps bm (grow role w.heap.size m.f.id) (Ms ++ [m]) LR LW svR mvR svW mvW FR FW := by
  obtain ⟨l1, l2, l3, l4, l5⟩ := h.lt
  have hne : ∀ z, (role z ≠ -2) → z ∉ [bm] := fun z hz hm => hz (by rw [List.mem_singleton.1 hm]; exact h.bm_)
  refine ⟨h.blk.chg hc (hne _ (by rw [h.ps_]; decide)), ?_, h.hr.chg hc (fun z hz => hne _ (by rw [h.rR z hz]; decide)), h.hw.chg hc (fun z hz => hne _ (by rw [h.rW z hz]; decide)), ?_, ?_,
    by rw [grow_lt l1, h.ps_], by rw [grow_lt l2, h.bm_], fun z hz => by rw [grow_lt (l3 z hz), h.rR z hz], fun z hz => by rw [grow_lt (l4 z hz), h.rW z hz], ?_⟩
  · rw [look_snoc hno, List.length_append, List.length_singleton]
    exact hp
  · intro m2 hm2
    rcases List.mem_append.1 hm2 with h2 | h2
    · refine (h.fl _ h2).chg hc (fun z hz => hne z ?_)
      rw [(h.rF _ h2).2.2 z hz]
      have := (h.rF _ h2).1
      omega
    · rw [List.mem_singleton.1 h2]; exact hm
  · rw [List.map_append, List.nodup_append]
    refine ⟨h.nd, by simp, fun a ha b hb => ?_⟩
    obtain ⟨x, hx, rfl⟩ := List.mem_map.1 ha
    have : b = m.f.id := by simpa using hb
    rw [this]
    exact hno x hx
  · intro m2 hm2
    rcases List.mem_append.1 hm2 with h2 | h2
    · obtain ⟨j0, j1, hrj⟩ := h.rF _ h2
      exact ⟨j0, j1, fun z hz => by rw [grow_lt (l5 _ h2 z hz), hrj z hz]⟩
    · rw [List.mem_singleton.1 h2]
      exact ⟨h0, h1, fun z hz => grow_ge (hf z hz)⟩
set_option maxHeartbeats 4000000 in
set_option maxRecDepth 100000 in
theorem snew_calls (w : World) : Calls Try.prog 11 #[] w fun e w' => ∃ ps, e = .returned (.pointer (some ⟨ps, 0, none⟩)) ∧ w.heap.size ≤ ps ∧ Below w.heap.size w w' ∧ ∃ F, SS w' ps F [] ∧ ∀ z ∈ F, w.heap.size ≤ z := by
  have hmm := @run_makeMap Try.prog
  go_enter Try.func11, Try.ntmps11
  go_wp2
  go_ret
  have hb : Below w.heap.size w ((w.alloc (.map #[] 0)).alloc (.cells [Value.map (some w.heap.size), .slice none 0 0, .map none, .slice none 0 0, .map none].toArray 84)) := ((Below.refl _ w).alloc (Nat.le_refl _) _).alloc (by simp) _
  refine ⟨w.heap.size + 1, by simp, by omega, hb, [w.heap.size + 1, w.heap.size], ⟨[], [], ?_, Stands.nil _, Stands.nil _⟩, by simp⟩
  refine ⟨w.heap.size, fun z => if z = w.heap.size + 1 then -1 else -2, [], _, _, _, _, [], [], ⟨Blk.new (by simp), ?_, Or.inl ⟨rfl, rfl, rfl, rfl⟩, Or.inl ⟨rfl, rfl, rfl, rfl⟩, by simp, by simp, by simp, by simp, by simp, by simp, by simp⟩, rfl, by simp, by simp, by simp, by simp, by simp, by simp; omega⟩
  exact (PM.made w).chg (Chg.of_below (L := []) ((Below.refl _ _).alloc (Nat.le_refl _) _)) (by simp)
set_option maxHeartbeats 4000000 in
set_option maxRecDepth 100000 in
theorem sset_up (w : World) (ps : Nat) (F : List Nat) (X : List Fl) (LR LW : List Ld) (i : Nat) (f : Fl) (id ver : Int) (p : Pol) (h : SA w ps F X LR LW) (hi : i < X.length) (hf : X[i] = f) (hid : f.id = id) (hv : 0 ≤ ver) (hvf : f.ver ≤ ver) (hp : right p.r p.w p.l p.b = true) :
    Calls Try.prog 13 #[.pointer (some ⟨ps, 0, none⟩), .int .i64 id, .int .i64 ver, .agg #[.int .i64 p.r, .int .i64 p.w, .int .i64 p.l, .int .i64 p.b]] w fun e w' =>
      e = .returned (.int .i64 0) ∧ ∃ F', SA w' ps F' (X.set i ⟨f.id, ver, p, f.c, f.q⟩) LR LW ∧ Up F w w' F' := by
  subst hid
  obtain ⟨bm, role, Ms, svR, mvR, svW, mvW, FR, FW, m, h, hF, hX, hIm, rfl, hl, hmm⟩ := h.open_ hi hf
  clear hi hf
  obtain ⟨i0, i1, _⟩ := h.rF m hmm
  have hok : i64ok m.f.id := ⟨by omega, i1⟩
  have t1 : ¬ (m.f.id < 0) := by omega
  have t2 : ¬ (ver < 0) := by omega
  have t3 : ¬ (ver < m.f.ver) := by omega
  have B0 := Blk.new (w := w) (cs := [.int .i64 p.r, .int .i64 p.w, .int .i64 p.l, .int .i64 p.b]) (t := 29) rfl
  have bb := (Below.refl w.heap.size w).alloc (Nat.le_refl _) (.cells [.int .i64 p.r, .int .i64 p.w, .int .i64 p.l, .int .i64 p.b].toArray 29)
  obtain ⟨w0, hw0⟩ : ∃ w0, w.alloc (.cells [.int .i64 p.r, .int .i64 p.w, .int .i64 p.l, .int .i64 p.b].toArray 29) = w0 := ⟨_, rfl⟩
  rw [hw0] at B0 bb
  have HW := hide hw0
  have HIM := hide hIm
  have HMM := hide hmm
  have HX := hide hX
  have H := hide h
  have HF := hide hF
  clear hw0 h i0 i1 hF hX hIm hmm
  have a0 := B0.cell 0
  have a1 := B0.cell 1
  have a2 := B0.cell 2
  have a3 := B0.cell 3
  go_enter Try.func13, Try.ntmps13
  go_wp2_with fail
  rw [show w.alloc (.cells #[.int .i64 p.r, .int .i64 p.w, .int .i64 p.l, .int .i64 p.b] 29) = w0 from HW.out]
  with_reducible refine (right_calls _ _ _ _ _).mono ?_
  rintro e w1 ⟨rfl, hb1⟩
  rw [hp]
  have h1 := H.out.below (bb.trans (hb1.mono bb.size))
  have lk := h1.map.look hok
  rw [hl] at lk
  rw [show pv (some m.b) = .pointer (some ⟨m.b, 0, none⟩) from rfl] at lk
  have B1 := B0.below hb1
  have c0 : w1.cell? ⟨ps, 0, none⟩ = some (.map (some bm)) := h1.blk.cell 0
  have m0 : w1.cell? ⟨m.b, 0, none⟩ = some (.int .i64 m.f.ver) := (h1.fl m HMM.out).1.cell 0
  have m1 : w1.cell? ⟨m.b, 1, none⟩ = some (.int .i64 m.f.p.r) := (h1.fl m HMM.out).1.cell 1
  have m2 : w1.cell? ⟨m.b, 2, none⟩ = some (.int .i64 m.f.p.w) := (h1.fl m HMM.out).1.cell 2
  have m3 : w1.cell? ⟨m.b, 3, none⟩ = some (.int .i64 m.f.p.l) := (h1.fl m HMM.out).1.cell 3
  have m4 : w1.cell? ⟨m.b, 4, none⟩ = some (.int .i64 m.f.p.b) := (h1.fl m HMM.out).1.cell 4
  have f0 : w1.frozen? ⟨m.b, 0, none⟩ = false := (h1.fl m HMM.out).1.frozen 0
  have f1 : w1.frozen? ⟨m.b, 1, none⟩ = false := (h1.fl m HMM.out).1.frozen 1
  have f2 : w1.frozen? ⟨m.b, 2, none⟩ = false := (h1.fl m HMM.out).1.frozen 2
  have f3 : w1.frozen? ⟨m.b, 3, none⟩ = false := (h1.fl m HMM.out).1.frozen 3
  have f4 : w1.frozen? ⟨m.b, 4, none⟩ = false := (h1.fl m HMM.out).1.frozen 4
  have b0 : w1.cell? ⟨w.heap.size, 0, none⟩ = some (.int .i64 p.r) := B1.cell 0
  have b1 : w1.cell? ⟨w.heap.size, 1, none⟩ = some (.int .i64 p.w) := B1.cell 1
  have b2 : w1.cell? ⟨w.heap.size, 2, none⟩ = some (.int .i64 p.l) := B1.cell 2
  have b3 : w1.cell? ⟨w.heap.size, 3, none⟩ = some (.int .i64 p.b) := B1.cell 3
  have hne : m.b ≠ w.heap.size := by have := H.out.lt.2.2.2.2 m HMM.out m.b (by simp [Fm.foot]); omega
  have hne2 : w.heap.size ≠ m.b := fun e => hne e.symm
  have H1 := hide h1
  clear hl h1 B0 a0 a1 a2 a3
  go_wp2_with fail
  go_region
  go_wp2
  go_ret
  obtain ⟨hi, hm⟩ := HIM.out
  have hf1 := H1.out.fl m HMM.out
  have ch : Chg [m.b] w1 (((((w1.setCell ⟨m.b, 0, none⟩ (.int .i64 ver)).setCell ⟨m.b, 1, none⟩ (.int .i64 p.r)).setCell ⟨m.b, 2, none⟩ (.int .i64 p.w)).setCell ⟨m.b, 3, none⟩ (.int .i64 p.l)).setCell ⟨m.b, 4, none⟩ (.int .i64 p.b)).drew :=
    ((((((Chg.refl [m.b] w1).setCell (Or.inl (by simp)) _).setCell (Or.inl (by simp)) _).setCell (Or.inl (by simp)) _).setCell (Or.inl (by simp)) _).setCell (Or.inl (by simp)) _).drew
  have hfm : FmAt _ ⟨⟨m.f.id, ver, p, m.f.c, m.f.q⟩, m.b, m.qv⟩ := hf1.store ch ((((((hf1.1.set 0 (.int .i64 ver)).set 1 (.int .i64 p.r)).set 2 (.int .i64 p.w)).set 3 (.int .i64 p.l)).set 4 (.int .i64 p.b))) rfl rfl rfl
  have hcw : Chg m.foot w _ := (Chg.of_below (L := m.foot) (bb.trans (hb1.mono bb.size))).trans ch (fun z hz => Or.inl (by rw [List.mem_singleton.1 hz]; simp [Fm.foot]))
  have hsm := H.out.flow (m' := ⟨⟨m.f.id, ver, p, m.f.c, m.f.q⟩, m.b, m.qv⟩) hi (by rw [hm]) (by rw [hm]) hfm (by rw [hm]; exact hcw) (fun z hz => Or.inl (by rw [hm]; exact hz))
  refine ⟨rfl, SA.close hsm (by rw [← HX.out, List.map_set]) HF.out (hcw.mono fun z hz => Or.inl (HF.out.2.2.2.2.1 m HMM.out z hz)) (fun z hz => Or.inl hz) (fun z hz => Or.inl hz) (fun m0 hm0 z hz => Or.inl ?_)⟩
  refine set_foot hi hm ?_ hm0 hz
  rfl
set_option maxHeartbeats 4000000 in
set_option maxRecDepth 100000 in
theorem sset_bad (w : World) (ps : Nat) (id ver : Int) (p : Pol) (hb : id < 0 ∨ ver < 0 ∨ right p.r p.w p.l p.b = false) :
    Calls Try.prog 13 #[.pointer (some ⟨ps, 0, none⟩), .int .i64 id, .int .i64 ver, .agg #[.int .i64 p.r, .int .i64 p.w, .int .i64 p.l, .int .i64 p.b]] w fun e w' => e = .returned (.int .i64 1) ∧ Below w.heap.size w w' := by
  have B0 := Blk.new (w := w) (cs := [.int .i64 p.r, .int .i64 p.w, .int .i64 p.l, .int .i64 p.b]) (t := 29) rfl
  have bb := (Below.refl w.heap.size w).alloc (Nat.le_refl _) (.cells [.int .i64 p.r, .int .i64 p.w, .int .i64 p.l, .int .i64 p.b].toArray 29)
  obtain ⟨w0, hw0⟩ : ∃ w0, w.alloc (.cells [.int .i64 p.r, .int .i64 p.w, .int .i64 p.l, .int .i64 p.b].toArray 29) = w0 := ⟨_, rfl⟩
  rw [hw0] at B0 bb
  have HW := hide hw0
  clear hw0
  have a0 := B0.cell 0
  have a1 := B0.cell 1
  have a2 := B0.cell 2
  have a3 := B0.cell 3
  by_cases t1 : id < 0
  · clear hb
    go_enter Try.func13, Try.ntmps13
    go_wp2_with fail
    go_ret
    exact ⟨rfl, by rw [show w.alloc (.cells #[.int .i64 p.r, .int .i64 p.w, .int .i64 p.l, .int .i64 p.b] 29) = w0 from HW.out]; exact bb⟩
  by_cases t2 : ver < 0
  · clear hb
    go_enter Try.func13, Try.ntmps13
    go_wp2_with fail
    go_ret
    exact ⟨rfl, by rw [show w.alloc (.cells #[.int .i64 p.r, .int .i64 p.w, .int .i64 p.l, .int .i64 p.b] 29) = w0 from HW.out]; exact bb⟩
  have hp : right p.r p.w p.l p.b = false := by rcases hb with h | h | h <;> first | exact absurd h t1 | exact absurd h t2 | exact h
  clear hb
  go_enter Try.func13, Try.ntmps13
  go_wp2_with fail
  rw [show w.alloc (.cells #[.int .i64 p.r, .int .i64 p.w, .int .i64 p.l, .int .i64 p.b] 29) = w0 from HW.out]
  with_reducible refine (right_calls _ _ _ _ _).mono ?_
  rintro e w1 ⟨rfl, hb1⟩
  rw [hp]
  have bb1 := bb.trans (hb1.mono bb.size)
  clear a0 a1 a2 a3 B0
  go_wp2_with fail
  go_ret
  exact ⟨rfl, bb1⟩
set_option maxHeartbeats 4000000 in
set_option maxRecDepth 100000 in
theorem sset_old (w : World) (ps : Nat) (F : List Nat) (X : List Fl) (LR LW : List Ld) (i : Nat) (f : Fl) (id ver : Int) (p : Pol) (h : SA w ps F X LR LW) (hi : i < X.length) (hf : X[i] = f) (hid : f.id = id) (hv : 0 ≤ ver) (hvf : ver < f.ver) (hp : right p.r p.w p.l p.b = true) :
    Calls Try.prog 13 #[.pointer (some ⟨ps, 0, none⟩), .int .i64 id, .int .i64 ver, .agg #[.int .i64 p.r, .int .i64 p.w, .int .i64 p.l, .int .i64 p.b]] w fun e w' => e = .returned (.int .i64 13) ∧ Below w.heap.size w w' := by
  subst hid
  obtain ⟨bm, role, Ms, svR, mvR, svW, mvW, FR, FW, m, h, hF, hX, hIm, rfl, hl, hmm⟩ := h.open_ hi hf
  clear hi hf hF hX hIm
  obtain ⟨i0, i1, _⟩ := h.rF m hmm
  have hok : i64ok m.f.id := ⟨by omega, i1⟩
  have t1 : ¬ (m.f.id < 0) := by omega
  have t2 : ¬ (ver < 0) := by omega
  have B0 := Blk.new (w := w) (cs := [.int .i64 p.r, .int .i64 p.w, .int .i64 p.l, .int .i64 p.b]) (t := 29) rfl
  have bb := (Below.refl w.heap.size w).alloc (Nat.le_refl _) (.cells [.int .i64 p.r, .int .i64 p.w, .int .i64 p.l, .int .i64 p.b].toArray 29)
  obtain ⟨w0, hw0⟩ : ∃ w0, w.alloc (.cells [.int .i64 p.r, .int .i64 p.w, .int .i64 p.l, .int .i64 p.b].toArray 29) = w0 := ⟨_, rfl⟩
  rw [hw0] at B0 bb
  have HW := hide hw0
  clear hw0
  have a0 := B0.cell 0
  have a1 := B0.cell 1
  have a2 := B0.cell 2
  have a3 := B0.cell 3
  have HMM := hide hmm
  have H := hide h
  clear h i0 i1 hmm
  go_enter Try.func13, Try.ntmps13
  go_wp2_with fail
  rw [show w.alloc (.cells #[.int .i64 p.r, .int .i64 p.w, .int .i64 p.l, .int .i64 p.b] 29) = w0 from HW.out]
  with_reducible refine (right_calls _ _ _ _ _).mono ?_
  rintro e w1 ⟨rfl, hb1⟩
  rw [hp]
  have bb1 := bb.trans (hb1.mono bb.size)
  have h1 := H.out.below bb1
  have lk := h1.map.look hok
  rw [hl] at lk
  rw [show pv (some m.b) = .pointer (some ⟨m.b, 0, none⟩) from rfl] at lk
  have c0 : w1.cell? ⟨ps, 0, none⟩ = some (.map (some bm)) := h1.blk.cell 0
  have m0 : w1.cell? ⟨m.b, 0, none⟩ = some (.int .i64 m.f.ver) := (h1.fl m HMM.out).1.cell 0
  clear hl h1 B0 a0 a1 a2 a3
  go_wp2_with fail
  go_ret
  exact ⟨rfl, bb1⟩
set_option maxHeartbeats 4000000 in
set_option maxRecDepth 100000 in
theorem sset_new (w : World) (ps : Nat) (F : List Nat) (X : List Fl) (LR LW : List Ld) (id ver : Int) (p : Pol) (h : SA w ps F X LR LW) (hX : X.length ≤ 900) (hno : ∀ f ∈ X, f.id ≠ id) (hid : 0 ≤ id) (hidm : id ≤ 9223372036854775807) (hv : 0 ≤ ver) (hp : right p.r p.w p.l p.b = true) :
    Calls Try.prog 13 #[.pointer (some ⟨ps, 0, none⟩), .int .i64 id, .int .i64 ver, .agg #[.int .i64 p.r, .int .i64 p.w, .int .i64 p.l, .int .i64 p.b]] w fun e w' =>
      e = .returned (.int .i64 0) ∧ ∃ F', SA w' ps F' (X ++ [⟨id, ver, p, ⟨0, 0, 0⟩, []⟩]) LR LW ∧ Up F w w' F' := by
  obtain ⟨bm, role, Ms, svR, mvR, svW, mvW, FR, FW, h, rfl, hF⟩ := h
  have hno' : ∀ m ∈ Ms, m.f.id ≠ id := fun m hm => hno _ (List.mem_map_of_mem hm)
  have hl := look_none hno'
  have hMl : Ms.length < 1000000 := by rw [List.length_map] at hX; omega
  have hok : i64ok id := ⟨by omega, hidm⟩
  have t1 : ¬ (id < 0) := by omega
  have t2 : ¬ (ver < 0) := by omega
  have B0 := Blk.new (w := w) (cs := [.int .i64 p.r, .int .i64 p.w, .int .i64 p.l, .int .i64 p.b]) (t := 29) rfl
  have bb := (Below.refl w.heap.size w).alloc (Nat.le_refl _) (.cells [.int .i64 p.r, .int .i64 p.w, .int .i64 p.l, .int .i64 p.b].toArray 29)
  obtain ⟨w0, hw0⟩ : ∃ w0, w.alloc (.cells [.int .i64 p.r, .int .i64 p.w, .int .i64 p.l, .int .i64 p.b].toArray 29) = w0 := ⟨_, rfl⟩
  rw [hw0] at B0 bb
  have HW := hide hw0
  clear hw0
  have a0 := B0.cell 0
  have a1 := B0.cell 1
  have a2 := B0.cell 2
  have a3 := B0.cell 3
  have HN := hide hno'
  have H := hide h
  have HF := hide hF
  have HML := hide hMl
  clear h hno hno' hF hX hMl
  go_enter Try.func13, Try.ntmps13
  go_wp2_with fail
  rw [show w.alloc (.cells #[.int .i64 p.r, .int .i64 p.w, .int .i64 p.l, .int .i64 p.b] 29) = w0 from HW.out]
  with_reducible refine (right_calls _ _ _ _ _).mono ?_
  rintro e w1 ⟨rfl, hb1⟩
  rw [hp]
  have bb1 := bb.trans (hb1.mono bb.size)
  have h1 := H.out.below bb1
  have lk := h1.map.look hok
  rw [hl] at lk
  rw [show pv none = .pointer none from rfl] at lk
  have B1 := B0.below hb1
  have h2 := h1.below ((Below.refl w1.heap.size w1).alloc (Nat.le_refl _) (.cells [.int .i64 0, .int .i64 0, .int .i64 0, .int .i64 0, .int .i64 0, .int .i64 0, .int .i64 0, .int .i64 0, .slice none 0 0].toArray 87))
  have B2 := B1.alloc (.cells [.int .i64 0, .int .i64 0, .int .i64 0, .int .i64 0, .int .i64 0, .int .i64 0, .int .i64 0, .int .i64 0, .slice none 0 0].toArray 87)
  have N2 := Blk.new (w := w1) (cs := [.int .i64 0, .int .i64 0, .int .i64 0, .int .i64 0, .int .i64 0, .int .i64 0, .int .i64 0, .int .i64 0, .slice none 0 0]) (t := 87) rfl
  have hpm : ps ≠ bm := fun e => by have e1 := h1.ps_; have e2 := h1.bm_; rw [e] at e1; omega
  have hlt := h1.lt
  have sz1 : w.heap.size < w1.heap.size := B1.lt
  have c0 : w1.cell? ⟨ps, 0, none⟩ = some (.map (some bm)) := h1.blk.cell 0
  have c02 : (w1.alloc (.cells [.int .i64 0, .int .i64 0, .int .i64 0, .int .i64 0, .int .i64 0, .int .i64 0, .int .i64 0, .int .i64 0, .slice none 0 0].toArray 87)).cell? ⟨ps, 0, none⟩ = some (.map (some bm)) := h2.blk.cell 0
  have c03 : (w1.alloc (.cells #[.int .i64 0, .int .i64 0, .int .i64 0, .int .i64 0, .int .i64 0, .int .i64 0, .int .i64 0, .int .i64 0, .slice none 0 0] 87)).cell? ⟨ps, 0, none⟩ = some (.map (some bm)) := c02
  have P2 := h2.map
  obtain ⟨w2, hw2⟩ : ∃ w2, w1.alloc (.cells [.int .i64 0, .int .i64 0, .int .i64 0, .int .i64 0, .int .i64 0, .int .i64 0, .int .i64 0, .int .i64 0, .slice none 0 0].toArray 87) = w2 := ⟨_, rfl⟩
  have Cw2 : Chg [bm] w w2 := by rw [← hw2]; exact (Chg.of_below bb1).alloc _
  rw [hw2] at h2 B2 N2 P2 c02
  have HW2 := hide hw2
  have HLT := hide hlt
  have HB := hide (And.intro h2 (And.intro B2 (And.intro N2 (And.intro P2 Cw2))))
  clear h1 B0 a0 a1 a2 a3 hlt h2 B2 N2 P2 Cw2 hw2 B1
  obtain ⟨w3, hrun2, P3, ch3⟩ := HB.out.2.2.2.1.put hok w1.heap.size HML.out
  have hrun : (Instr.mapUpdate 78 (.map (some bm)) (.int .i64 id) (.pointer (some ⟨w1.heap.size, 0, none⟩))).run Try.prog (w1.alloc (.cells #[.int .i64 0, .int .i64 0, .int .i64 0, .int .i64 0, .int .i64 0, .int .i64 0, .int .i64 0, .int .i64 0, .slice none 0 0] 87)) = .ok () w3 := by
    rw [show w1.alloc (.cells #[.int .i64 0, .int .i64 0, .int .i64 0, .int .i64 0, .int .i64 0, .int .i64 0, .int .i64 0, .int .i64 0, .slice none 0 0] 87) = w2 from HW2.out]; exact hrun2
  clear hrun2
  rw [hl] at P3
  have hbw : bm ≠ w1.heap.size := by have := HLT.out.2.1; omega
  have hbw0 : w.heap.size ≠ bm := by
    have := H.out.lt.2.1
    omega
  have N3 := HB.out.2.2.1.chg ch3 (by simp; omega)
  have B3 := HB.out.2.1.chg ch3 (by simp; omega)
  have C3 : Chg [bm] w w3 := HB.out.2.2.2.2.same ch3
  have n0 : w3.cell? ⟨w1.heap.size, 0, none⟩ = some (.int .i64 0) := N3.cell 0
  have n1 : w3.cell? ⟨w1.heap.size, 1, none⟩ = some (.int .i64 0) := N3.cell 1
  have n2 : w3.cell? ⟨w1.heap.size, 2, none⟩ = some (.int .i64 0) := N3.cell 2
  have n3 : w3.cell? ⟨w1.heap.size, 3, none⟩ = some (.int .i64 0) := N3.cell 3
  have n4 : w3.cell? ⟨w1.heap.size, 4, none⟩ = some (.int .i64 0) := N3.cell 4
  have f0 : w3.frozen? ⟨w1.heap.size, 0, none⟩ = false := N3.frozen 0
  have f1 : w3.frozen? ⟨w1.heap.size, 1, none⟩ = false := N3.frozen 1
  have f2 : w3.frozen? ⟨w1.heap.size, 2, none⟩ = false := N3.frozen 2
  have f3 : w3.frozen? ⟨w1.heap.size, 3, none⟩ = false := N3.frozen 3
  have f4 : w3.frozen? ⟨w1.heap.size, 4, none⟩ = false := N3.frozen 4
  have b0 : w3.cell? ⟨w.heap.size, 0, none⟩ = some (.int .i64 p.r) := B3.cell 0
  have b1 : w3.cell? ⟨w.heap.size, 1, none⟩ = some (.int .i64 p.w) := B3.cell 1
  have b2 : w3.cell? ⟨w.heap.size, 2, none⟩ = some (.int .i64 p.l) := B3.cell 2
  have b3 : w3.cell? ⟨w.heap.size, 3, none⟩ = some (.int .i64 p.b) := B3.cell 3
  have hne : w1.heap.size ≠ w.heap.size := by omega
  have hne2 : w.heap.size ≠ w1.heap.size := by omega
  have HN3 := hide N3
  have HP3 := hide P3
  have HC3 := hide C3
  clear N3 B3 P3 C3 ch3 hl
  go_wp2_with fail
  go_region
  go_wp2
  go_ret
  have ch : Chg [w1.heap.size] w3 (((((w3.setCell ⟨w1.heap.size, 0, none⟩ (.int .i64 ver)).setCell ⟨w1.heap.size, 1, none⟩ (.int .i64 p.r)).setCell ⟨w1.heap.size, 2, none⟩ (.int .i64 p.w)).setCell ⟨w1.heap.size, 3, none⟩ (.int .i64 p.l)).setCell ⟨w1.heap.size, 4, none⟩ (.int .i64 p.b)).drew :=
    ((((((Chg.refl [w1.heap.size] w3).setCell (Or.inl (by simp)) _).setCell (Or.inl (by simp)) _).setCell (Or.inl (by simp)) _).setCell (Or.inl (by simp)) _).setCell (Or.inl (by simp)) _).drew
  have hcw := HC3.out.trans ch (fun z hz => Or.inr (by rw [List.mem_singleton.1 hz]; omega))
  have hfm : FmAt ((((((w3.setCell ⟨w1.heap.size, 0, none⟩ (.int .i64 ver)).setCell ⟨w1.heap.size, 1, none⟩ (.int .i64 p.r)).setCell ⟨w1.heap.size, 2, none⟩ (.int .i64 p.w)).setCell ⟨w1.heap.size, 3, none⟩ (.int .i64 p.l)).setCell ⟨w1.heap.size, 4, none⟩ (.int .i64 p.b)).drew) ⟨⟨id, ver, p, ⟨0, 0, 0⟩, []⟩, w1.heap.size, .slice none 0 0⟩ := ⟨(((((HN3.out.set 0 (.int .i64 ver)).set 1 (.int .i64 p.r)).set 2 (.int .i64 p.w)).set 3 (.int .i64 p.l)).set 4 (.int .i64 p.b)), Que.nil _ _ _⟩
  have hpm4 := HP3.out.chg ch (by rw [List.mem_singleton]; omega)
  have hsm := H.out.snoc (m := ⟨⟨id, ver, p, ⟨0, 0, 0⟩, []⟩, w1.heap.size, .slice none 0 0⟩) HN.out hid hidm hfm hpm4 hcw (fun z hz => by
    have : z = w1.heap.size := by simpa [Fm.foot, Value.ownBlock] using hz
    omega)
  refine ⟨rfl, SA.close hsm (by rw [List.map_append]; rfl) HF.out (hcw.mono fun z hz => Or.inl (by rw [List.mem_singleton.1 hz]; exact HF.out.2.1)) (fun z hz => Or.inl hz) (fun z hz => Or.inl hz) (fun m0 hm0 z hz => ?_)⟩
  rcases List.mem_append.1 hm0 with h0 | h0
  · exact Or.inl ⟨m0, h0, hz⟩
  · rw [List.mem_singleton.1 h0] at hz
    have : z = w1.heap.size := by simpa [Fm.foot, Value.ownBlock] using hz
    exact Or.inr (by omega)
end Go.Proofs.Ytjdkafamaoeifaa
