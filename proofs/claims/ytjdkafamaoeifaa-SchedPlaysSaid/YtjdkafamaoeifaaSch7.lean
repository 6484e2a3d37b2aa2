/- The scheduler's calls, said of its flows; the document's example for layer 12. -/
import Derived.Test.YtjdkafamaoeifaaSch6
namespace Go.Proofs.Ytjdkafamaoeifaa
open Go.RowKit Go.Proofs Go.Maps
set_option linter.unusedVariables false
set_option linter.unusedSimpArgs false

theorem Blk.drew {w : World} {b : Nat} {t : TypeId} {cs : List Value} (h : Blk w b t cs) : Blk w.drew b t cs := h
theorem set_new_calls (w : World) (ps : Nat) (F : List Nat) (X : List Fl) (id ver : Int) (p : Pol) (h : SS w ps F X) (hX : X.length ≤ 900) (hno : ∀ f ∈ X, f.id ≠ id) (hid : 0 ≤ id) (hidm : id ≤ 9223372036854775807) (hv : 0 ≤ ver) (hp : right p.r p.w p.l p.b = true) :
    Calls Try.prog 13 #[.pointer (some ⟨ps, 0, none⟩), .int .i64 id, .int .i64 ver, .agg #[.int .i64 p.r, .int .i64 p.w, .int .i64 p.l, .int .i64 p.b]] w fun e w' =>
      e = .returned (.int .i64 0) ∧ Turn w w' ps F (X ++ [⟨id, ver, p, ⟨0, 0, 0⟩, []⟩]) := by
  obtain ⟨LR, LW, h, h1, h2⟩ := h
  exact (sset_new w ps F X LR LW id ver p h hX hno hid hidm hv hp).mono fun e w' ⟨he, F', hs, hu⟩ => ⟨he, F', ⟨LR, LW, hs, h1.snoc rfl, h2.snoc rfl⟩, hu⟩
theorem set_up_calls (w : World) (ps : Nat) (F : List Nat) (X : List Fl) (i : Nat) (f : Fl) (id ver : Int) (p : Pol) (h : SS w ps F X) (hi : i < X.length) (hf : X[i] = f) (hid : f.id = id) (hv : 0 ≤ ver) (hvf : f.ver ≤ ver) (hp : right p.r p.w p.l p.b = true) :
    Calls Try.prog 13 #[.pointer (some ⟨ps, 0, none⟩), .int .i64 id, .int .i64 ver, .agg #[.int .i64 p.r, .int .i64 p.w, .int .i64 p.l, .int .i64 p.b]] w fun e w' =>
      e = .returned (.int .i64 0) ∧ Turn w w' ps F (X.set i ⟨f.id, ver, p, f.c, f.q⟩) := by
  obtain ⟨LR, LW, h, h1, h2⟩ := h
  exact (sset_up w ps F X LR LW i f id ver p h hi hf hid hv hvf hp).mono fun e w' ⟨he, F', hs, hu⟩ => ⟨he, F', ⟨LR, LW, hs, h1.same hi hf rfl rfl rfl, h2.same hi hf rfl rfl rfl⟩, hu⟩
theorem set_old_calls (w : World) (ps : Nat) (F : List Nat) (X : List Fl) (i : Nat) (f : Fl) (id ver : Int) (p : Pol) (h : SS w ps F X) (hi : i < X.length) (hf : X[i] = f) (hid : f.id = id) (hv : 0 ≤ ver) (hvf : ver < f.ver) (hp : right p.r p.w p.l p.b = true) :
    Calls Try.prog 13 #[.pointer (some ⟨ps, 0, none⟩), .int .i64 id, .int .i64 ver, .agg #[.int .i64 p.r, .int .i64 p.w, .int .i64 p.l, .int .i64 p.b]] w fun e w' =>
      e = .returned (.int .i64 13) ∧ Below w.heap.size w w' := by
  obtain ⟨LR, LW, h, h1, h2⟩ := h
  exact sset_old w ps F X LR LW i f id ver p h hi hf hid hv hvf hp
set_option maxHeartbeats 4000000 in
set_option maxRecDepth 100000 in
theorem sget_none (w : World) (ps : Nat) (F : List Nat) (X : List Fl) (id : Int) (h : SS w ps F X) (hid : i64ok id) (hno : ∀ f ∈ X, f.id ≠ id) :
    Calls Try.prog 20 #[.pointer (some ⟨ps, 0, none⟩), .int .i64 id] w fun e w' =>
      e = .returned (.tuple #[.int .i64 0, .agg #[.int .i64 0, .int .i64 0, .int .i64 0, .int .i64 0], .agg #[.int .i64 0, .int .i64 0, .int .i64 0], .bool false]) ∧ Below w.heap.size w w' := by
  obtain ⟨LR, LW, ⟨bm, role, Ms, svR, mvR, svW, mvW, FR, FW, h, rfl, _⟩, _, _⟩ := h
  have hl : look Ms id = none := look_none fun m hm => hno _ (List.mem_map_of_mem hm)
  have I0 := ((Inv.refl w).new (b := w.heap.size) (t := 29) (cs := #[.int .i64 0, .int .i64 0, .int .i64 0, .int .i64 0]) rfl).new (b := w.heap.size + 1) (t := 51) (cs := #[.int .i64 0, .int .i64 0, .int .i64 0]) (by simp)
  have h0 := h.below I0.base
  have lk := h0.map.look hid
  rw [hl] at lk
  rw [show pv none = .pointer none from rfl] at lk
  have c0 : ((w.alloc (.cells #[.int .i64 0, .int .i64 0, .int .i64 0, .int .i64 0] 29)).alloc (.cells #[.int .i64 0, .int .i64 0, .int .i64 0] 51)).cell? ⟨ps, 0, none⟩ = some (.map (some bm)) := h0.blk.cell 0
  have p0 : ((w.alloc (.cells #[.int .i64 0, .int .i64 0, .int .i64 0, .int .i64 0] 29)).alloc (.cells #[.int .i64 0, .int .i64 0, .int .i64 0] 51)).cell? ⟨w.heap.size, 0, none⟩ = some (.int .i64 0) := I0.cell (List.Mem.tail _ (List.Mem.head _)) 0
  have p1 : ((w.alloc (.cells #[.int .i64 0, .int .i64 0, .int .i64 0, .int .i64 0] 29)).alloc (.cells #[.int .i64 0, .int .i64 0, .int .i64 0] 51)).cell? ⟨w.heap.size, 1, none⟩ = some (.int .i64 0) := I0.cell (List.Mem.tail _ (List.Mem.head _)) 1
  have p2 : ((w.alloc (.cells #[.int .i64 0, .int .i64 0, .int .i64 0, .int .i64 0] 29)).alloc (.cells #[.int .i64 0, .int .i64 0, .int .i64 0] 51)).cell? ⟨w.heap.size, 2, none⟩ = some (.int .i64 0) := I0.cell (List.Mem.tail _ (List.Mem.head _)) 2
  have p3 : ((w.alloc (.cells #[.int .i64 0, .int .i64 0, .int .i64 0, .int .i64 0] 29)).alloc (.cells #[.int .i64 0, .int .i64 0, .int .i64 0] 51)).cell? ⟨w.heap.size, 3, none⟩ = some (.int .i64 0) := I0.cell (List.Mem.tail _ (List.Mem.head _)) 3
  have q0 : ((w.alloc (.cells #[.int .i64 0, .int .i64 0, .int .i64 0, .int .i64 0] 29)).alloc (.cells #[.int .i64 0, .int .i64 0, .int .i64 0] 51)).cell? ⟨w.heap.size + 1, 0, none⟩ = some (.int .i64 0) := I0.cell (List.Mem.head _) 0
  have q1 : ((w.alloc (.cells #[.int .i64 0, .int .i64 0, .int .i64 0, .int .i64 0] 29)).alloc (.cells #[.int .i64 0, .int .i64 0, .int .i64 0] 51)).cell? ⟨w.heap.size + 1, 1, none⟩ = some (.int .i64 0) := I0.cell (List.Mem.head _) 1
  have q2 : ((w.alloc (.cells #[.int .i64 0, .int .i64 0, .int .i64 0, .int .i64 0] 29)).alloc (.cells #[.int .i64 0, .int .i64 0, .int .i64 0] 51)).cell? ⟨w.heap.size + 1, 2, none⟩ = some (.int .i64 0) := I0.cell (List.Mem.head _) 2
  have y0 : ((w.alloc (.cells #[.int .i64 0, .int .i64 0, .int .i64 0, .int .i64 0] 29)).alloc (.cells #[.int .i64 0, .int .i64 0, .int .i64 0] 51)).frozen? ⟨w.heap.size, 0, none⟩ = false := I0.frozen (List.Mem.tail _ (List.Mem.head _)) 0
  have y1 : ((w.alloc (.cells #[.int .i64 0, .int .i64 0, .int .i64 0, .int .i64 0] 29)).alloc (.cells #[.int .i64 0, .int .i64 0, .int .i64 0] 51)).frozen? ⟨w.heap.size, 1, none⟩ = false := I0.frozen (List.Mem.tail _ (List.Mem.head _)) 1
  have y2 : ((w.alloc (.cells #[.int .i64 0, .int .i64 0, .int .i64 0, .int .i64 0] 29)).alloc (.cells #[.int .i64 0, .int .i64 0, .int .i64 0] 51)).frozen? ⟨w.heap.size, 2, none⟩ = false := I0.frozen (List.Mem.tail _ (List.Mem.head _)) 2
  have y3 : ((w.alloc (.cells #[.int .i64 0, .int .i64 0, .int .i64 0, .int .i64 0] 29)).alloc (.cells #[.int .i64 0, .int .i64 0, .int .i64 0] 51)).frozen? ⟨w.heap.size, 3, none⟩ = false := I0.frozen (List.Mem.tail _ (List.Mem.head _)) 3
  have z0 : ((w.alloc (.cells #[.int .i64 0, .int .i64 0, .int .i64 0, .int .i64 0] 29)).alloc (.cells #[.int .i64 0, .int .i64 0, .int .i64 0] 51)).frozen? ⟨w.heap.size + 1, 0, none⟩ = false := I0.frozen (List.Mem.head _) 0
  have z1 : ((w.alloc (.cells #[.int .i64 0, .int .i64 0, .int .i64 0, .int .i64 0] 29)).alloc (.cells #[.int .i64 0, .int .i64 0, .int .i64 0] 51)).frozen? ⟨w.heap.size + 1, 1, none⟩ = false := I0.frozen (List.Mem.head _) 1
  have z2 : ((w.alloc (.cells #[.int .i64 0, .int .i64 0, .int .i64 0, .int .i64 0] 29)).alloc (.cells #[.int .i64 0, .int .i64 0, .int .i64 0] 51)).frozen? ⟨w.heap.size + 1, 2, none⟩ = false := I0.frozen (List.Mem.head _) 2
  have hne : ¬ (w.heap.size + 1 = w.heap.size) := by omega
  have hne2 : ¬ (w.heap.size = w.heap.size + 1) := by omega
  have HI := hide I0
  clear hl h h0 hno I0
  go_enter Try.func20, Try.ntmps20
  go_wp2_with fail
  exact bodyPost_ret (v := .tuple #[.int .i64 0, .agg #[.int .i64 0, .int .i64 0, .int .i64 0, .int .i64 0], .agg #[.int .i64 0, .int .i64 0, .int .i64 0], .bool false]) (by simp [results, Try.results20, go_sem, *]) rfl ⟨rfl, by repeat (first | exact HI.out.base | refine Below.setCell ?_ (by simp <;> omega) _)⟩
set_option maxHeartbeats 4000000 in
set_option maxRecDepth 100000 in
theorem sget_yes (w : World) (ps : Nat) (F : List Nat) (X : List Fl) (i : Nat) (f : Fl) (id : Int) (h : SS w ps F X) (hi : i < X.length) (hf : X[i] = f) (hid : f.id = id) :
    Calls Try.prog 20 #[.pointer (some ⟨ps, 0, none⟩), .int .i64 id] w fun e w' =>
      e = .returned (.tuple #[.int .i64 f.ver, .agg #[.int .i64 f.p.r, .int .i64 f.p.w, .int .i64 f.p.l, .int .i64 f.p.b], .agg #[.int .i64 f.c.r, .int .i64 f.c.p, .int .i64 f.c.l], .bool true]) ∧ Below w.heap.size w w' := by
  subst hid
  obtain ⟨LR, LW, h, _, _⟩ := h
  obtain ⟨bm, role, Ms, svR, mvR, svW, mvW, FR, FW, m, h, _, _, _, rfl, hl, hmm⟩ := h.open_ hi hf
  clear hi hf
  obtain ⟨k0, k1, _⟩ := h.rF m hmm
  have hok : i64ok m.f.id := ⟨by omega, k1⟩
  have I0 := ((Inv.refl w).new (b := w.heap.size) (t := 29) (cs := #[.int .i64 0, .int .i64 0, .int .i64 0, .int .i64 0]) rfl).new (b := w.heap.size + 1) (t := 51) (cs := #[.int .i64 0, .int .i64 0, .int .i64 0]) (by simp)
  have h0 := h.below I0.base
  have lk := h0.map.look hok
  rw [hl] at lk
  rw [show pv (some m.b) = .pointer (some ⟨m.b, 0, none⟩) from rfl] at lk
  have c0 : ((w.alloc (.cells #[.int .i64 0, .int .i64 0, .int .i64 0, .int .i64 0] 29)).alloc (.cells #[.int .i64 0, .int .i64 0, .int .i64 0] 51)).cell? ⟨ps, 0, none⟩ = some (.map (some bm)) := h0.blk.cell 0
  have M := (h0.fl m hmm).1
  have d0 : ((w.alloc (.cells #[.int .i64 0, .int .i64 0, .int .i64 0, .int .i64 0] 29)).alloc (.cells #[.int .i64 0, .int .i64 0, .int .i64 0] 51)).cell? ⟨m.b, 0, none⟩ = some (.int .i64 m.f.ver) := M.cell 0
  have d1 : ((w.alloc (.cells #[.int .i64 0, .int .i64 0, .int .i64 0, .int .i64 0] 29)).alloc (.cells #[.int .i64 0, .int .i64 0, .int .i64 0] 51)).cell? ⟨m.b, 1, none⟩ = some (.int .i64 m.f.p.r) := M.cell 1
  have d2 : ((w.alloc (.cells #[.int .i64 0, .int .i64 0, .int .i64 0, .int .i64 0] 29)).alloc (.cells #[.int .i64 0, .int .i64 0, .int .i64 0] 51)).cell? ⟨m.b, 2, none⟩ = some (.int .i64 m.f.p.w) := M.cell 2
  have d3 : ((w.alloc (.cells #[.int .i64 0, .int .i64 0, .int .i64 0, .int .i64 0] 29)).alloc (.cells #[.int .i64 0, .int .i64 0, .int .i64 0] 51)).cell? ⟨m.b, 3, none⟩ = some (.int .i64 m.f.p.l) := M.cell 3
  have d4 : ((w.alloc (.cells #[.int .i64 0, .int .i64 0, .int .i64 0, .int .i64 0] 29)).alloc (.cells #[.int .i64 0, .int .i64 0, .int .i64 0] 51)).cell? ⟨m.b, 4, none⟩ = some (.int .i64 m.f.p.b) := M.cell 4
  have d5 : ((w.alloc (.cells #[.int .i64 0, .int .i64 0, .int .i64 0, .int .i64 0] 29)).alloc (.cells #[.int .i64 0, .int .i64 0, .int .i64 0] 51)).cell? ⟨m.b, 5, none⟩ = some (.int .i64 m.f.c.r) := M.cell 5
  have d6 : ((w.alloc (.cells #[.int .i64 0, .int .i64 0, .int .i64 0, .int .i64 0] 29)).alloc (.cells #[.int .i64 0, .int .i64 0, .int .i64 0] 51)).cell? ⟨m.b, 6, none⟩ = some (.int .i64 m.f.c.p) := M.cell 6
  have d7 : ((w.alloc (.cells #[.int .i64 0, .int .i64 0, .int .i64 0, .int .i64 0] 29)).alloc (.cells #[.int .i64 0, .int .i64 0, .int .i64 0] 51)).cell? ⟨m.b, 7, none⟩ = some (.int .i64 m.f.c.l) := M.cell 7
  have hlt := h.lt.2.2.2.2 m hmm m.b (by simp [Fm.foot])
  have p0 : ((w.alloc (.cells #[.int .i64 0, .int .i64 0, .int .i64 0, .int .i64 0] 29)).alloc (.cells #[.int .i64 0, .int .i64 0, .int .i64 0] 51)).cell? ⟨w.heap.size, 0, none⟩ = some (.int .i64 0) := I0.cell (List.Mem.tail _ (List.Mem.head _)) 0
  have p1 : ((w.alloc (.cells #[.int .i64 0, .int .i64 0, .int .i64 0, .int .i64 0] 29)).alloc (.cells #[.int .i64 0, .int .i64 0, .int .i64 0] 51)).cell? ⟨w.heap.size, 1, none⟩ = some (.int .i64 0) := I0.cell (List.Mem.tail _ (List.Mem.head _)) 1
  have p2 : ((w.alloc (.cells #[.int .i64 0, .int .i64 0, .int .i64 0, .int .i64 0] 29)).alloc (.cells #[.int .i64 0, .int .i64 0, .int .i64 0] 51)).cell? ⟨w.heap.size, 2, none⟩ = some (.int .i64 0) := I0.cell (List.Mem.tail _ (List.Mem.head _)) 2
  have p3 : ((w.alloc (.cells #[.int .i64 0, .int .i64 0, .int .i64 0, .int .i64 0] 29)).alloc (.cells #[.int .i64 0, .int .i64 0, .int .i64 0] 51)).cell? ⟨w.heap.size, 3, none⟩ = some (.int .i64 0) := I0.cell (List.Mem.tail _ (List.Mem.head _)) 3
  have q0 : ((w.alloc (.cells #[.int .i64 0, .int .i64 0, .int .i64 0, .int .i64 0] 29)).alloc (.cells #[.int .i64 0, .int .i64 0, .int .i64 0] 51)).cell? ⟨w.heap.size + 1, 0, none⟩ = some (.int .i64 0) := I0.cell (List.Mem.head _) 0
  have q1 : ((w.alloc (.cells #[.int .i64 0, .int .i64 0, .int .i64 0, .int .i64 0] 29)).alloc (.cells #[.int .i64 0, .int .i64 0, .int .i64 0] 51)).cell? ⟨w.heap.size + 1, 1, none⟩ = some (.int .i64 0) := I0.cell (List.Mem.head _) 1
  have q2 : ((w.alloc (.cells #[.int .i64 0, .int .i64 0, .int .i64 0, .int .i64 0] 29)).alloc (.cells #[.int .i64 0, .int .i64 0, .int .i64 0] 51)).cell? ⟨w.heap.size + 1, 2, none⟩ = some (.int .i64 0) := I0.cell (List.Mem.head _) 2
  have y0 : ((w.alloc (.cells #[.int .i64 0, .int .i64 0, .int .i64 0, .int .i64 0] 29)).alloc (.cells #[.int .i64 0, .int .i64 0, .int .i64 0] 51)).frozen? ⟨w.heap.size, 0, none⟩ = false := I0.frozen (List.Mem.tail _ (List.Mem.head _)) 0
  have y1 : ((w.alloc (.cells #[.int .i64 0, .int .i64 0, .int .i64 0, .int .i64 0] 29)).alloc (.cells #[.int .i64 0, .int .i64 0, .int .i64 0] 51)).frozen? ⟨w.heap.size, 1, none⟩ = false := I0.frozen (List.Mem.tail _ (List.Mem.head _)) 1
  have y2 : ((w.alloc (.cells #[.int .i64 0, .int .i64 0, .int .i64 0, .int .i64 0] 29)).alloc (.cells #[.int .i64 0, .int .i64 0, .int .i64 0] 51)).frozen? ⟨w.heap.size, 2, none⟩ = false := I0.frozen (List.Mem.tail _ (List.Mem.head _)) 2
  have y3 : ((w.alloc (.cells #[.int .i64 0, .int .i64 0, .int .i64 0, .int .i64 0] 29)).alloc (.cells #[.int .i64 0, .int .i64 0, .int .i64 0] 51)).frozen? ⟨w.heap.size, 3, none⟩ = false := I0.frozen (List.Mem.tail _ (List.Mem.head _)) 3
  have z0 : ((w.alloc (.cells #[.int .i64 0, .int .i64 0, .int .i64 0, .int .i64 0] 29)).alloc (.cells #[.int .i64 0, .int .i64 0, .int .i64 0] 51)).frozen? ⟨w.heap.size + 1, 0, none⟩ = false := I0.frozen (List.Mem.head _) 0
  have z1 : ((w.alloc (.cells #[.int .i64 0, .int .i64 0, .int .i64 0, .int .i64 0] 29)).alloc (.cells #[.int .i64 0, .int .i64 0, .int .i64 0] 51)).frozen? ⟨w.heap.size + 1, 1, none⟩ = false := I0.frozen (List.Mem.head _) 1
  have z2 : ((w.alloc (.cells #[.int .i64 0, .int .i64 0, .int .i64 0, .int .i64 0] 29)).alloc (.cells #[.int .i64 0, .int .i64 0, .int .i64 0] 51)).frozen? ⟨w.heap.size + 1, 2, none⟩ = false := I0.frozen (List.Mem.head _) 2
  have hne : ¬ (w.heap.size + 1 = w.heap.size) := by omega
  have hne2 : ¬ (w.heap.size = w.heap.size + 1) := by omega
  have hne3 : ¬ (m.b = w.heap.size) := by omega
  have hne4 : ¬ (w.heap.size = m.b) := by omega
  have hne5 : ¬ (m.b = w.heap.size + 1) := by omega
  have hne6 : ¬ (w.heap.size + 1 = m.b) := by omega
  have HI := hide I0
  clear hl h h0 hmm I0 M k0 k1
  go_enter Try.func20, Try.ntmps20
  go_wp2_with fail
  obtain ⟨w0, hw0⟩ : ∃ w0, ((w.alloc (.cells #[.int .i64 0, .int .i64 0, .int .i64 0, .int .i64 0] 29)).alloc (.cells #[.int .i64 0, .int .i64 0, .int .i64 0] 51)) = w0 := ⟨_, rfl⟩
  rw [hw0] at p0 p1 p2 p3 q0 q1 q2 y0 y1 y2 y3 z0 z1 z2 d0 d1 d2 d3 d4 d5 d6 d7 HI ⊢
  go_region
  go_wp2
  have BP : Blk w0 w.heap.size 29 [.int .i64 0, .int .i64 0, .int .i64 0, .int .i64 0] := HI.out.2 _ (List.Mem.tail _ (List.Mem.head _))
  have BC : Blk w0 (w.heap.size + 1) 51 [.int .i64 0, .int .i64 0, .int .i64 0] := HI.out.2 _ (List.Mem.head _)
  have ch1 : Chg [w.heap.size] w0 ((((w0.setCell ⟨w.heap.size, 0, none⟩ (.int .i64 m.f.p.r)).setCell ⟨w.heap.size, 1, none⟩ (.int .i64 m.f.p.w)).setCell ⟨w.heap.size, 2, none⟩ (.int .i64 m.f.p.l)).setCell ⟨w.heap.size, 3, none⟩ (.int .i64 m.f.p.b)) := ((((Chg.refl [w.heap.size] w0).setCell (Or.inl (by simp)) _).setCell (Or.inl (by simp)) _).setCell (Or.inl (by simp)) _).setCell (Or.inl (by simp)) _
  have BP1 : Blk ((((w0.setCell ⟨w.heap.size, 0, none⟩ (.int .i64 m.f.p.r)).setCell ⟨w.heap.size, 1, none⟩ (.int .i64 m.f.p.w)).setCell ⟨w.heap.size, 2, none⟩ (.int .i64 m.f.p.l)).setCell ⟨w.heap.size, 3, none⟩ (.int .i64 m.f.p.b)) w.heap.size 29 [.int .i64 m.f.p.r, .int .i64 m.f.p.w, .int .i64 m.f.p.l, .int .i64 m.f.p.b] := (((BP.set 0 (.int .i64 m.f.p.r)).set 1 (.int .i64 m.f.p.w)).set 2 (.int .i64 m.f.p.l)).set 3 (.int .i64 m.f.p.b)
  have BC1 := BC.chg ch1 (by rw [List.mem_singleton]; omega)
  have ch2 : Chg [w.heap.size + 1] ((((w0.setCell ⟨w.heap.size, 0, none⟩ (.int .i64 m.f.p.r)).setCell ⟨w.heap.size, 1, none⟩ (.int .i64 m.f.p.w)).setCell ⟨w.heap.size, 2, none⟩ (.int .i64 m.f.p.l)).setCell ⟨w.heap.size, 3, none⟩ (.int .i64 m.f.p.b)) ((((((((w0.setCell ⟨w.heap.size, 0, none⟩ (.int .i64 m.f.p.r)).setCell ⟨w.heap.size, 1, none⟩ (.int .i64 m.f.p.w)).setCell ⟨w.heap.size, 2, none⟩ (.int .i64 m.f.p.l)).setCell ⟨w.heap.size, 3, none⟩ (.int .i64 m.f.p.b)).setCell ⟨w.heap.size + 1, 0, none⟩ (.int .i64 m.f.c.r)).setCell ⟨w.heap.size + 1, 1, none⟩ (.int .i64 m.f.c.p)).setCell ⟨w.heap.size + 1, 2, none⟩ (.int .i64 m.f.c.l)).drew) := ((((Chg.refl [w.heap.size + 1] ((((w0.setCell ⟨w.heap.size, 0, none⟩ (.int .i64 m.f.p.r)).setCell ⟨w.heap.size, 1, none⟩ (.int .i64 m.f.p.w)).setCell ⟨w.heap.size, 2, none⟩ (.int .i64 m.f.p.l)).setCell ⟨w.heap.size, 3, none⟩ (.int .i64 m.f.p.b))).setCell (Or.inl (by simp)) _).setCell (Or.inl (by simp)) _).setCell (Or.inl (by simp)) _).drew
  have BP2 := BP1.chg ch2 (by rw [List.mem_singleton]; omega)
  have BC2a : Blk (((((((w0.setCell ⟨w.heap.size, 0, none⟩ (.int .i64 m.f.p.r)).setCell ⟨w.heap.size, 1, none⟩ (.int .i64 m.f.p.w)).setCell ⟨w.heap.size, 2, none⟩ (.int .i64 m.f.p.l)).setCell ⟨w.heap.size, 3, none⟩ (.int .i64 m.f.p.b)).setCell ⟨w.heap.size + 1, 0, none⟩ (.int .i64 m.f.c.r)).setCell ⟨w.heap.size + 1, 1, none⟩ (.int .i64 m.f.c.p)).setCell ⟨w.heap.size + 1, 2, none⟩ (.int .i64 m.f.c.l)) (w.heap.size + 1) 51 [.int .i64 m.f.c.r, .int .i64 m.f.c.p, .int .i64 m.f.c.l] := ((BC1.set 0 (.int .i64 m.f.c.r)).set 1 (.int .i64 m.f.c.p)).set 2 (.int .i64 m.f.c.l)
  have BC2 : Blk ((((((((w0.setCell ⟨w.heap.size, 0, none⟩ (.int .i64 m.f.p.r)).setCell ⟨w.heap.size, 1, none⟩ (.int .i64 m.f.p.w)).setCell ⟨w.heap.size, 2, none⟩ (.int .i64 m.f.p.l)).setCell ⟨w.heap.size, 3, none⟩ (.int .i64 m.f.p.b)).setCell ⟨w.heap.size + 1, 0, none⟩ (.int .i64 m.f.c.r)).setCell ⟨w.heap.size + 1, 1, none⟩ (.int .i64 m.f.c.p)).setCell ⟨w.heap.size + 1, 2, none⟩ (.int .i64 m.f.c.l)).drew) (w.heap.size + 1) 51 [.int .i64 m.f.c.r, .int .i64 m.f.c.p, .int .i64 m.f.c.l] := BC2a.drew
  have hB : Below w.heap.size w ((((((((w0.setCell ⟨w.heap.size, 0, none⟩ (.int .i64 m.f.p.r)).setCell ⟨w.heap.size, 1, none⟩ (.int .i64 m.f.p.w)).setCell ⟨w.heap.size, 2, none⟩ (.int .i64 m.f.p.l)).setCell ⟨w.heap.size, 3, none⟩ (.int .i64 m.f.p.b)).setCell ⟨w.heap.size + 1, 0, none⟩ (.int .i64 m.f.c.r)).setCell ⟨w.heap.size + 1, 1, none⟩ (.int .i64 m.f.c.p)).setCell ⟨w.heap.size + 1, 2, none⟩ (.int .i64 m.f.c.l)).drew) := by
    have hc := (ch1.mono (L' := [w.heap.size, w.heap.size + 1]) (fun z hz => Or.inl (by rw [List.mem_singleton.1 hz]; simp))).trans ch2 (fun z hz => Or.inl (by rw [List.mem_singleton.1 hz]; simp))
    exact Chg.onto HI.out.base HI.out.base.size hc (fun z hz => by simp at hz; omega)
  obtain ⟨w9, hw9⟩ : ∃ w9, ((((((((w0.setCell ⟨w.heap.size, 0, none⟩ (.int .i64 m.f.p.r)).setCell ⟨w.heap.size, 1, none⟩ (.int .i64 m.f.p.w)).setCell ⟨w.heap.size, 2, none⟩ (.int .i64 m.f.p.l)).setCell ⟨w.heap.size, 3, none⟩ (.int .i64 m.f.p.b)).setCell ⟨w.heap.size + 1, 0, none⟩ (.int .i64 m.f.c.r)).setCell ⟨w.heap.size + 1, 1, none⟩ (.int .i64 m.f.c.p)).setCell ⟨w.heap.size + 1, 2, none⟩ (.int .i64 m.f.c.l)).drew) = w9 := ⟨_, rfl⟩
  rw [hw9] at BP2 BC2 hB ⊢
  clear p0 p1 p2 p3 q0 q1 q2 y0 y1 y2 y3 z0 z1 z2 d0 d1 d2 d3 d4 d5 d6 d7 BP BC BP1 BC1 ch1 ch2 hw9
  have e0 : w9.cell? ⟨w.heap.size, 0, none⟩ = some (.int .i64 m.f.p.r) := BP2.cell 0
  have e1 : w9.cell? ⟨w.heap.size, 1, none⟩ = some (.int .i64 m.f.p.w) := BP2.cell 1
  have e2 : w9.cell? ⟨w.heap.size, 2, none⟩ = some (.int .i64 m.f.p.l) := BP2.cell 2
  have e3 : w9.cell? ⟨w.heap.size, 3, none⟩ = some (.int .i64 m.f.p.b) := BP2.cell 3
  have e4 : w9.cell? ⟨w.heap.size + 1, 0, none⟩ = some (.int .i64 m.f.c.r) := BC2.cell 0
  have e5 : w9.cell? ⟨w.heap.size + 1, 1, none⟩ = some (.int .i64 m.f.c.p) := BC2.cell 1
  have e6 : w9.cell? ⟨w.heap.size + 1, 2, none⟩ = some (.int .i64 m.f.c.l) := BC2.cell 2
  exact bodyPost_ret (v := .tuple #[.int .i64 m.f.ver, .agg #[.int .i64 m.f.p.r, .int .i64 m.f.p.w, .int .i64 m.f.p.l, .int .i64 m.f.p.b], .agg #[.int .i64 m.f.c.r, .int .i64 m.f.c.p, .int .i64 m.f.c.l], .bool true]) (by simp [results, Try.results20, go_sem, e0, e1, e2, e3, e4, e5, e6]) rfl ⟨rfl, hB⟩
end Go.Proofs.Ytjdkafamaoeifaa
