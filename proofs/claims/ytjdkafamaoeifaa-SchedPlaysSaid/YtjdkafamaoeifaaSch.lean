/- A scheduler in memory: a map of pointers to flows, their queues, two heaps; what each call may turn. -/
import Derived.Test.YtjdkafamaoeifaaAll
import Derived.Test.YtjdkafamaoeifaaQue
import Derived.Test.YtjdkafamaoeifaaClk2
namespace Go.Proofs.Ytjdkafamaoeifaa
open Go.RowKit Go.Proofs Go.Maps
set_option linter.unusedVariables false
set_option linter.unusedSimpArgs false

/-! ### a map from int to pointers -/
def ptrE (v : Value) : Option (DataW Unit × List MemPlace) :=
  match v with
  | .pointer none => some (.lit (.int .i64 (-1)), [])
  | .pointer (some ⟨b, 0, none⟩) => some (.lit (.int .i64 b), [])
  | _ => none
def pv (o : Option Nat) : Value := .pointer (o.map fun b => ⟨b, 0, none⟩)
def pz (o : Option Nat) : Int := match o with | some b => (b : Int) | none => -1
theorem ptrE_pv (o : Option Nat) : ptrE (pv o) = some (.lit (.int .i64 (pz o)), []) := by cases o <;> rfl
theorem ptrE_inv {v : Value} {o : Option Nat} {ps : List MemPlace} (h : ptrE v = some (.lit (.int .i64 (pz o)), ps)) : v = pv o := by
  unfold ptrE at h
  split at h
  · injection h with h; injection h with h _; injection h with h; injection h with _ h
    cases o with
    | none => rfl
    | some b => simp [pz] at h
  · rename_i b
    injection h with h; injection h with h _; injection h with h; injection h with _ h
    cases o with
    | none => simp [pz] at h
    | some b' =>
      simp [pz] at h
      have e : b = b' := by omega
      subst e
      rfl
  · cases h
def PM (w : World) (b c : Nat) (f : Int → Option Nat) : Prop :=
  ∃ D : DataW Unit, w.ownsMap Try.prog 3 ptrE b c D ∧ Maps.size D = c ∧ Maps.Tidy D ∧
    ∀ k, i64ok k → Maps.has D (.int .i64 k) = (f k).isSome ∧ D.atKey (.int .i64 k) (.lit (.int .i64 (-1))) = .lit (.int .i64 (pz (f k)))
theorem zeroP (w : World) : (zeroValue 85).run Try.prog w = .ok (.pointer none) w := by kernel_rfl
def updN (f : Int → Option Nat) (k : Int) (o : Option Nat) : Int → Option Nat := fun j => if j = k then o else f j
theorem updN_same (f : Int → Option Nat) (k : Int) (o : Option Nat) : updN f k o k = o := by simp [updN]
theorem updN_other {f : Int → Option Nat} {k j : Int} (h : j ≠ k) (o : Option Nat) : updN f k o j = f j := by simp [updN, h]
section
variable {w w' : World} {b c : Nat} {f : Int → Option Nat} {k : Int}
theorem PM.lt (h : PM w b c f) : b < w.heap.size := by obtain ⟨D, h, _⟩ := h; exact h.lt
theorem PM.keep (h : PM w b c f) (hk : w'.heap[b]? = w.heap[b]?) : PM w' b c f := by
  obtain ⟨D, ⟨es, clock, hb, F, hs, hD⟩, h2⟩ := h
  exact ⟨D, ⟨es, clock, hk.trans hb, F, hs, hD⟩, h2⟩
theorem PM.chg {L : List Nat} (h : PM w b c f) (hc : Chg L w w') (hn : b ∉ L) : PM w' b c f := h.keep (hc.block b h.lt hn)
theorem PM.made (w : World) : PM (w.alloc (.map #[] 0)) w.heap.size 0 (fun _ => none) :=
  ⟨.map [], World.ownsMap_made _ _ _ _, rfl, Maps.tidy_empty, fun k _ => ⟨rfl, rfl⟩⟩
set_option maxRecDepth 100000 in
theorem PM.look (h : PM w b c f) (hk : i64ok k) : (Instr.lookup 78 (.map (some b)) (.int .i64 k) false).run Try.prog w = .ok (pv (f k)) w := by
  obtain ⟨D, ho, _, _, hf⟩ := h
  obtain ⟨v, ps, hrun, hv⟩ := ho.lookup law Try.underlying78 (zeroP w) (ptrE_pv none) (keyOf_int_mk Try.underlying3 hk.wf)
  obtain ⟨h1, h2⟩ := hf k hk
  rw [show pz none = -1 from rfl, h2] at hv
  rw [hrun, ptrE_inv hv]
theorem PM.put (h : PM w b c f) (hk : i64ok k) (nb : Nat) (hc : c < 1000000) :
    ∃ w', (Instr.mapUpdate 78 (.map (some b)) (.int .i64 k) (.pointer (some ⟨nb, 0, none⟩))).run Try.prog w = .ok () w' ∧ PM w' b (if (f k).isSome then c else c + 1) (updN f k (some nb)) ∧ Chg [b] w w' := by
  obtain ⟨D, ho, hs, ht, hf⟩ := h
  have hkl : WideAt.IsKeyLit (Lit.int .i64 k) := by trivial
  obtain ⟨w', hrun, ho', htn⟩ := ho.store law Try.underlying78 (by unfold maxLen; omega) (keyOf_int_mk Try.underlying3 hk.wf) (ptrE_pv (some nb))
  have hsz := Maps.size_put (k := .int .i64 k) ht (.lit (.int .i64 (pz (some nb))))
  rw [(hf k hk).1, hs] at hsz
  refine ⟨w', hrun, ⟨_, hsz ▸ own_tight ho', hsz, ht.put hkl _, fun j hj => ?_⟩, Chg.of_grown (row := some b) htn.grown⟩
  by_cases e : j = k
  · subst e
    rw [updN_same]
    exact ⟨Maps.has_put_same ht.isMap hkl _, Maps.atKey_put_same ht.isMap hkl _ _⟩
  · have hne : (Lit.int .i64 j) ≠ (Lit.int .i64 k) := fun h => e (by injection h)
    rw [updN_other e, Maps.has_put_other hne, Maps.atKey_put_other hne]
    exact hf j hj
theorem PM.del (h : PM w b c f) (hk : i64ok k) (ty : TypeId) :
    ∃ w', (Builtin.delete_ #[78, 3] ty #[.map (some b), .int .i64 k]).run Try.prog w = .ok (.tuple #[]) w' ∧ PM w' b (if (f k).isSome then c - 1 else c) (updN f k none) ∧ Chg [b] w w' := by
  obtain ⟨D, ho, hs, ht, hf⟩ := h
  obtain ⟨w', hrun, ho', htn⟩ := ho.drop law Try.underlying78 (keyOf_int_mk Try.underlying3 hk.wf) ty
  have hsz := Maps.size_del (k := .int .i64 k) ht
  rw [(hf k hk).1, hs] at hsz
  have hsz2 : Maps.size (D.del (.int .i64 k)) = if (f k).isSome then c - 1 else c := by
    cases h1 : (f k).isSome <;> rw [h1] at hsz <;> simp at hsz ⊢ <;> omega
  refine ⟨w', hrun, ⟨_, hsz2 ▸ own_tight ho', hsz2, ht.del _, fun j hj => ?_⟩, Chg.of_grown (row := some b) htn.grown⟩
  by_cases e : j = k
  · subst e
    rw [updN_same]
    exact ⟨Maps.has_del_same, Maps.atKey_del_same _⟩
  · have hne : (Lit.int .i64 j) ≠ (Lit.int .i64 k) := fun h => e (by injection h)
    rw [updN_other e, Maps.has_del_other hne, Maps.atKey_del_other hne]
    exact hf j hj
end
/-! ### a heap by its two cells -/
def HeapIn (w : World) (sv mv : Value) (L : List Ld) (F : List Nat) : Prop :=
  (sv = .slice none 0 0 ∧ mv = .map none ∧ L = [] ∧ F = []) ∨
  ∃ A cap bm f, sv = .slice A L.length cap ∧ mv = .map (some bm) ∧ w.ownsRow 0 111 2 (.slice A L.length cap) L.length (ldCells L) ∧ IM w bm L.length f ∧ HF f L ∧ HeapOk L ∧ F = bm :: (A.map Addr.block).toList
section
variable {w w' : World} {sv mv : Value} {L : List Ld} {F G : List Nat} {p : Pl}
theorem HeapIn.at_ (h : HeapIn w sv mv L F) (hb : PBlk w p sv mv) : HeapAt w p L (p.b :: F) := by
  rcases h with ⟨rfl, rfl, rfl, rfl⟩ | ⟨A, cap, bm, f, rfl, rfl, ho, hm, hf, hk, rfl⟩
  · exact Or.inl ⟨hb, rfl, rfl⟩
  · exact Or.inr ⟨A, cap, bm, f, ⟨hb, ho, hm⟩, hf, hk, rfl⟩
theorem HeapIn.of (h : HeapAt w p L F) : ∃ sv mv F0, PBlk w p sv mv ∧ HeapIn w sv mv L F0 ∧ F = p.b :: F0 ∧ p.b ∉ F0 := by
  rcases h with ⟨hb, rfl, rfl⟩ | ⟨A, cap, bm, f, h, hf, hk, rfl⟩
  · exact ⟨_, _, [], hb, Or.inl ⟨rfl, rfl, rfl, rfl⟩, rfl, by simp⟩
  · refine ⟨_, _, _, h.blk, Or.inr ⟨A, cap, bm, f, rfl, rfl, h.own, h.map, hf, hk, rfl⟩, rfl, fun hm => ?_⟩
    rcases List.mem_cons.1 hm with e | e
    · exact h.pm e
    · exact h.pA (g := p.b) (by simpa using e) rfl
theorem HeapIn.chg (h : HeapIn w sv mv L F) (hc : Chg G w w') (hg : ∀ z ∈ F, z ∉ G) : HeapIn w' sv mv L F := by
  rcases h with h0 | ⟨A, cap, bm, f, rfl, rfl, ho, hm, hf, hk, rfl⟩
  · exact Or.inl h0
  · exact Or.inr ⟨A, cap, bm, f, rfl, rfl, own_chg ho hc (fun g hg1 hx => by rw [ownBlock_slice] at hg1; exact hg g (by simp [hg1]) hx), hm.chg hc (hg bm (by simp)), hf, hk, rfl⟩
theorem HeapIn.lt (h : HeapIn w sv mv L F) : ∀ z ∈ F, z < w.heap.size := by
  rcases h with ⟨_, _, _, rfl⟩ | ⟨A, cap, bm, f, rfl, rfl, ho, hm, hf, hk, rfl⟩
  · intro z hz; cases hz
  · intro z hz
    rcases List.mem_cons.1 hz with rfl | hz
    · exact hm.lt
    · exact own_lt ho (by rw [ownBlock_slice]; simpa using hz)
end
/-! ### flows -/
structure It where
  name : Int
  delta : Int
  rho : Int
def It.cells (x : It) : List Value := [.int .i64 x.name, .int .i64 x.delta, .int .i64 x.rho]
def itCells (xs : List It) : List Value := xs.flatMap It.cells
structure Fl where
  id : Int
  ver : Int
  p : Pol
  c : Clk
  q : List It
structure Fm where
  f : Fl
  b : Nat
  qv : Value
def Fm.cells (m : Fm) : List Value := [.int .i64 m.f.ver, .int .i64 m.f.p.r, .int .i64 m.f.p.w, .int .i64 m.f.p.l, .int .i64 m.f.p.b, .int .i64 m.f.c.r, .int .i64 m.f.c.p, .int .i64 m.f.c.l, m.qv]
def FmAt (w : World) (m : Fm) : Prop := Blk w m.b 87 m.cells ∧ Que w 36 3 m.qv m.f.q.length (itCells m.f.q)
def Fm.foot (m : Fm) : List Nat := m.b :: m.qv.ownBlock.toList
theorem FmAt.chg {w w' : World} {m : Fm} {L : List Nat} (h : FmAt w m) (hc : Chg L w w') (hn : ∀ z ∈ m.foot, z ∉ L) : FmAt w' m :=
  ⟨h.1.chg hc (hn _ (by simp [Fm.foot])), h.2.chg hc (fun g hg => hn g (by simp [Fm.foot, hg]))⟩
theorem FmAt.lt {w : World} {m : Fm} (h : FmAt w m) : ∀ z ∈ m.foot, z < w.heap.size := by
  intro z hz
  unfold Fm.foot at hz
  rcases List.mem_cons.1 hz with rfl | hz
  · exact h.1.lt
  · exact h.2.lt (by simpa using hz)
def look (Ms : List Fm) (k : Int) : Option Nat := (Ms.find? fun m => m.f.id == k).map Fm.b
/-- the scheduler's memory. role: whose a block is (-1: the scheduler's own, -2: its map, -3, -4: the heaps', from 0 on: a flow's) -/
structure SM (w : World) (ps : Nat) (bm : Nat) (role : Nat → Int) (Ms : List Fm) (LR LW : List Ld) (svR mvR svW mvW : Value) (FR FW : List Nat) : Prop where
  blk : Blk w ps 84 [.map (some bm), svR, mvR, svW, mvW]
  map : PM w bm Ms.length (look Ms)
  hr : HeapIn w svR mvR LR FR
  hw : HeapIn w svW mvW LW FW
  fl : ∀ m ∈ Ms, FmAt w m
  nd : (Ms.map fun m => m.f.id).Nodup
  ps_ : role ps = -1
  bm_ : role bm = -2
  rR : ∀ z ∈ FR, role z = -3
  rW : ∀ z ∈ FW, role z = -4
  rF : ∀ m ∈ Ms, 0 ≤ m.f.id ∧ m.f.id ≤ 9223372036854775807 ∧ ∀ z ∈ m.foot, role z = m.f.id
/-- F: the blocks that it may turn, and others -/
def FFoot (F : List Nat) (ps bm : Nat) (FR FW : List Nat) (Ms : List Fm) (n : Nat) : Prop :=
  ps ∈ F ∧ bm ∈ F ∧ (∀ z ∈ FR, z ∈ F) ∧ (∀ z ∈ FW, z ∈ F) ∧ (∀ m ∈ Ms, ∀ z ∈ m.foot, z ∈ F) ∧ ∀ z ∈ F, z < n
def SA (w : World) (ps : Nat) (F : List Nat) (X : List Fl) (LR LW : List Ld) : Prop :=
  ∃ bm role Ms svR mvR svW mvW FR FW, SM w ps bm role Ms LR LW svR mvR svW mvW FR FW ∧ Ms.map Fm.f = X ∧ FFoot F ps bm FR FW Ms w.heap.size
def Up (F : List Nat) (w w' : World) (F' : List Nat) : Prop := Chg F w w' ∧ ∀ z ∈ F', z ∈ F ∨ w.heap.size ≤ z
theorem look_at {Ms : List Fm} (hn : (Ms.map fun m => m.f.id).Nodup) {i : Nat} (hi : i < Ms.length) : look Ms Ms[i].f.id = some Ms[i].b := by
  unfold look
  have hf : Ms.find? (fun m => m.f.id == Ms[i].f.id) = some Ms[i] := by
    rw [List.find?_eq_some_iff_getElem]
    refine ⟨by simp, i, hi, rfl, fun j hj => ?_⟩
    have hne : Ms[j].f.id ≠ Ms[i].f.id := fun e => by
      have := List.getElem_inj (xs := Ms.map fun m => m.f.id) (i := j) (j := i) (h₀ := by simp; omega) (h₁ := by simpa using hi) hn
      have := this.1 (by simpa using e)
      omega
    simpa using hne
  rw [hf]
  rfl
theorem look_none {Ms : List Fm} {k : Int} (h : ∀ m ∈ Ms, m.f.id ≠ k) : look Ms k = none := by
  unfold look
  rw [List.find?_eq_none.2 (fun m hm => by simpa using h m hm)]
  rfl
theorem look_set {Ms : List Fm} {i : Nat} {m' : Fm} (hi : i < Ms.length) (h1 : m'.f.id = Ms[i].f.id) (h2 : m'.b = Ms[i].b) : look (Ms.set i m') = look Ms := by
  funext k
  unfold look
  have : ∀ (L : List Fm) (i : Nat) (hi : i < L.length), m'.f.id = L[i].f.id → m'.b = L[i].b → ((L.set i m').find? fun m => m.f.id == k).map Fm.b = (L.find? fun m => m.f.id == k).map Fm.b := by
    intro L
    induction L with
    | nil => intro i hi; simp at hi
    | cons a t ih =>
      intro i hi e1 e2
      cases i with
      | zero =>
        simp only [List.getElem_cons_zero] at e1 e2
        simp only [List.set_cons_zero, List.find?_cons, e1]
        split
        · simp [e2]
        · rfl
      | succ j =>
        simp only [List.getElem_cons_succ] at e1 e2
        simp only [List.set_cons_succ, List.find?_cons]
        split
        · rfl
        · exact ih j (by simpa using hi) e1 e2
  exact this Ms i hi h1 h2
theorem look_snoc {Ms : List Fm} {m : Fm} (h : ∀ x ∈ Ms, x.f.id ≠ m.f.id) : look (Ms ++ [m]) = updN (look Ms) m.f.id (some m.b) := by
  funext k
  by_cases e : k = m.f.id
  · subst e
    rw [updN_same]
    unfold look
    rw [List.find?_append, List.find?_eq_none.2 (fun x hx => by simpa using h x hx)]
    simp
  · rw [updN_other e]
    unfold look
    rw [List.find?_append]
    cases hf : Ms.find? (fun m => m.f.id == k) with
    | some a => simp
    | none => simp [Ne.symm e]
theorem ids_set {Ms : List Fm} {i : Nat} {m' : Fm} (hi : i < Ms.length) (h1 : m'.f.id = Ms[i].f.id) : (Ms.set i m').map (fun m => m.f.id) = Ms.map fun m => m.f.id := by
  rw [List.map_set, h1]
  have : Ms[i].f.id = (Ms.map fun m => m.f.id)[i]'(by simpa using hi) := by simp
  rw [this, List.set_getElem_self]
def plR (ps bm : Nat) (svW mvW : Value) : Pl := ⟨ps, 84, [.map (some bm)], [svW, mvW]⟩
def plW (ps bm : Nat) (svR mvR : Value) : Pl := ⟨ps, 84, [.map (some bm), svR, mvR], []⟩
section
variable {w w' : World} {ps bm : Nat} {role role' : Nat → Int} {Ms : List Fm} {LR LW LR' LW' : List Ld} {svR mvR svW mvW : Value} {FR FW F' : List Nat}
theorem SM.lt (h : SM w ps bm role Ms LR LW svR mvR svW mvW FR FW) : ps < w.heap.size ∧ bm < w.heap.size ∧ (∀ z ∈ FR, z < w.heap.size) ∧ (∀ z ∈ FW, z < w.heap.size) ∧ ∀ m ∈ Ms, ∀ z ∈ m.foot, z < w.heap.size :=
  ⟨h.blk.lt, h.map.lt, h.hr.lt, h.hw.lt, fun m hm => (h.fl m hm).lt⟩
theorem SM.roles (h : SM w ps bm role Ms LR LW svR mvR svW mvW FR FW) (hr : ∀ z, z < w.heap.size → role' z = role z) : SM w ps bm role' Ms LR LW svR mvR svW mvW FR FW := by
  obtain ⟨l1, l2, l3, l4, l5⟩ := h.lt
  exact ⟨h.blk, h.map, h.hr, h.hw, h.fl, h.nd, by rw [hr _ l1, h.ps_], by rw [hr _ l2, h.bm_], fun z hz => by rw [hr _ (l3 z hz), h.rR z hz], fun z hz => by rw [hr _ (l4 z hz), h.rW z hz],
    fun m hm => ⟨(h.rF m hm).1, (h.rF m hm).2.1, fun z hz => by rw [hr _ (l5 m hm z hz)]; exact (h.rF m hm).2.2 z hz⟩⟩
def grow (role : Nat → Int) (n : Nat) (r : Int) : Nat → Int := fun z => if n ≤ z then r else role z
theorem grow_lt {role : Nat → Int} {n : Nat} {r : Int} {z : Nat} (h : z < n) : grow role n r z = role z := by unfold grow; rw [if_neg (by omega)]
theorem grow_ge {role : Nat → Int} {n : Nat} {r : Int} {z : Nat} (h : n ≤ z) : grow role n r z = r := by unfold grow; rw [if_pos h]
theorem SM.below (h : SM w ps bm role Ms LR LW svR mvR svW mvW FR FW) (hb : Below w.heap.size w w') : SM w' ps bm role Ms LR LW svR mvR svW mvW FR FW := by
  have hc : Chg [] w w' := Chg.of_below hb
  exact ⟨h.blk.below hb, h.map.chg hc (by simp), h.hr.chg hc (fun z _ hz => by cases hz), h.hw.chg hc (fun z _ hz => by cases hz), fun m hm => (h.fl m hm).chg hc (fun z _ hz => by cases hz), h.nd, h.ps_, h.bm_, h.rR, h.rW, h.rF⟩
theorem SM.flow (h : SM w ps bm role Ms LR LW svR mvR svW mvW FR FW) {i : Nat} (hi : i < Ms.length) {m' : Fm} (hid : m'.f.id = Ms[i].f.id) (hb : m'.b = Ms[i].b) (hm : FmAt w' m') (hc : Chg Ms[i].foot w w')
    (hg : ∀ z ∈ m'.foot, z ∈ Ms[i].foot ∨ w.heap.size ≤ z) : SM w' ps bm (grow role w.heap.size m'.f.id) (Ms.set i m') LR LW svR mvR svW mvW FR FW := by
  obtain ⟨l1, l2, l3, l4, l5⟩ := h.lt
  obtain ⟨i0, i1, hri⟩ := h.rF Ms[i] (List.getElem_mem hi)
  have hne : ∀ z, (role z ≠ Ms[i].f.id) → z ∉ Ms[i].foot := fun z hz hm => hz (hri z hm)
  refine ⟨h.blk.chg hc (hne _ (by rw [h.ps_]; omega)), ?_, h.hr.chg hc (fun z hz => hne _ (by rw [h.rR z hz]; omega)), h.hw.chg hc (fun z hz => hne _ (by rw [h.rW z hz]; omega)), ?_, by rw [ids_set hi hid]; exact h.nd,
    by rw [grow_lt l1, h.ps_], by rw [grow_lt l2, h.bm_], fun z hz => by rw [grow_lt (l3 z hz), h.rR z hz], fun z hz => by rw [grow_lt (l4 z hz), h.rW z hz], ?_⟩
  · rw [List.length_set, look_set hi hid hb]
    exact h.map.chg hc (hne _ (by rw [h.bm_]; omega))
  · intro m hmm
    rcases List.mem_iff_getElem.1 hmm with ⟨j, hj, e⟩
    rw [List.getElem_set] at e
    by_cases ej : i = j
    · rw [if_pos ej] at e; rw [← e]; exact hm
    · rw [if_neg ej] at e
      rw [List.length_set] at hj
      rw [← e]
      refine (h.fl _ (List.getElem_mem hj)).chg hc (fun z hz => hne z ?_)
      rw [(h.rF _ (List.getElem_mem hj)).2.2 z hz]
      intro e2
      have := List.getElem_inj (xs := Ms.map fun m => m.f.id) (i := j) (j := i) (h₀ := by simpa using hj) (h₁ := by simpa using hi) h.nd
      have := this.1 (by simpa using e2)
      omega
  · intro m hmm
    rcases List.mem_iff_getElem.1 hmm with ⟨j, hj, e⟩
    rw [List.getElem_set] at e
    by_cases ej : i = j
    · rw [if_pos ej] at e
      rw [← e]
      refine ⟨by rw [hid]; exact i0, by rw [hid]; exact i1, fun z hz => ?_⟩
      rcases hg z hz with h1 | h1
      · rw [grow_lt (l5 _ (List.getElem_mem hi) z h1), hri z h1, hid]
      · rw [grow_ge h1]
    · rw [if_neg ej] at e
      rw [List.length_set] at hj
      rw [← e]
      obtain ⟨j0, j1, hrj⟩ := h.rF _ (List.getElem_mem hj)
      exact ⟨j0, j1, fun z hz => by rw [grow_lt (l5 _ (List.getElem_mem hj) z hz), hrj z hz]⟩
theorem SM.atR (h : SM w ps bm role Ms LR LW svR mvR svW mvW FR FW) : HeapAt w (plR ps bm svW mvW) LR (ps :: FR) := h.hr.at_ (p := plR ps bm svW mvW) ⟨h.blk, by show 84 ≠ 111; decide⟩
theorem SM.atW (h : SM w ps bm role Ms LR LW svR mvR svW mvW FR FW) : HeapAt w (plW ps bm svR mvR) LW (ps :: FW) := h.hw.at_ (p := plW ps bm svR mvR) ⟨h.blk, by show 84 ≠ 111; decide⟩
theorem SM.heapR (h : SM w ps bm role Ms LR LW svR mvR svW mvW FR FW) (hA : HeapAt w' (plR ps bm svW mvW) LR' F') (hc : Chg (ps :: FR) w w') (hg : ∀ z ∈ F', z ∈ ps :: FR ∨ w.heap.size ≤ z) :
    ∃ svR' mvR' FR', SM w' ps bm (grow role w.heap.size (-3)) Ms LR' LW svR' mvR' svW mvW FR' FW ∧ ∀ z ∈ FR', z ∈ FR ∨ w.heap.size ≤ z := by
  obtain ⟨l1, l2, l3, l4, l5⟩ := h.lt
  obtain ⟨sv, mv, F0, hb, hi, hF, hn⟩ := HeapIn.of hA
  have hne : ∀ z, role z ≠ -1 → role z ≠ -3 → z ∉ ps :: FR := fun z h1 h2 hz => by
    rcases List.mem_cons.1 hz with rfl | hz
    · exact h1 h.ps_
    · exact h2 (h.rR z hz)
  have hg0 : ∀ z ∈ F0, z ∈ FR ∨ w.heap.size ≤ z := fun z hz => by
    rcases hg z (by rw [hF]; exact List.mem_cons_of_mem _ hz) with h1 | h1
    · rcases List.mem_cons.1 h1 with rfl | h1
      · exact absurd hz hn
      · exact Or.inl h1
    · exact Or.inr h1
  refine ⟨sv, mv, F0, ⟨hb.blk, h.map.chg hc (hne _ (by rw [h.bm_]; decide) (by rw [h.bm_]; decide)), hi, h.hw.chg hc (fun z hz => hne _ (by rw [h.rW z hz]; decide) (by rw [h.rW z hz]; decide)), ?_, h.nd,
    by rw [grow_lt l1, h.ps_], by rw [grow_lt l2, h.bm_], ?_, fun z hz => by rw [grow_lt (l4 z hz), h.rW z hz], ?_⟩, hg0⟩
  · intro m hm
    obtain ⟨m0, _, hrm⟩ := h.rF m hm
    exact (h.fl m hm).chg hc (fun z hz => hne _ (by rw [hrm z hz]; omega) (by rw [hrm z hz]; omega))
  · intro z hz
    rcases hg0 z hz with h1 | h1
    · rw [grow_lt (l3 z h1), h.rR z h1]
    · rw [grow_ge h1]
  · intro m hm
    obtain ⟨m0, m1, hrm⟩ := h.rF m hm
    exact ⟨m0, m1, fun z hz => by rw [grow_lt (l5 m hm z hz), hrm z hz]⟩
theorem SM.heapW (h : SM w ps bm role Ms LR LW svR mvR svW mvW FR FW) (hA : HeapAt w' (plW ps bm svR mvR) LW' F') (hc : Chg (ps :: FW) w w') (hg : ∀ z ∈ F', z ∈ ps :: FW ∨ w.heap.size ≤ z) :
    ∃ svW' mvW' FW', SM w' ps bm (grow role w.heap.size (-4)) Ms LR LW' svR mvR svW' mvW' FR FW' ∧ ∀ z ∈ FW', z ∈ FW ∨ w.heap.size ≤ z := by
  obtain ⟨l1, l2, l3, l4, l5⟩ := h.lt
  obtain ⟨sv, mv, F0, hb, hi, hF, hn⟩ := HeapIn.of hA
  have hne : ∀ z, role z ≠ -1 → role z ≠ -4 → z ∉ ps :: FW := fun z h1 h2 hz => by
    rcases List.mem_cons.1 hz with rfl | hz
    · exact h1 h.ps_
    · exact h2 (h.rW z hz)
  have hg0 : ∀ z ∈ F0, z ∈ FW ∨ w.heap.size ≤ z := fun z hz => by
    rcases hg z (by rw [hF]; exact List.mem_cons_of_mem _ hz) with h1 | h1
    · rcases List.mem_cons.1 h1 with rfl | h1
      · exact absurd hz hn
      · exact Or.inl h1
    · exact Or.inr h1
  refine ⟨sv, mv, F0, ⟨hb.blk, h.map.chg hc (hne _ (by rw [h.bm_]; decide) (by rw [h.bm_]; decide)), h.hr.chg hc (fun z hz => hne _ (by rw [h.rR z hz]; decide) (by rw [h.rR z hz]; decide)), hi, ?_, h.nd,
    by rw [grow_lt l1, h.ps_], by rw [grow_lt l2, h.bm_], fun z hz => by rw [grow_lt (l3 z hz), h.rR z hz], ?_, ?_⟩, hg0⟩
  · intro m hm
    obtain ⟨m0, _, hrm⟩ := h.rF m hm
    exact (h.fl m hm).chg hc (fun z hz => hne _ (by rw [hrm z hz]; omega) (by rw [hrm z hz]; omega))
  · intro z hz
    rcases hg0 z hz with h1 | h1
    · rw [grow_lt (l4 z h1), h.rW z h1]
    · rw [grow_ge h1]
  · intro m hm
    obtain ⟨m0, m1, hrm⟩ := h.rF m hm
    exact ⟨m0, m1, fun z hz => by rw [grow_lt (l5 m hm z hz), hrm z hz]⟩
theorem SA.below {F : List Nat} {X : List Fl} (h : SA w ps F X LR LW) (hb : Below w.heap.size w w') : SA w' ps F X LR LW := by
  obtain ⟨bm, role, Ms, svR, mvR, svW, mvW, FR, FW, h, h1, h2, h3, h4, h5, h6, h7⟩ := h
  exact ⟨bm, role, Ms, svR, mvR, svW, mvW, FR, FW, h.below hb, h1, h2, h3, h4, h5, h6, fun z hz => Nat.lt_of_lt_of_le (h7 z hz) hb.size⟩
theorem SA.chg {F G : List Nat} {X : List Fl} (h : SA w ps F X LR LW) (hc : Chg G w w') (hg : ∀ z ∈ G, z ∉ F) : SA w' ps F X LR LW := by
  obtain ⟨bm, role, Ms, svR, mvR, svW, mvW, FR, FW, h, h1, h2, h3, h4, h5, h6, h7⟩ := h
  have hn : ∀ z ∈ F, z ∉ G := fun z hz hg2 => hg z hg2 hz
  exact ⟨bm, role, Ms, svR, mvR, svW, mvW, FR, FW, ⟨h.blk.chg hc (hn _ h2), h.map.chg hc (hn _ h3), h.hr.chg hc (fun z hz => hn _ (h4 z hz)), h.hw.chg hc (fun z hz => hn _ (h5 z hz)), fun m hm => (h.fl m hm).chg hc (fun z hz => hn _ (h6 m hm z hz)),
    h.nd, h.ps_, h.bm_, h.rR, h.rW, h.rF⟩, h1, h2, h3, h4, h5, h6, fun z hz => Nat.lt_of_lt_of_le (h7 z hz) hc.size⟩
theorem SA.open_ {F : List Nat} {X : List Fl} (h : SA w ps F X LR LW) {i : Nat} {f : Fl} (hi : i < X.length) (hf : X[i] = f) :
    ∃ bm role Ms svR mvR svW mvW FR FW m, SM w ps bm role Ms LR LW svR mvR svW mvW FR FW ∧ FFoot F ps bm FR FW Ms w.heap.size ∧ Ms.map Fm.f = X ∧ (∃ h : i < Ms.length, Ms[i] = m) ∧ m.f = f ∧ look Ms f.id = some m.b ∧ m ∈ Ms := by
  obtain ⟨bm, role, Ms, svR, mvR, svW, mvW, FR, FW, h, rfl, hF⟩ := h
  have hi' : i < Ms.length := by simpa using hi
  rw [List.getElem_map] at hf
  subst hf
  exact ⟨bm, role, Ms, svR, mvR, svW, mvW, FR, FW, Ms[i], h, hF, rfl, ⟨hi', rfl⟩, rfl, look_at h.nd hi', List.getElem_mem hi'⟩
theorem SA.close {w0 : World} {F FR0 FW0 FR' FW' : List Nat} {Ms0 Ms' : List Fm} {X' : List Fl} (h : SM w' ps bm role' Ms' LR' LW' svR mvR svW mvW FR' FW') (hX : Ms'.map Fm.f = X') (hF : FFoot F ps bm FR0 FW0 Ms0 w0.heap.size) (hc : Chg F w0 w')
    (g1 : ∀ z ∈ FR', z ∈ FR0 ∨ w0.heap.size ≤ z) (g2 : ∀ z ∈ FW', z ∈ FW0 ∨ w0.heap.size ≤ z) (g3 : ∀ m ∈ Ms', ∀ z ∈ m.foot, (∃ m0 ∈ Ms0, z ∈ m0.foot) ∨ w0.heap.size ≤ z) : ∃ F', SA w' ps F' X' LR' LW' ∧ Up F w0 w' F' := by
  obtain ⟨l1, l2, l3, l4, l5⟩ := h.lt
  obtain ⟨f1, f2, f3, f4, f5, f6⟩ := hF
  have hmem : ∀ z, z ∈ F ++ List.range' w0.heap.size (w'.heap.size - w0.heap.size) ↔ z ∈ F ∨ (w0.heap.size ≤ z ∧ z < w'.heap.size) := fun z => by
    rw [List.mem_append, List.mem_range'_1]
    have := hc.size
    constructor
    · rintro (h | ⟨h1, h2⟩)
      · exact Or.inl h
      · exact Or.inr ⟨h1, by omega⟩
    · rintro (h | ⟨h1, h2⟩)
      · exact Or.inl h
      · exact Or.inr ⟨h1, by omega⟩
  refine ⟨F ++ List.range' w0.heap.size (w'.heap.size - w0.heap.size), ⟨bm, role', Ms', svR, mvR, svW, mvW, FR', FW', h, hX, (hmem _).2 (Or.inl f1), (hmem _).2 (Or.inl f2), fun z hz => (hmem _).2 ?_, fun z hz => (hmem _).2 ?_, fun m hm z hz => (hmem _).2 ?_, fun z hz => ?_⟩, hc, fun z hz => ?_⟩
  · exact (g1 z hz).imp (f3 z) (fun h => ⟨h, l3 z hz⟩)
  · exact (g2 z hz).imp (f4 z) (fun h => ⟨h, l4 z hz⟩)
  · exact (g3 m hm z hz).imp (fun ⟨m0, h0, h1⟩ => f5 m0 h0 z h1) (fun h => ⟨h, l5 m hm z hz⟩)
  · rcases (hmem z).1 hz with h1 | h1
    · exact Nat.lt_of_lt_of_le (f6 z h1) hc.size
    · exact h1.2
  · rcases (hmem z).1 hz with h1 | h1
    · exact Or.inl h1
    · exact Or.inr h1.1
end
end Go.Proofs.Ytjdkafamaoeifaa
