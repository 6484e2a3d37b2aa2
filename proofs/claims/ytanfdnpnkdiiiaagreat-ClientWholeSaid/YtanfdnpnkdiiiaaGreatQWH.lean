/- One text of: Opa Who. -/
import Derived.Test.YtanfdnpnkdiiiaaGreatQOpen
import Derived.Test.YtanfdnpnkdiiiaaGreatQCA
import Derived.Test.YtanfdnpnkdiiiaaGreatQPack
import Derived.Test.YtanfdnpnkdiiiaaGreatQAK
namespace Go.Proofs.YtanfdnpnkdiiiaaGreat
open Go.ChangeShapes Go.WideShapes Go.ChangeAt Go.RowKit Go.Joins Go.Deep
set_option linter.unusedVariables false
set_option maxRecDepth 100000

section
variable {H : Type} {enc : TypeId × Value → H} {P : Program} {w : World} {base b0 : Nat} {spare : Nat → Bool} {held : Bool}
/-- of whatever is laid as t the cell j is as Q says -/
def AllQ {H : Type} (enc : TypeId × Value → H) (P : Program) (w : World) (base : Nat) (spare : Nat → Bool) (held : Bool) (t : TypeId) (m : Nat) (Q : Nat → Value → Prop) : Prop :=
  ∀ (fuel : Nat) (cs : List Value) (x : DataW H × List MemPlace), DataW.trod enc P w base spare held fuel t cs = some x → ∀ j, j < m → ∃ u, Q j u ∧ cs[j]? = some u
theorem open_rowsQ {r : Reach} {t e : TypeId} (m : Nat) {Q : Nat → Value → Prop} {v : Value} {d : DataW H} {ps : List MemPlace} (ht : P.underlying t = some (.slice e)) (hC : P.cellsOf e = m) (hpos : 0 < m) (hA : AllQ enc P w base spare held e m Q)
    (hv : Value.okWide P w r b0 t v) (h : DataW.Trod enc P w base spare held t v d ps) :
    ∃ (A : Option Addr) (n c : Nat) (g : Nat → Nat → Value), v = .slice A n c ∧ n ≤ c ∧ c ≤ maxLen ∧ (∀ i j, i < n → j < m → Q j (g i j)) ∧
      (0 < n → ∃ b o, A = some ⟨b, o, none⟩ ∧ b < w.heap.size ∧ ∀ i j, i < n → j < m → w.cell? ⟨b, o + (i * m + j), none⟩ = some (g i j)) := by
  obtain ⟨A, n, c, rfl⟩ := okWide_slice ht hv
  obtain ⟨fuel, hf⟩ := h
  rcases open_slice ht hf with ⟨h0, _⟩ | ⟨a, len, cap, m', k, D, Pl, hcs, hb, hl, hm, hmm, hx, hi⟩
  · have e0 : A = none ∧ n = 0 ∧ c = 0 := by simpa [Value.cells] using h0
    obtain ⟨rfl, rfl, rfl⟩ := e0
    exact ⟨none, 0, 0, fun _ _ => undef, rfl, Nat.le_refl _, by unfold maxLen; omega, fun i j hi => absurd hi (by omega), fun hn => absurd hn (by omega)⟩
  · have e0 : A = some a ∧ n = len ∧ c = cap := by simpa [Value.cells] using hcs
    obtain ⟨rfl, rfl, rfl⟩ := e0
    have hnm : n ≤ m' := by rw [hmm]; split <;> omega
    have hall : ∀ i, i < n → ∃ f : Nat → Value, ∀ j, j < m → Q j (f j) ∧ w.cell? (a.add (i * m + j)) = some (f j) := by
      intro i hin
      obtain ⟨cs', hc, ht'⟩ := hi i (by omega)
      rw [hC] at hc
      obtain ⟨_, hcl, hat⟩ := World.cells?_some hc
      refine ⟨fun j => (cs'[j]?).getD undef, fun j hj => ?_⟩
      obtain ⟨z, hz, hz2⟩ := hA _ _ _ ht' j hj
      simp only [hz2, Option.getD_some]
      refine ⟨hz, ?_⟩
      rw [← Go.Deep.add_add, hat j hj, hz2]
    obtain ⟨g, hg⟩ := choose_lt hall
    refine ⟨some a, n, c, g, rfl, hl, hm, fun i j hi hj => (hg i hi j hj).1, fun hn => ?_⟩
    obtain ⟨b, o, spot⟩ := a
    have h00 := (hg 0 hn 0 hpos).2
    have hspot : spot = none := by simpa [Addr.add] using World.cell?_spot h00
    subst hspot
    refine ⟨b, o, rfl, ?_, fun i j hi hj => ?_⟩
    · have := World.block_lt_of_cell? w _ h00
      simpa [Addr.add] using this
    · rw [← Go.WideShapes.add_plain]
      exact (hg i hi j hj).2
end
/-- an operation as it is asked for -/
structure PAsk where
  kind : Int
  from_ : Int
  many : Int
  A : Option Addr
  V : List Nat
  c : Nat
instance : Inhabited PAsk := ⟨⟨0, 0, 0, none, [], 0⟩⟩
def PAsk.cells (a : PAsk) : List Value := [.int .i64 a.kind, .int .i64 a.from_, .int .i64 a.many, .slice a.A a.V.length a.c]
structure PAskOk (W : World) (a : PAsk) : Prop where
  k : i64ok a.kind
  f : i64ok a.from_
  m : i64ok a.many
  b : ∀ x ∈ a.V, x ≤ 255
  l : a.V.length ≤ maxLen
  rd : Reads W W.heap.size 1 a.A a.V.length (bys a.V)
/-- a cell of an operation -/
def AskQ (W : World) (j : Nat) (u : Value) : Prop :=
  if j = 3 then ∃ (A : Option Addr) (V : List Nat) (c : Nat), u = .slice A V.length c ∧ (∀ x ∈ V, x ≤ 255) ∧ V.length ≤ maxLen ∧ Reads W W.heap.size 1 A V.length (bys V)
  else ∃ z : Int, i64ok z ∧ u = .int .i64 z
section
variable {H : Type} {enc : TypeId × Value → H} {W : World} {base : Nat} {spare : Nat → Bool} {held : Bool}
theorem allAsk : AllQ enc Tryz.prog W base spare held 54 4 (AskQ W) := by
  intro fuel cs x hx j hj
  obtain ⟨ys, n', hn', hy, hlen, hyl, hff⟩ := DataW.trod_struct Tryz.underlying54 hx
  have hI : ∀ (i : Nat) (f : Field), f.offset = i → Tryz.prog.cellsOf f.type = 1 → Tryz.prog.underlying f.type = some (.int .i64) → i < ys.length → DataW.trod enc Tryz.prog W base spare held n' f.type ((cs.drop f.offset).take (Tryz.prog.cellsOf f.type)) = ys[i]? →
      ∃ z : Int, i64ok z ∧ cs[i]? = some (.int .i64 z) := fun i f h1 h2 h3 h4 h5 => by
    rw [List.getElem?_eq_getElem h4] at h5
    obtain ⟨q, e1, _, wq⟩ := DataW.trod_int h3 h5
    refine ⟨q, bounds_i64 wq, ?_⟩
    have h6 : ((cs.drop f.offset).take (Tryz.prog.cellsOf f.type))[0]? = some (.int .i64 q) := by rw [e1]; rfl
    rw [h1, h2, List.getElem?_take, if_pos (by omega), List.getElem?_drop, Nat.add_zero] at h6
    exact h6
  have hys : ys.length = 4 := hyl
  unfold AskQ
  match j, hj with
  | 0, _ =>
    obtain ⟨z, h1, h2⟩ := hI 0 _ rfl (by kernel_rfl) Tryz.underlying3 (by omega) (hff 0 _ rfl)
    exact ⟨_, ⟨z, h1, rfl⟩, h2⟩
  | 1, _ =>
    obtain ⟨z, h1, h2⟩ := hI 1 _ rfl (by kernel_rfl) Tryz.underlying3 (by omega) (hff 1 _ rfl)
    exact ⟨_, ⟨z, h1, rfl⟩, h2⟩
  | 2, _ =>
    obtain ⟨z, h1, h2⟩ := hI 2 _ rfl (by kernel_rfl) Tryz.underlying3 (by omega) (hff 2 _ rfl)
    exact ⟨_, ⟨z, h1, rfl⟩, h2⟩
  | 3, _ =>
    have h5 := hff 3 _ rfl
    rw [List.getElem?_eq_getElem (by omega : 3 < ys.length)] at h5
    have h7 : ∀ u, (cs.drop 3).take 1 = [u] → cs[3]? = some u := fun u hu => by
      have h6 : ((cs.drop 3).take 1)[0]? = some u := by rw [hu]; rfl
      rw [List.getElem?_take, if_pos (by omega), List.getElem?_drop, Nat.add_zero] at h6
      exact h6
    rcases open_ints Tryz.underlying23 Tryz.underlying5 (by kernel_rfl) h5 with ⟨hcs, _⟩ | ⟨a, len, cap, zs, hcs, _, hl, hm, hz, _, hcell, hwz⟩
    · exact ⟨_, ⟨none, [], 0, rfl, by simp, by unfold maxLen; simp, Reads.none_⟩, h7 _ hcs⟩
    · have hnz : len ≤ zs.length := by rw [hz]; split <;> omega
      have hzl : ((zs.take len).map Int.toNat).length = len := by rw [List.length_map, List.length_take]; omega
      have hbz : ∀ x ∈ zs, 0 ≤ x ∧ x ≤ 255 := fun x hx => bounds_u8 (hwz x hx)
      refine ⟨_, ⟨some a, (zs.take len).map Int.toNat, cap, rfl, fun x hx => ?_, by rw [hzl]; omega, ?_⟩, by rw [hzl]; exact h7 _ hcs⟩
      · obtain ⟨y, hy, rfl⟩ := List.mem_map.1 hx
        have := hbz y (List.mem_of_mem_take hy)
        omega
      · rw [hzl]
        refine ⟨by unfold bys; rw [List.length_map, hzl, Nat.mul_one], fun hn => ?_⟩
        obtain ⟨b, o, rfl, hc⟩ := ints_at hcell (by omega)
        refine ⟨b, o, rfl, World.block_lt_of_cell? W _ (hc 0 (by omega)), fun q u hu => ?_⟩
        have hq : q < len := by
          have := (List.getElem?_eq_some_iff.1 hu).1
          unfold bys at this
          rw [List.length_map, hzl] at this
          exact this
        have hqz : q < zs.length := by omega
        have h8 := hbz zs[q] (List.getElem_mem _)
        unfold bys at hu
        rw [List.getElem?_map, List.getElem?_map, List.getElem?_take, if_pos hq, List.getElem?_eq_getElem hqz, Option.map_some, Option.map_some] at hu
        rw [hc q hqz, ← hu]
        simp only [List.getD_eq_getElem?_getD, List.getElem?_eq_getElem hqz, Option.getD_some]
        rw [Int.toNat_of_nonneg h8.1]
end
def askCells (al : List PAsk) : List Value := al.flatMap PAsk.cells
theorem askCells_length (al : List PAsk) : (askCells al).length = al.length * 4 := by
  induction al with
  | nil => rfl
  | cons a t ih => unfold askCells at ih ⊢; rw [List.flatMap_cons, List.length_append, ih, List.length_cons]; unfold PAsk.cells; simp; omega
theorem askCells_get (al : List PAsk) (k j : Nat) (hk : k < al.length) (hj : j < 4) : (askCells al)[k * 4 + j]? = al[k].cells[j]? := by
  induction al generalizing k with
  | nil => simp at hk
  | cons a t ih =>
    have hl : a.cells.length = 4 := rfl
    unfold askCells at ih ⊢
    rw [List.flatMap_cons]
    cases k with
    | zero => rw [List.getElem?_append_left (by omega)]; simp
    | succ k =>
      rw [List.getElem?_append_right (by omega), hl, show (k + 1) * 4 + j - 4 = k * 4 + j by omega, ih k (by simpa using hk)]
      rfl
theorem open_asks {H : Type} {enc : TypeId × Value → H} {W : World} {base : Nat} {v : Value} {d : DataW H} {p : List MemPlace}
    (ok : Value.okWide Tryz.prog W .any base 51 v) (h : DataW.Trod enc Tryz.prog W 0 (fun _ => true) true 51 v d p) :
    ∃ (A : Option Addr) (c : Nat) (al : List PAsk), v = .slice A al.length c ∧ (∀ a ∈ al, PAskOk W a) ∧ Reads W W.heap.size 4 A al.length (askCells al) := by
  obtain ⟨A, n, c, g, rfl, hn, hcm, hg, hr⟩ := open_rowsQ 4 Tryz.underlying51 (by kernel_rfl) (by decide) allAsk ok h
  have hex : ∃ f : Nat → PAsk, ∀ i, i < n → PAskOk W (f i) ∧ ∀ j, j < 4 → (f i).cells[j]? = some (g i j) := by
    have h1 : ∀ i, i < n → ∃ a : PAsk, PAskOk W a ∧ ∀ j, j < 4 → a.cells[j]? = some (g i j) := fun i hi => by
      obtain ⟨z0, k0, e0⟩ := hg i 0 hi (by decide)
      obtain ⟨z1, k1, e1⟩ := hg i 1 hi (by decide)
      obtain ⟨z2, k2, e2⟩ := hg i 2 hi (by decide)
      obtain ⟨A3, V3, c3, e3, b3, l3, r3⟩ := hg i 3 hi (by decide)
      refine ⟨⟨z0, z1, z2, A3, V3, c3⟩, ⟨k0, k1, k2, b3, l3, r3⟩, fun j hj => ?_⟩
      match j, hj with
      | 0, _ => rw [e0]; rfl
      | 1, _ => rw [e1]; rfl
      | 2, _ => rw [e2]; rfl
      | 3, _ => rw [e3]; rfl
    exact choose_lt h1
  obtain ⟨f, hf⟩ := hex
  have hlen : ((List.range n).map f).length = n := by simp
  refine ⟨A, c, (List.range n).map f, by rw [hlen], fun a ha => ?_, ?_⟩
  · obtain ⟨i, hi, rfl⟩ := List.mem_map.1 ha
    exact (hf i (by simpa using hi)).1
  rw [hlen]
  refine ⟨by rw [askCells_length, hlen], fun hn0 => ?_⟩
  obtain ⟨b, o, rfl, hb, hc⟩ := hr hn0
  refine ⟨b, o, rfl, hb, fun q u hu => ?_⟩
  have hq : q < n * 4 := by
    have h1 := (List.getElem?_eq_some_iff.1 hu).1
    rw [askCells_length, hlen] at h1
    exact h1
  have e : q = q / 4 * 4 + q % 4 := by omega
  have hi : q / 4 < n := by omega
  have hj : q % 4 < 4 := by omega
  rw [e, askCells_get _ _ _ (by rw [hlen]; exact hi) hj] at hu
  rw [e, hc (q / 4) (q % 4) hi hj, ← (hf _ hi).2 _ hj]
  rw [List.getElem_map, List.getElem_range] at hu
  exact hu
end Go.Proofs.YtanfdnpnkdiiiaaGreat

namespace Go.Proofs.YtanfdnpnkdiiiaaGreat
open Go.RowKit Go.Proofs Go.Maps
set_option linter.unusedVariables false
set_option linter.unusedSimpArgs false

/-- a client with an operation whose request is out; that waits; that has nothing under way -/
def cR (num : Nat) (T : Trk) (k : Wk) (x : Cnt) : Cl := ⟨3, num, T, some k, none, [k.post 3 num (mPr (k.at_ / 8)) x]⟩
def cW (num : Nat) (T : Trk) (k : Wk) : Cl := ⟨3, num, T, some k, none, []⟩
def cI (num : Nat) (T : Trk) : Cl := ⟨3, num, T, none, none, []⟩
def cE (num : Nat) (T : Trk) (rd : List Nat) (many : Nat) : Cl := ⟨3, num, T, none, some ⟨0, rd, many⟩, []⟩
theorem cI_begin (num : Nat) (T : Trk) (kind fr many : Nat) (hm : 1 ≤ many) : ∃ T' x, (cI num T).begin mPr kind fr many = cR (num + 1) T' ⟨kind, fr, many, [], 0, 0, true⟩ x := by
  refine ⟨T.beg (mPr ((fr + 0) / 8)).2, T.delta (mPr ((fr + 0) / 8)).2, ?_⟩
  unfold Cl.begin Cl.next cI
  rw [if_neg (by simp only []; omega)]
  rfl
theorem cR_out (num : Nat) (T : Trk) (k : Wk) (x : Cnt) : ({ cR num T k x with out := [] } : Cl) = cW num T k := rfl
theorem cW_tick (num : Nat) (T : Trk) (k : Wk) (hs : k.since ≤ 70) (ha : k.asked = true) (h : (k.since + 1) % 4 ≠ 0) : (cW num T k).tick mPr k = cW num T { k with since := k.since + 1 } := by
  unfold Cl.tick
  rw [if_neg (by omega), if_neg h]
  rfl
theorem cW_send (num : Nat) (T : Trk) (k : Wk) (hs : k.since ≤ 70) (ha : k.asked = true) (h : (k.since + 1) % 4 = 0) : (cW num T k).tick mPr k = cR num T { k with since := k.since + 1 } .zero := by
  unfold Cl.tick
  rw [if_neg (by omega), if_pos h]
  unfold Cl.send
  obtain ⟨a1, a2, a3, a4, a5, a6, a7⟩ := k
  simp only [] at ha
  subst ha
  rfl
theorem cW_okay (num : Nat) (T : Trk) (k : Wk) (s p : Int) (L : List Nat) :
    (k.done + 1 = k.many ∧ ∃ T', (cW num T k).okay mPr k s p L = cE num T' (k.read ++ L) k.many) ∨
      (k.done + 1 ≠ k.many ∧ ∃ T' x, (cW num T k).okay mPr k s p L = cR (num + 1) T' ⟨k.kind, k.from_, k.many, k.read ++ L, k.done + 1, 0, true⟩ x) := by
  unfold Cl.okay Cl.next
  by_cases h : k.done + 1 = k.many
  · left
    refine ⟨h, T.fin s p, ?_⟩
    rw [if_pos h]
    unfold Cl.end_ cE cW
    simp only [if_true]
    rw [h]
  · right
    refine ⟨h, (T.fin s p).beg (mPr ((k.from_ + (k.done + 1)) / 8)).2, (T.fin s p).delta (mPr ((k.from_ + (k.done + 1)) / 8)).2, ?_⟩
    rw [if_neg h]
    rfl
/-- how far an operation is: k of many blocks are done, rd was read -/
def Stg (Y : Cl) (num kind fr many k : Nat) (rd : List Nat) : Prop :=
  (k < many ∧ ∃ T x, Y = cR (num + 1) T ⟨kind, fr, many, rd, k, 0, true⟩ x) ∨ (k = many ∧ ∃ T, Y = cE num T rd many)

abbrev S40 : Vst := mS 40 5
theorem seen40 : Seen S40 40 mPr := mPr_seen 40 5 (by omega) (by omega)
/-- a client beside blocks G of the law's, and a state at sb -/
structure WB (W w : World) (F G : List Nat) (c xb sb n : Nat) (X : Cl) : Prop where
  cm : CM w F c (some (xb, S40)) mPr n X
  vx : VF (G ++ F) w xb S40
  vs : VF (G ++ F) w sb S40
  ng : ∀ g ∈ G, g ∉ F ∧ g < w.heap.size
  b : Below W.heap.size W w
  nf : ∀ z ∈ F, W.heap.size ≤ z
  nG : ∀ g ∈ G, W.heap.size ≤ g
section
variable {W w w' : World} {F G G' : List Nat} {c xb sb n n' : Nat} {X X' : Cl}
theorem WB.step (h : WB W w F G c xb sb n X) {F' : List Nat} (hcm : CM w' F' c (some (xb, S40)) mPr n' X') (hc : Chg F w w') (hF : ∀ z ∈ F', z ∈ F ∨ w.heap.size ≤ z) : WB W w' F' G c xb sb n' X' := by
  have hl := hcm.lt
  have hg : ∀ g ∈ G, g < w'.heap.size := fun g hg => Nat.lt_of_lt_of_le (h.ng g hg).2 hc.size
  exact ⟨hcm, h.vx.step hc hF hl hg, h.vs.step hc hF hl hg, fun g hg' => ⟨notin_step (h.ng g hg').1 (h.ng g hg').2 hF, hg g hg'⟩, Chg.onto h.b h.b.size hc h.nf,
    fun z hz => (hF z hz).elim (h.nf z) (fun h3 => Nat.le_trans h.b.size h3), h.nG⟩
theorem WB.co (h : WB W w F G c xb sb n X) (hco : CO w w' F c (some (xb, S40)) mPr n' X') : ∃ F', WB W w' F' G c xb sb n' X' ∧ Chg F w w' ∧ ∀ z ∈ F', z ∈ F ∨ w.heap.size ≤ z := by
  obtain ⟨F', h1, h2, h3⟩ := hco
  exact ⟨F', h.step h1 h2 h3, h2, h3⟩
theorem WB.mono (h : WB W w F G c xb sb n X) (hn : n ≤ n') : WB W w F G c xb sb n' X := ⟨h.cm.mono hn, h.vx, h.vs, h.ng, h.b, h.nf, h.nG⟩
theorem WB.below (h : WB W w F G c xb sb n X) (hb : Below w.heap.size w w') : WB W w' F G c xb sb n X :=
  ⟨h.cm.below hb, h.vx.chg (L := []) (Chg.of_below hb) (by simp), h.vs.chg (L := []) (Chg.of_below hb) (by simp), fun g hg => ⟨(h.ng g hg).1, Nat.lt_of_lt_of_le (h.ng g hg).2 hb.size⟩, h.b.trans (hb.mono h.b.size), h.nf, h.nG⟩
theorem WB.side (h : WB W w F G c xb sb n X) (ha : X.ans = none) (hty : ∀ g ∈ G, ∀ cs, ¬ Blk w g 3 cs) (hc : Chg G w w') (hG : ∀ g ∈ G', (g ∈ G ∨ w.heap.size ≤ g) ∧ g < w'.heap.size) : WB W w' F G' c xb sb n X := by
  have hv : ∀ b, VF (G ++ F) w b S40 → VF (G' ++ F) w' b S40 := fun b hb => hb.grow hc (fun x hx => Or.inl (List.mem_append_left _ hx)) (fun x hx => by
    rcases List.mem_append.1 hx with hx | hx
    · exact ⟨(hG x hx).1.imp (List.mem_append_left _) id, (hG x hx).2⟩
    · exact ⟨Or.inl (List.mem_append_right _ hx), Nat.lt_of_lt_of_le (h.cm.lt x hx) hc.size⟩)
  have hvx := hv xb h.vx
  have hnF : ∀ z ∈ F, z ∉ G := fun z hz hx => (h.ng z hx).1 hz
  have hcm := h.cm
  refine ⟨?_, hvx, hv sb h.vs, fun g hg => ⟨fun hx => ?_, (hG g hg).2⟩, Chg.onto h.b h.b.size hc h.nG, h.nf, fun g hg => (hG g hg).1.elim (h.nG g) (fun h3 => Nat.le_trans h.b.size h3)⟩
  · obtain ⟨xp, mt, cur, ans, out, Ft, Fc, Fa, Fo, hp⟩ := hcm
    have hm := hp.mem
    have han := hp.an
    rw [ha] at han
    obtain ⟨P, hP, how, hFo, hok⟩ := hp.ou
    refine ⟨xp, mt, cur, ans, out, Ft, Fc, Fa, Fo, ⟨hp.blk.chg hc (hnF c hm.1), hp.eF, hp.nd, fun z hz => Nat.lt_of_lt_of_le (hp.lt z hz) hc.size, ⟨hp.st.1, hvx.sub (fun z hz => List.mem_append_right _ hz)⟩, hp.tr.chg hc (fun z hz => hnF z (hm.2.1 z hz)), CurM.chg hp.cu hc (fun z hz => hnF z (hm.2.2.1 z hz)), by rw [ha]; exact han, ?_⟩⟩
    exact ⟨P, hP, own_chg how hc (fun g hg => hnF g (hm.2.2.2.2 g (by rw [hFo, hg]; simp))), hFo, fun x hx => ⟨(hok x hx).len, (hok x hx).blk.chg hc (fun hx2 => hty _ hx2 _ (hok x hx).blk), (hok x hx).no⟩⟩
  · rcases (hG g hg).1 with h3 | h3
    · exact (h.ng g h3).1 hx
    · have := h.cm.lt g hx; omega
end
/-- the law's own: what the blocks are to be, the operation (if it is laid already), and what is to be read -/
abbrev Ext := Option (Nat × PAsk)
structure WL (w : World) (xB : Nat) (E : Ext) (Bl : List Nat) (vw : Value) (rd : List Nat) : Prop where
  bk : Blk w xB 52 (Bl.map fun (x : Nat) => Value.int .i64 x)
  ab : ∀ e, E = some e → Blk w e.1 54 e.2.cells
  len : Bl.length = 40
  le : ∀ x ∈ Bl, x ≤ 255
  row : w.ownsRow 0 5 1 vw rd.length (bys rd)
/-- its blocks -/
def WG (xB : Nat) (E : Ext) (vw : Value) : List Nat := xB :: ((E.map Prod.fst).toList ++ vw.ownBlock.toList)
theorem WG.mem {xB : Nat} {E : Ext} {vw : Value} {g : Nat} : g ∈ WG xB E vw ↔ g = xB ∨ (∃ e, E = some e ∧ g = e.1) ∨ vw.ownBlock = some g := by
  unfold WG
  cases E <;> simp
section
variable {W w w' : World} {F G G' : List Nat} {c xb sb n n' : Nat} {X X' : Cl} {xB : Nat} {E E' : Ext} {Bl rd : List Nat} {vw : Value}
theorem own_u8 {w : World} {v : Value} {n : Nat} {xs : List Value} (ho : w.ownsRow 0 5 1 v n xs) : ∀ g, v.ownBlock = some g → ∀ t cs, Blk w g t cs → t = 5 := fun g hg t cs hb' => by
  rcases ho.2 with ⟨rfl, _⟩ | ⟨g2, cap, cur, rfl, _, hgg, _⟩
  · cases hg
  · simp only [Value.ownBlock, Option.some.injEq] at hg
    subst hg
    unfold Blk at hb'
    rw [hgg] at hb'
    injection hb' with hb'
    injection hb' with q1 q2
    exact q2.symm
theorem WL.ty (h : WL w xB E Bl vw rd) : ∀ g ∈ WG xB E vw, ∀ cs, ¬ Blk w g 3 cs := fun g hg cs hb => by
  rcases WG.mem.1 hg with rfl | ⟨e, he, rfl⟩ | hg
  · exact absurd (hb.one h.bk).2 (by decide)
  · exact absurd (hb.one (h.ab e he)).2 (by decide)
  · exact absurd (own_u8 h.row g hg _ _ hb) (by decide)
theorem WL.ne (h : WL w xB E Bl vw rd) : ∀ g, vw.ownBlock = some g → g ≠ xB := fun g hg e =>
  absurd (own_u8 h.row g hg _ _ (e ▸ h.bk)) (by decide)
theorem WL.na (h : WL w xB E Bl vw rd) {e : Nat × PAsk} (he : E = some e) : e.1 ≠ xB ∧ ∀ g, vw.ownBlock = some g → g ≠ e.1 :=
  ⟨fun e2 => absurd ((h.ab e he).one (e2 ▸ h.bk)).2 (by decide), fun g hg e2 => absurd (own_u8 h.row g hg _ _ (e2 ▸ h.ab e he)) (by decide)⟩
theorem WL.chg {L : List Nat} (h : WL w xB E Bl vw rd) (hc : Chg L w w') (hL : ∀ g ∈ WG xB E vw, g ∉ L) : WL w' xB E Bl vw rd :=
  ⟨h.bk.chg hc (hL xB (WG.mem.2 (Or.inl rfl))), fun e he => (h.ab e he).chg hc (hL e.1 (WG.mem.2 (Or.inr (Or.inl ⟨e, he, rfl⟩)))), h.len, h.le, own_chg h.row hc (fun g hg => hL g (WG.mem.2 (Or.inr (Or.inr hg))))⟩
theorem WL.below (h : WL w xB E Bl vw rd) (hb : Below w.heap.size w w') : WL w' xB E Bl vw rd := h.chg (L := []) (Chg.of_below hb) (by simp)
theorem WL.cell (h : WL w xB E Bl vw rd) {i : Nat} (hi : i < Bl.length) : w.cell? ⟨xB, i, none⟩ = some (.int .i64 (Bl[i] : Nat)) := by
  rw [h.bk.cell i]
  simp [hi]
/-- both -/
structure WJ (W w : World) (F : List Nat) (c xb sb n : Nat) (X : Cl) (xB : Nat) (E : Ext) (Bl : List Nat) (vw : Value) (rd : List Nat) : Prop where
  b : WB W w F (WG xB E vw) c xb sb n X
  l : WL w xB E Bl vw rd
theorem WJ.step (h : WJ W w F c xb sb n X xB E Bl vw rd) {F' : List Nat} (hcm : CM w' F' c (some (xb, S40)) mPr n' X') (hc : Chg F w w') (hF : ∀ z ∈ F', z ∈ F ∨ w.heap.size ≤ z) : WJ W w' F' c xb sb n' X' xB E Bl vw rd :=
  ⟨h.b.step hcm hc hF, h.l.chg hc (fun g hg => (h.b.ng g hg).1)⟩
theorem WJ.co (h : WJ W w F c xb sb n X xB E Bl vw rd) (hco : CO w w' F c (some (xb, S40)) mPr n' X') : ∃ F', WJ W w' F' c xb sb n' X' xB E Bl vw rd := by
  obtain ⟨F', h1, h2, h3⟩ := hco
  exact ⟨F', h.step h1 h2 h3⟩
theorem WJ.below (h : WJ W w F c xb sb n X xB E Bl vw rd) (hb : Below w.heap.size w w') : WJ W w' F c xb sb n X xB E Bl vw rd := ⟨h.b.below hb, h.l.below hb⟩
theorem WJ.mono (h : WJ W w F c xb sb n X xB E Bl vw rd) (hn : n ≤ n') : WJ W w F c xb sb n' X xB E Bl vw rd := ⟨h.b.mono hn, h.l⟩
/-- nothing is to be read any more -/
theorem WJ.drop (h : WJ W w F c xb sb n X xB E Bl vw rd) : WJ W w F c xb sb n X xB none Bl (.slice none 0 0) [] := by
  have hs2 : ∀ g ∈ WG xB none (.slice none 0 0), g ∈ WG xB E vw := fun g hg => by
    rcases WG.mem.1 hg with rfl | ⟨e, he, _⟩ | hg
    · exact WG.mem.2 (Or.inl rfl)
    · cases he
    · cases hg
  have hs : ∀ z ∈ WG xB none (.slice none 0 0) ++ F, z ∈ WG xB E vw ++ F := fun z hz => by
    rcases List.mem_append.1 hz with hz | hz
    · exact List.mem_append_left _ (hs2 z hz)
    · exact List.mem_append_right _ hz
  exact ⟨⟨h.b.cm, h.b.vx.sub hs, h.b.vs.sub hs, fun g hg => h.b.ng g (hs2 g hg), h.b.b, h.b.nf, fun g hg => h.b.nG g (hs2 g hg)⟩, ⟨h.l.bk, fun e he => (by cases he), h.l.len, h.l.le, ownsRow_nil _ _ _⟩⟩
theorem WJ.start (hcm : CM w F c (some (xb, S40)) mPr n X) (hvs : VF F w sb S40) (hb : Below W.heap.size W w) (hF : ∀ z ∈ F, W.heap.size ≤ z) (hbw : Below w.heap.size w w') (hx : w.heap.size ≤ xB) (hB : Blk w' xB 52 (Bl.map fun (x : Nat) => Value.int .i64 x)) (hl : Bl.length = 40) (hle : ∀ x ∈ Bl, x ≤ 255) : WJ W w' F c xb sb n X xB none Bl (.slice none 0 0) [] := by
  have hl4 := hcm.lt
  have hq : ∀ g ∈ WG xB none (.slice none 0 0), g = xB := fun g hg => by
    rcases WG.mem.1 hg with rfl | ⟨e, he, _⟩ | hg
    · rfl
    · cases he
    · cases hg
  have hg : ∀ b, VF F w b S40 → VF (WG xB none (.slice none 0 0) ++ F) w' b S40 := fun b h => h.grow (L := []) (Chg.of_below hbw) (by simp) (fun z hz => by
    rcases List.mem_append.1 hz with hz | hz
    · rw [hq z hz]
      exact ⟨Or.inr hx, hB.lt⟩
    · exact ⟨Or.inl hz, Nat.lt_of_lt_of_le (hl4 z hz) hbw.size⟩)
  refine ⟨⟨hcm.below hbw, hg _ hcm.vf, hg _ hvs, fun g hg => ?_, hb.trans (hbw.mono hb.size), hF, fun g hg => ?_⟩, ⟨hB, fun e he => (by cases he), hl, hle, ownsRow_nil _ _ _⟩⟩
  · rw [hq g hg]
    exact ⟨fun hx2 => by have := hl4 _ hx2; omega, hB.lt⟩
  · rw [hq g hg]
    exact Nat.le_trans hb.size hx
/-- an operation is laid -/
theorem WJ.lay (h : WJ W w F c xb sb n X xB none Bl (.slice none 0 0) []) (ha : X.ans = none) {aB : Nat} {a : PAsk} (hbw : Below w.heap.size w w') (hx : w.heap.size ≤ aB) (hB : Blk w' aB 54 a.cells) : WJ W w' F c xb sb n X xB (some (aB, a)) Bl (.slice none 0 0) [] := by
  have hlx : xB < w'.heap.size := Nat.lt_of_lt_of_le h.l.bk.lt hbw.size
  refine ⟨h.b.side ha h.l.ty (Chg.of_below hbw) (fun g hg => ?_), ⟨h.l.bk.below hbw, fun e he => (by cases he; exact hB), h.l.len, h.l.le, ownsRow_nil _ _ _⟩⟩
  rcases WG.mem.1 hg with rfl | ⟨e, he, rfl⟩ | hg
  · exact ⟨Or.inl (WG.mem.2 (Or.inl rfl)), hlx⟩
  · cases he; exact ⟨Or.inr hx, hB.lt⟩
  · cases hg
/-- a block is written -/
theorem WJ.write (h : WJ W w F c xb sb n X xB E Bl vw rd) (ha : X.ans = none) (i v : Nat) (hv : v ≤ 255) : WJ W (w.setCell ⟨xB, i, none⟩ (.int .i64 v)) F c xb sb n X xB E (Bl.set i v) vw rd := by
  have hc : Chg (WG xB E vw) w (w.setCell ⟨xB, i, none⟩ (.int .i64 v)) := (Chg.refl _ _).setCell (p := ⟨xB, i, none⟩) (Or.inl (WG.mem.2 (Or.inl rfl))) _
  have hc1 : Chg [xB] w (w.setCell ⟨xB, i, none⟩ (.int .i64 v)) := (Chg.refl _ _).setCell (Or.inl (by simp)) _
  refine ⟨h.b.side ha h.l.ty hc (fun g hg => ⟨Or.inl hg, by have := (h.b.ng g hg).2; simpa using this⟩), ⟨?_, fun e he => (h.l.ab e he).chg hc1 (by have := (h.l.na he).1; simpa using this), by simpa using h.l.len, fun x hx => ?_, own_chg h.l.row hc1 (fun g hg hx => h.l.ne g hg (by simpa using hx))⟩⟩
  · have h3 := h.l.bk.set i (.int .i64 v)
    rw [List.map_set]
    exact h3
  · rcases List.mem_or_eq_of_mem_set hx with hx | rfl
    · exact h.l.le x hx
    · exact hv
/-- more is to be read -/
theorem WJ.want (h : WJ W w F c xb sb n X xB E Bl vw rd) (ha : X.ans = none) {v' : Value} {L : List Nat} (ho : w'.ownsRow 0 5 1 v' (rd ++ L).length (bys (rd ++ L))) (hc : Chg vw.ownBlock.toList w w') (hg : ∀ g, v'.ownBlock = some g → vw.ownBlock = some g ∨ g = w.heap.size) : WJ W w' F c xb sb n X xB E Bl v' (rd ++ L) := by
  have hlx : xB < w'.heap.size := Nat.lt_of_lt_of_le h.l.bk.lt hc.size
  refine ⟨h.b.side ha h.l.ty (hc.mono (fun z hz => Or.inl (WG.mem.2 (Or.inr (Or.inr (by simpa using hz)))))) (fun g hg' => ?_), ⟨h.l.bk.chg hc (fun hx => h.l.ne xB (by simpa using hx) rfl), fun e he => (h.l.ab e he).chg hc (fun hx => (h.l.na he).2 e.1 (by simpa using hx) rfl), h.l.len, h.l.le, ho⟩⟩
  rcases WG.mem.1 hg' with rfl | ⟨e, he, rfl⟩ | hg2
  · exact ⟨Or.inl (WG.mem.2 (Or.inl rfl)), hlx⟩
  · exact ⟨Or.inl (WG.mem.2 (Or.inr (Or.inl ⟨e, he, rfl⟩))), Nat.lt_of_lt_of_le (h.l.ab e he).lt hc.size⟩
  · exact ⟨(hg g hg2).imp (fun h3 => WG.mem.2 (Or.inr (Or.inr h3))) (fun h3 => by omega), own_lt ho hg2⟩
end
end Go.Proofs.YtanfdnpnkdiiiaaGreat
