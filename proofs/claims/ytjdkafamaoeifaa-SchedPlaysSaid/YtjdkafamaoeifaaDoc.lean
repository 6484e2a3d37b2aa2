/- The document's flows (dotterelref12), in memory. -/
import Derived.Test.YtjdkafamaoeifaaApp
import Derived.Test.YtjdkafamaoeifaaSch
import Derived.Test.YtjdkafamaoeifaaClk3
namespace Go.Proofs.Ytjdkafamaoeifaa
open Go.RowKit Go.Proofs Go.Maps
set_option linter.unusedVariables false
set_option linter.unusedSimpArgs false

theorem itCells_length (q : List It) : (itCells q).length = q.length * 3 := by
  induction q with
  | nil => rfl
  | cons x q ih =>
    rw [show itCells (x :: q) = x.cells ++ itCells q from rfl, List.length_append, ih, List.length_cons, Nat.add_mul]
    simp [It.cells]
    omega
theorem itCells_one (q : List It) : ∀ u ∈ itCells q, u.oneCell' = true := by
  intro u hu
  obtain ⟨x, _, hu⟩ := List.mem_flatMap.1 hu
  simp only [It.cells, List.mem_cons, List.not_mem_nil, or_false] at hu
  rcases hu with rfl | rfl | rfl <;> rfl
/-- a flow, and where its queue lies -/
structure Dl where
  f : Fl
  A : Option Addr
  c : Nat
def Dl.lv (d : Dl) : Value := .slice d.A d.f.q.length d.c
def Dl.cells (d : Dl) : List Value := [.int .i64 d.f.id, .int .i64 d.f.ver, .int .i64 d.f.p.r, .int .i64 d.f.p.w, .int .i64 d.f.p.l, .int .i64 d.f.p.b, .int .i64 d.f.c.r, .int .i64 d.f.c.p, .int .i64 d.f.c.l, d.lv]
def dlCells (D : List Dl) : List Value := D.flatMap Dl.cells
theorem dlCells_length (D : List Dl) : (dlCells D).length = D.length * 10 := by
  induction D with
  | nil => rfl
  | cons x q ih =>
    rw [show dlCells (x :: q) = x.cells ++ dlCells q from rfl, List.length_append, ih, List.length_cons, Nat.add_mul]
    simp [Dl.cells]
    omega
theorem dlCells_one (D : List Dl) : ∀ u ∈ dlCells D, u.oneCell' = true := by
  intro u hu
  obtain ⟨x, _, hu⟩ := List.mem_flatMap.1 hu
  simp only [Dl.cells, List.mem_cons, List.not_mem_nil, or_false] at hu
  rcases hu with rfl | rfl | rfl | rfl | rfl | rfl | rfl | rfl | rfl | rfl <;> rfl
theorem dlCells_get (D : List Dl) (k j : Nat) (hk : k < D.length) (hj : j < 10) : (dlCells D)[k * 10 + j]? = D[k].cells[j]? := by
  induction D generalizing k with
  | nil => simp at hk
  | cons x q ih =>
    rw [show dlCells (x :: q) = x.cells ++ dlCells q from rfl]
    have hx : x.cells.length = 10 := rfl
    cases k with
    | zero =>
      rw [Nat.zero_mul, Nat.zero_add, List.getElem?_append_left (by rw [hx]; exact hj)]
      rfl
    | succ k =>
      rw [List.getElem?_append_right (by rw [hx]; omega), hx, show (k + 1) * 10 + j - 10 = k * 10 + j by omega]
      exact ih k (by simpa using hk)
/-- the document's flows: v: the slice, G: the blocks that hold it -/
structure Doc (w : World) (G : List Nat) (v : Value) (D : List Dl) : Prop where
  row : Que w 74 10 v D.length (dlCells D)
  rg : ∀ g, v.ownBlock = some g → g ∈ G
  q : ∀ d ∈ D, Reads w w.heap.size 3 d.A d.f.q.length (itCells d.f.q) ∧ d.f.q.length ≤ d.c ∧ ∀ b o, d.A = some ⟨b, o, none⟩ → b ∈ G
  lt : ∀ z ∈ G, z < w.heap.size
section
variable {w w' : World} {G H : List Nat} {v : Value} {D : List Dl}
theorem Reads.keepG {B B' size n : Nat} {A : Option Addr} {xs : List Value} (h : Reads w B size A n xs) (hB : B ≤ w.heap.size) (hB' : B ≤ B') (hc : Chg H w w') (hn : ∀ b o, A = some ⟨b, o, none⟩ → b ∉ H) : Reads w' B' size A n xs :=
  ⟨h.1, fun h0 => by
    obtain ⟨b, o, rfl, hb, hcell⟩ := h.2 h0
    refine ⟨b, o, rfl, by omega, fun j u hu => ?_⟩
    exact (World.cell?_of_block (a := ⟨b, o + j, none⟩) (hc.block b (by omega) (hn b o rfl))).trans (hcell j u hu)⟩
theorem Doc.chg (h : Doc w G v D) (hc : Chg H w w') (hn : ∀ z ∈ G, z ∉ H) : Doc w' G v D :=
  ⟨h.row.chg hc (fun g hg => hn g (h.rg g hg)), h.rg, fun d hd => ⟨(h.q d hd).1.keepG (Nat.le_refl _) hc.size hc (fun b o e => hn b ((h.q d hd).2.2 b o e)), (h.q d hd).2⟩, fun z hz => Nat.lt_of_lt_of_le (h.lt z hz) hc.size⟩
theorem Doc.below (h : Doc w G v D) (hb : Below w.heap.size w w') : Doc w' G v D := h.chg (H := []) (Chg.of_below hb) (fun _ _ hz => by cases hz)
theorem Doc.form (h : Doc w G v D) : ∃ A c, v = .slice A D.length c ∧ D.length ≤ c ∧ c ≤ maxLen := h.row.form
/-- the cells of flow k -/
theorem Doc.at_ (h : Doc w G v D) {k : Nat} (hk : k < D.length) : ∃ b o c, v = .slice (some ⟨b, o, none⟩) D.length c ∧ D.length ≤ c ∧ c ≤ maxLen ∧ b < w.heap.size ∧ ∀ j, j < 10 → w.cell? ⟨b, o + (k * 10 + j), none⟩ = D[k].cells[j]? := by
  obtain ⟨b, o, c, rfl, h1, h2, hb, hc⟩ := h.row.at_ (by omega)
  refine ⟨b, o, c, rfl, h1, h2, hb, fun j hj => ?_⟩
  have hx : j < D[k].cells.length := hj
  rw [List.getElem?_eq_getElem hx]
  exact hc (k * 10 + j) _ (by rw [dlCells_get D k j hk hj, List.getElem?_eq_getElem hx])
end
theorem Doc.nil (w : World) : Doc w [] (.slice none 0 0) [] := ⟨Que.nil _ _ _, fun g hg => by simp [Value.ownBlock] at hg, fun d hd => by (cases hd), fun z hz => by cases hz⟩
/-- a flow's place -/
def DAt (D : List Dl) (id z : Int) : Prop := (z = -1 ∧ ∀ d ∈ D, d.f.id ≠ id) ∨ ∃ i, ∃ hi : i < D.length, z = (i : Int) ∧ D[i].f.id = id
set_option maxHeartbeats 1000000 in
set_option maxRecDepth 100000 in
theorem at12_calls {w : World} {G : List Nat} {A : Option Addr} {n c : Nat} {D : List Dl} (id : Int) (h : Doc w G (.slice A n c) D) (hn : D.length = n) (hnn : n ≤ 1000000) :
    Calls Try.prog 27 #[.slice A n c, .int .i64 id] w fun e w' => (∃ z, e = .returned (.int .i64 z) ∧ DAt D id z) ∧ w = w' := by
  have HN := hide hn
  have HD := hide h
  clear hn h
  go_enter Try.func27, Try.ntmps27
  go_wp2
  go_loop [4, 5] (fun r i => ∃ j : Nat, j ≤ n ∧ r = .int .i64 0 ∧ i = .int .i64 j ∧ ∀ q, ∀ hq : q < D.length, q < j → D[q].f.id ≠ id) (fun _ i => n - (intOf i).toNat)
  case atStart => exact ⟨0, Nat.zero_le _, rfl, rfl, fun q _ h => absurd h (by omega)⟩
  case round =>
    obtain ⟨j, hj, rfl, rfl, hq⟩ := hrel
    have HQ := hide hq
    clear hq
    by_cases hlt : j < n
    · have hjl : j < D.length := by rw [HN.out]; exact hlt
      obtain ⟨b, o, c', e1, _, _, hb, hcell⟩ := HD.out.at_ hjl
      have e2 : A = some ⟨b, o, none⟩ := by
        injection e1
      subst e2
      obtain ⟨d, hd⟩ : ∃ d, D[j] = d := ⟨_, rfl⟩
      have g0 : w.cell? ⟨b, o + j * 10, none⟩ = some (.int .i64 d.f.id) := by rw [← hd]; exact hcell 0 (by omega)
      have i1 : (j : Int) < n := by omega
      have HX := hide hd
      clear hd hcell e1
      by_cases he : d.f.id = id
      · have t1 : (d.f.id == id) = true := by simp [he]
        have HE := hide he
        clear he
        go_wp2
        go_ret
        exact ⟨⟨_, rfl, Or.inr ⟨j, by rw [HN.out]; exact hlt, rfl, by rw [HX.out]; exact HE.out⟩⟩, rfl⟩
      · have t1 : (d.f.id == id) = false := by simp [he]
        have HE := hide he
        clear he
        go_wp2
        go_round
        case rel =>
          refine ⟨j + 1, by omega, rfl, by go_num, fun q hq h => ?_⟩
          by_cases e : q = j
          · subst e; rw [HX.out]; exact HE.out
          · exact HQ.out q hq (by omega)
        case measure => simp [intOf]; omega
    · have i1 : ¬ ((j : Int) < n) := by omega
      have e : j = n := by omega
      have HE := hide e
      clear e
      go_wp2
      go_ret
      refine ⟨⟨_, rfl, Or.inl ⟨rfl, fun y hy e2 => ?_⟩⟩, rfl⟩
      obtain ⟨q, hq, rfl⟩ := List.mem_iff_getElem.1 hy
      have h1 := HN.out
      have h2 := HE.out
      exact HQ.out q hq (by omega) e2
end Go.Proofs.Ytjdkafamaoeifaa
