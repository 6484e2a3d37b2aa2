/- One text of: OpenP. -/
import Derived.Test.YtanfdnpnkdiiiaaGreatQPol2
import Derived.Test.YtanfdnpnkdiiiaaGreatQOpen
namespace Go.Proofs.YtanfdnpnkdiiiaaGreat
open Go.ChangeShapes Go.WideShapes Go.ChangeAt Go.RowKit Go.Joins
set_option linter.unusedVariables false
set_option maxRecDepth 100000

theorem Tryz.cellsPol : Tryz.prog.cellsOf 66 = 4 := by kernel_rfl
theorem open_pols {H : Type} {enc : TypeId × Value → H} {W : World} {base : Nat} {v : Value} {d : DataW H} {p : List MemPlace}
    (ok : Value.okWide Tryz.prog W .any base 133 v) (h : DataW.Trod enc Tryz.prog W 0 (fun _ => true) true 133 v d p) :
    ∃ (A : Option Addr) (c : Nat) (ps : List Pol), v = .slice A ps.length c ∧ ps.length ≤ c ∧ c ≤ maxLen ∧ Reads W W.heap.size 4 A ps.length (polCells ps) := by
  obtain ⟨A, n, c, g, rfl, hn, hcm, hg, hr⟩ := open_rows 4 Tryz.underlying133 Tryz.underlying66 rfl (by kernel_rfl) Tryz.cellsPol (by decide) (by
    intro j f hj
    match j, hj with
    | 0, hj => injection hj with hj; subst hj; exact Tryz.underlying3
    | 1, hj => injection hj with hj; subst hj; exact Tryz.underlying3
    | 2, hj => injection hj with hj; subst hj; exact Tryz.underlying3
    | 3, hj => injection hj with hj; subst hj; exact Tryz.underlying3) ok h
  have e1 : Tryz.prog.underlying 66 = Tryz.prog.underlying 66 := rfl
  clear e1
  refine ⟨A, c, (List.range n).map fun i => ⟨g i 0, g i 1, g i 2, g i 3⟩, by simp, by simpa using hn, hcm, ?_⟩
  have hlen : ((List.range n).map fun i => (⟨g i 0, g i 1, g i 2, g i 3⟩ : Pol)).length = n := by simp
  rw [hlen]
  refine ⟨by rw [polCells_length, hlen], fun hn0 => ?_⟩
  obtain ⟨b, o, rfl, hb, hc⟩ := hr hn0
  refine ⟨b, o, rfl, hb, fun q u hu => ?_⟩
  have hq : q < n * 4 := by
    have h1 := (List.getElem?_eq_some_iff.1 hu).1
    rw [polCells_length, hlen] at h1
    exact h1
  have e : q = q / 4 * 4 + q % 4 := by omega
  have hi : q / 4 < n := by omega
  have hj : q % 4 < 4 := by omega
  rw [e, polCells_get _ _ _ (by rw [hlen]; exact hi) hj] at hu
  have hc' := hc (q / 4) (q % 4) hi hj
  rw [e]
  generalize q / 4 = i at *
  generalize q % 4 = j at *
  rw [hc']
  rw [List.getElem_map, List.getElem_range] at hu
  match j, hj with
  | 0, _ => exact hu
  | 1, _ => exact hu
  | 2, _ => exact hu
  | 3, _ => exact hu

theorem open_pol {H : Type} {enc : TypeId × Value → H} {W : World} {base : Nat} {v : Value} {d : DataW H} {p : List MemPlace}
    (ok : Value.okWide Tryz.prog W .any base 66 v) (h : DataW.Trod enc Tryz.prog W 0 (fun _ => true) true 66 v d p) :
    ∃ q : Pol, v = .agg #[.int .i64 q.r, .int .i64 q.w, .int .i64 q.l, .int .i64 q.b] ∧ (Lit.int .i64 q.r).wf = true ∧ (Lit.int .i64 q.w).wf = true ∧ (Lit.int .i64 q.l).wf = true ∧ (Lit.int .i64 q.b).wf = true := by
  obtain ⟨v0, v1, v2, v3, y0, y1, y2, y3, n, rfl, _, _, h0, h1, h2, h3⟩ := open_agg4 Tryz.underlying66 (by kernel_rfl) Tryz.cellsPol ok h
  obtain ⟨a, e0, _, w0⟩ := DataW.trod_int Tryz.underlying3 h0
  obtain ⟨b, e1, _, w1⟩ := DataW.trod_int Tryz.underlying3 h1
  obtain ⟨c, e2, _, w2⟩ := DataW.trod_int Tryz.underlying3 h2
  obtain ⟨d, e3, _, w3⟩ := DataW.trod_int Tryz.underlying3 h3
  simp only [List.cons.injEq, and_true] at e0 e1 e2 e3
  subst e0 e1 e2 e3
  exact ⟨⟨a, b, c, d⟩, rfl, w0, w1, w2, w3⟩

end Go.Proofs.YtanfdnpnkdiiiaaGreat
