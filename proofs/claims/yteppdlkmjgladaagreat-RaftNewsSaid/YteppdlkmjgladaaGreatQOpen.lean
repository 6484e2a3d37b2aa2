/- One text of: Open. -/
import Derived.Deep.Slices
import Derived.Deep.Fields
import Derived.Lib.SmallJoins
import Derived.Test.YteppdlkmjgladaaGreatQBase
namespace Go.Proofs.YteppdlkmjgladaaGreat
open Go.ChangeShapes Go.WideShapes Go.RowKit Go.Deep Go.Joins

section
variable {H : Type} {enc : TypeId × Value → H} {P : Program} {w : World} {base b0 : Nat} {spare : Nat → Bool} {held : Bool}
/-- every element's every field is an int: g i j -/
theorem open_rows {r : Reach} {t e : TypeId} {fs : Array Field} (m' : Nat) {v : Value} {d : DataW H} {ps : List MemPlace} (ht : P.underlying t = some (.slice e)) (he : P.underlying e = some (.struct fs))
    (hm' : fs.size = m') (hone : oneCellFields P fs = true) (hC : P.cellsOf e = m') (hpos : 0 < m') (hint : ∀ (j : Nat) (f : Field), fs[j]? = some f → P.underlying f.type = some (.int .i64))
    (hv : Value.okWide P w r b0 t v) (h : DataW.Trod enc P w base spare held t v d ps) :
    ∃ (A : Option Addr) (n c : Nat) (g : Nat → Nat → Int), v = .slice A n c ∧ n ≤ c ∧ c ≤ maxLen ∧ (∀ i j, i < n → j < m' → -9223372036854775808 ≤ g i j ∧ g i j ≤ 9223372036854775807) ∧
      (0 < n → ∃ b o, A = some ⟨b, o, none⟩ ∧ b < w.heap.size ∧ ∀ i j, i < n → j < m' → w.cell? ⟨b, o + (i * m' + j), none⟩ = some (.int .i64 (g i j))) := by
  subst hm'
  obtain ⟨A, n, c, rfl⟩ := okWide_slice ht hv
  obtain ⟨fuel, hf⟩ := h
  rcases open_slice ht hf with ⟨h0, _⟩ | ⟨a, len, cap, m, k, D, Pl, hcs, hb, hl, hm, hmm, hx, hi⟩
  · have e0 : A = none ∧ n = 0 ∧ c = 0 := by simpa [Value.cells] using h0
    obtain ⟨rfl, rfl, rfl⟩ := e0
    exact ⟨none, 0, 0, fun _ _ => 0, rfl, Nat.le_refl _, by unfold maxLen; omega, fun i j hi => absurd hi (by omega), fun hn => absurd hn (by omega)⟩
  · have e0 : A = some a ∧ n = len ∧ c = cap := by simpa [Value.cells] using hcs
    obtain ⟨rfl, rfl, rfl⟩ := e0
    have hnm : n ≤ m := by rw [hmm]; split <;> omega
    have hall : ∀ i, i < n → ∃ f : Nat → Int, ∀ j, j < fs.size → (-9223372036854775808 ≤ f j ∧ f j ≤ 9223372036854775807) ∧ w.cell? (a.add (i * fs.size + j)) = some (.int .i64 (f j)) := by
      intro i hin
      obtain ⟨cs', hc, ht'⟩ := hi i (by omega)
      rw [hC] at hc
      obtain ⟨ys, n', hn', hy, hlen, hyl, hff⟩ := DataW.trod_struct he ht'
      obtain ⟨_, hcl, hat⟩ := World.cells?_some hc
      refine choose_lt (p := fun j q => (-9223372036854775808 ≤ q ∧ q ≤ 9223372036854775807) ∧ w.cell? (a.add (i * fs.size + j)) = some (.int .i64 q)) fun j hj => ?_
      obtain ⟨f, hfj⟩ : ∃ f, fs[j]? = some f := ⟨fs[j], Array.getElem?_eq_getElem hj⟩
      obtain ⟨ho, hk⟩ := hone_of hone j f hfj
      have h1 := hff j f hfj
      rw [ho, hk] at h1
      have hone' : (cs'.drop j).take 1 = [cs'[j]'(by omega)] := by
        rw [List.drop_eq_getElem_cons (by omega)]
        rfl
      rw [hone'] at h1
      have hys : ys[j]? = some (ys[j]'(by omega)) := List.getElem?_eq_getElem (by omega)
      have h2 := h1.trans hys
      obtain ⟨q, e1, _, wq⟩ := DataW.trod_int (hint j f hfj) h2
      have e2 : cs'[j]'(by omega) = .int .i64 q := by simpa using e1
      have hcell := hat j hj
      refine ⟨q, bounds_i64 wq, ?_⟩
      rw [← Go.Deep.add_add, hcell, List.getElem?_eq_getElem (by omega), e2]
    obtain ⟨g, hg⟩ := choose_lt hall
    refine ⟨some a, n, c, g, rfl, hl, hm, fun i j hi hj => (hg i hi j hj).1, fun hn => ?_⟩
    obtain ⟨b, o, spot⟩ := a
    have h00 := (hg 0 hn 0 hpos).2
    have hspot : spot = none := by simpa [Addr.add] using World.cell?_spot h00
    subst hspot
    refine ⟨b, o, rfl, ?_, fun i j hi hj => ?_⟩
    · have := World.block_lt_of_cell? w _ h00
      simpa [Addr.add] using this
    · rw [← Go.WideShapes.add_plain]
      exact (hg i hi j hj).2
/-- a slice of integers of one kind -/
theorem open_intsR {r : Reach} {t e : TypeId} {k : IntKind} {v : Value} {d : DataW H} {ps : List MemPlace} (ht : P.underlying t = some (.slice e)) (he : P.underlying e = some (.int k)) (hC : P.cellsOf e = 1)
    (hv : Value.okWide P w r b0 t v) (h : DataW.Trod enc P w base spare held t v d ps) :
    ∃ (A : Option Addr) (c : Nat) (xs : List Int), v = .slice A xs.length c ∧ xs.length ≤ c ∧ c ≤ maxLen ∧ (∀ x ∈ xs, (Lit.int k x).wf = true) ∧ Reads w w.heap.size 1 A xs.length (xs.map (Value.int k)) := by
  obtain ⟨A, n, c, rfl⟩ := okWide_slice ht hv
  obtain ⟨fuel, hf⟩ := h
  rcases open_ints ht he hC hf with ⟨hcs, _⟩ | ⟨a, len, cap, zs, hcs, _, hl, hm, hz, _, hcell, hwz⟩
  · have e0 : A = none ∧ n = 0 ∧ c = 0 := by simpa [Value.cells] using hcs
    obtain ⟨rfl, rfl, rfl⟩ := e0
    exact ⟨none, 0, [], rfl, Nat.le_refl _, by unfold maxLen; omega, (fun x hx => by cases hx), Reads.none_⟩
  · have e0 : A = some a ∧ n = len ∧ c = cap := by simpa [Value.cells] using hcs
    obtain ⟨rfl, rfl, rfl⟩ := e0
    have hnz : n ≤ zs.length := by rw [hz]; split <;> omega
    have hln : (zs.take n).length = n := by rw [List.length_take]; omega
    refine ⟨some a, c, zs.take n, by rw [hln], by rw [hln]; exact hl, hm, fun x hx => hwz x (List.mem_of_mem_take hx), ?_⟩
    rw [hln]
    refine ⟨by rw [List.length_map, hln, Nat.mul_one], fun hn => ?_⟩
    obtain ⟨b, o, rfl, hc⟩ := ints_at hcell (by omega)
    refine ⟨b, o, rfl, ?_, fun j u hu => ?_⟩
    · have h0 := hc 0 (by omega)
      exact World.block_lt_of_cell? w _ h0
    · have hj : j < n := by
        have := (List.getElem?_eq_some_iff.1 hu).1
        rw [List.length_map, hln] at this
        exact this
      have hjz : j < zs.length := by omega
      rw [List.getElem?_map, List.getElem?_take, if_pos hj, List.getElem?_eq_getElem hjz, Option.map_some] at hu
      rw [hc j hjz, ← hu]
      simp [hjz]
end
end Go.Proofs.YteppdlkmjgladaaGreat
