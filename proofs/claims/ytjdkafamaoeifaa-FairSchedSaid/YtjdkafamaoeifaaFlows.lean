/- Flows 0 to n - 1 said by functions; picks beside limits. -/
import Derived.Test.YtjdkafamaoeifaaWhen
namespace Go.Proofs.Ytjdkafamaoeifaa
open Go.RowKit Go.Proofs
set_option linter.unusedVariables false
set_option linter.unusedSimpArgs false

def fL (p : Nat → Pol) (C : Nat → Clk) (Q : Nat → List It) (j : Nat) : Fl := ⟨(j : Int), 1, p j, C j, Q j⟩
/-- flows 0 to n - 1 -/
def XL (p : Nat → Pol) (C : Nat → Clk) (Q : Nat → List It) (n : Nat) : List Fl := (List.range n).map (fL p C Q)
section
variable {p : Nat → Pol} {C : Nat → Clk} {Q : Nat → List It} {n j : Nat}
theorem XL_length : (XL p C Q n).length = n := by simp [XL]
theorem XL_get (h : j < (XL p C Q n).length) : (XL p C Q n)[j] = fL p C Q j := by simp [XL]
theorem XL_set (c : Clk) (q : List It) : (XL p C Q n).set j ⟨(j : Int), 1, p j, c, q⟩ = XL p (upW C j c) (upW Q j q) n := by
  refine List.ext_getElem (by simp [XL]) fun i h1 h2 => ?_
  rw [List.getElem_set, XL_get, XL_get]
  split
  · rename_i e; subst e
    simp [fL, upW]
  · rename_i e
    simp [fL, upW, Ne.symm e]
theorem XL_succ : XL p C Q (n + 1) = XL p C Q n ++ [fL p C Q n] := by simp [XL, List.range_succ]
theorem XL_congr {C' : Nat → Clk} {Q' : Nat → List It} (h : ∀ i, i < n → C i = C' i ∧ Q i = Q' i) : XL p C Q n = XL p C' Q' n := by
  unfold XL
  refine List.map_congr_left fun i hi => ?_
  obtain ⟨h1, h2⟩ := h i (by simpa using hi)
  simp [fL, h1, h2]
theorem XL_no : ∀ f ∈ XL p C Q n, f.id ≠ (n : Int) := by
  intro f hf
  obtain ⟨i, hi, rfl⟩ := List.mem_map.1 hf
  have : i < n := by simpa using hi
  simp [fL]
  omega
end
def pg (ps : List Pol) (j : Nat) : Pol := ps.getD j ⟨0, 0, 0, 0⟩
theorem pg_get {ps : List Pol} {j : Nat} (h : j < ps.length) : pg ps j = ps[j] := by simp [pg, h]
/-- all flows so far are filled, and their clocks for limits and reservations stand at 0 -/
def Filled (ps : List Pol) (C : Nat → Clk) (k : Nat) : Prop := ∀ j, j < k → ((C j).l = 0 ∧ (C j).r = 0) ∧ right (pg ps j).r (pg ps j).w (pg ps j).l (pg ps j).b = true
def QOk (q : List It) : Prop := (2 ≤ q.length ∧ q.length ≤ 3) ∧ ∀ x ∈ q, x.delta = 0 ∧ x.rho = 0
theorem QOk.its {k : Nat} (h2 : 2 ≤ k) (h3 : k ≤ 3) : QOk (its k) := ⟨by rw [its_length]; omega, fun x hx => its_plain hx⟩
theorem QOk.step {q rest : List It} {x : It} (h : QOk q) (e : q = x :: rest) : QOk (rest ++ [⟨0, 0, 0⟩]) ∧ rest ≠ [] ∧ rest.length < 1024 ∧ x.delta = 0 ∧ x.rho = 0 := by
  subst e
  obtain ⟨⟨h0, h1⟩, h2⟩ := h
  simp at h0 h1
  refine ⟨⟨by simp; omega, fun y hy => ?_⟩, fun e => by rw [e] at h0; simp at h0, by omega, h2 x (by simp)⟩
  rcases List.mem_append.1 hy with h3 | h3
  · exact h2 y (List.mem_cons_of_mem _ h3)
  · rw [List.mem_singleton.1 h3]; exact ⟨rfl, rfl⟩
/-- what is known of the flows' picks: now, at most m of each -/
structure Lim2 (pl : List Pol) (C : Nat → Clk) (Q : Nat → List It) (ts : Nat → List Int) (now : Int) (m : Nat) : Prop where
  h : ∀ j, j < pl.length → 0 < (pg pl j).l → Hist (pg pl j) (C j).l (ts j) now
  q : ∀ j, j < pl.length → QOk (Q j)
  r : ∀ j, j < pl.length → right (pg pl j).r (pg pl j).w (pg pl j).l (pg pl j).b = true
  n : ∀ j, (ts j).length ≤ m
theorem Lim2.start {pl : List Pol} {C : Nat → Clk} {Q : Nat → List It} (h : Filled pl C pl.length) (hq : ∀ j, j < pl.length → QOk (Q j)) : Lim2 pl C Q (fun _ => []) 0 0 :=
  ⟨fun j hj _ => by rw [(h j hj).1.1]; exact Hist.start _ _, hq, fun j hj => (h j hj).2, fun j => by simp⟩
theorem Lim2.later {pl : List Pol} {C : Nat → Clk} {Q : Nat → List It} {ts : Nat → List Int} {now now' : Int} {m m' : Nat} (h : Lim2 pl C Q ts now m) (hn : now ≤ now') (hm : m ≤ m') : Lim2 pl C Q ts now' m' :=
  ⟨fun j hj hl => (h.h j hj hl).later hn, h.q, h.r, fun j => Nat.le_trans (h.n j) hm⟩
theorem Picks.mayL {X : List Fl} {tag : Int} {i : Nat} {phase : Int} (h : Picks X tag i phase) : (phase = 1 ∨ phase = 2) ∧ ∃ hi : i < X.length, mayL tag X[i] = true := by
  rcases h with ⟨rfl, hi, _, hm, _⟩ | ⟨rfl, _, hi, _, hm, _⟩
  · refine ⟨Or.inl rfl, hi, ?_⟩
    cases hml : Go.Proofs.Ytjdkafamaoeifaa.mayL tag X[i]
    · rw [mayR_L hml] at hm; cases hm
    · rfl
  · exact ⟨Or.inr rfl, hi, hm⟩
theorem Lim2.pick {pl : List Pol} {C : Nat → Clk} {Q : Nat → List It} {ts : Nat → List Int} {now : Int} {m i : Nat} {phase : Int} {x : It} {rest : List It} (h : Lim2 pl C Q ts now m) (hi : i < pl.length) (n0 : 0 ≤ now) (n1 : now ≤ 1000)
    (hp : Picks (XL (pg pl) C Q pl.length) (at_ now) i phase) (hq : Q i = x :: rest) :
    Lim2 pl (upW C i (charge (pg pl i) (C i) (at_ now) phase x.delta x.rho)) (upW Q i (rest ++ [⟨0, 0, 0⟩])) (upW ts i (ts i ++ [now])) now (m + 1) := by
  obtain ⟨hst, _, _, hd, hr⟩ := (h.q i hi).step hq
  obtain ⟨hph, hi', hm⟩ := hp.mayL
  rw [XL_get] at hm
  refine ⟨fun j hj hl => ?_, fun j hj => ?_, h.r, fun j => ?_⟩
  · by_cases e : j = i
    · subst e
      rw [upW_same, upW_same, hd, hr]
      refine (h.h j hj hl).step (h.r j hj) hl hph n0 n1 ?_
      simp only [Go.Proofs.Ytjdkafamaoeifaa.mayL, byLimit, fL, Bool.and_eq_true, Bool.or_eq_true, decide_eq_true_eq] at hm
      rcases hm.2 with h1 | h1
      · have := of_decide_eq_true h1; omega
      · exact of_decide_eq_true h1
    · rw [upW_other e, upW_other e]
      exact h.h j hj hl
  · by_cases e : j = i
    · subst e; rw [upW_same]; exact hst
    · rw [upW_other e]; exact h.q j hj
  · by_cases e : j = i
    · subst e; rw [upW_same, List.length_append, List.length_singleton]; have := h.n j; omega
    · rw [upW_other e]; have := h.n j; omega
end Go.Proofs.Ytjdkafamaoeifaa
