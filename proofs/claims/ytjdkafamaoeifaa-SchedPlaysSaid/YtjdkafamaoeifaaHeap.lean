/- A heap in a list, and where each name stands: the plain part. -/
import Derived.Test.YtjdkafamaoeifaaPlace3
import Derived.Test.YtjdkafamaoeifaaMap
namespace Go.Proofs.Ytjdkafamaoeifaa
open Go.RowKit Go.Proofs
set_option linter.unusedVariables false

def gt (M : List Ld) (j : Nat) : Ld := M.getD j ⟨0, 0⟩
theorem gt_get {M : List Ld} {j : Nat} (h : j < M.length) : gt M j = M[j] := by simp [gt, h]
theorem gt_set {M : List Ld} {i j : Nat} {e : Ld} (h : i < M.length) : gt (M.set i e) j = if i = j then e else gt M j := by
  unfold gt
  rw [List.getD_eq_getElem?_getD, List.getElem?_set]
  by_cases e1 : i = j
  · rw [if_pos e1, if_pos e1, if_pos h]; rfl
  · rw [if_neg e1, if_neg e1, List.getD_eq_getElem?_getD]
theorem gt_snoc {M : List Ld} {j : Nat} {e : Ld} : gt (M ++ [e]) j = if j = M.length then e else gt M j := by
  unfold gt
  rw [List.getD_eq_getElem?_getD, List.getElem?_append]
  by_cases h1 : j < M.length
  · rw [if_pos h1, if_neg (by omega), List.getD_eq_getElem?_getD]
  · rw [if_neg h1, List.getD_eq_getElem?_getD]
    by_cases h2 : j = M.length
    · rw [if_pos h2]; simp [h2]
    · rw [if_neg h2, List.getElem?_eq_none (by simp; omega), List.getElem?_eq_none (by omega)]
theorem gt_take {M : List Ld} {n j : Nat} (h : j < n) : gt (M.take n) j = gt M j := by
  unfold gt
  rw [List.getD_eq_getElem?_getD, List.getElem?_take, if_pos h, List.getD_eq_getElem?_getD]
theorem gt_mem {M : List Ld} {j : Nat} (h : j < M.length) : gt M j ∈ M := by rw [gt_get h]; exact List.getElem_mem h
def par (j : Nat) : Nat := (j - 1) / 2
def HeapOk (M : List Ld) : Prop := ∀ j, 0 < j → j < M.length → ldLt (gt M j) (gt M (par j)) = false
def Near (M : List Ld) (i : Nat) : Prop :=
  (∀ j, 0 < j → j < M.length → j ≠ i → par j ≠ i → ldLt (gt M j) (gt M (par j)) = false) ∧
  (∀ c, 0 < c → c < M.length → par c = i → 0 < i → ldLt (gt M c) (gt M (par i)) = false)
def UpOk (M : List Ld) (i : Nat) : Prop := 0 < i → ldLt (gt M i) (gt M (par i)) = false
theorem no_trans {a b c : Ld} (h1 : ldLt a b = false) (h2 : ldLt b c = false) : ldLt a c = false := by rw [ldLt_no] at *; omega
theorem no_of_lt {a b : Ld} (h : ldLt a b = true) : ldLt b a = false := by rw [ldLt_no]; rw [ldLt_iff] at h; omega
/-- the hole goes from i to p -/
theorem gt_swap {M : List Ld} {i p j : Nat} (hi : i < M.length) (hp : p < M.length) : gt ((M.set i (gt M p)).set p (gt M i)) j = if p = j then gt M i else if i = j then gt M p else gt M j := by
  rw [gt_set (by rw [List.length_set]; exact hp), gt_set hi]
theorem swap_perm {M : List Ld} {i p : Nat} (hi : i < M.length) (hp : p < M.length) : ((M.set i (gt M p)).set p (gt M i)).Perm M := by
  rw [gt_get hi, gt_get hp]
  exact List.set_set_perm hi hp
theorem near_up {M : List Ld} {i : Nat} (h : Near M i) (hi : i < M.length) (h0 : 0 < i) (hlt : ldLt (gt M i) (gt M (par i)) = true) :
    Near ((M.set i (gt M (par i))).set (par i) (gt M i)) (par i) := by
  obtain ⟨h1, h2⟩ := h
  have hpi : par i < i := by unfold par; omega
  have hp : par i < M.length := by omega
  refine ⟨fun j j0 jl jp pj => ?_, fun c c0 cl pc p0 => ?_⟩
  · rw [List.length_set, List.length_set] at jl
    rw [gt_swap hi hp, gt_swap hi hp, if_neg (Ne.symm jp), if_neg (Ne.symm pj)]
    by_cases e1 : i = j
    · subst e1; exact absurd rfl pj
    · rw [if_neg e1]
      by_cases e2 : i = par j
      · rw [if_pos e2]
        exact h2 j j0 jl e2.symm h0
      · rw [if_neg e2]
        exact h1 j j0 jl (Ne.symm e1) (Ne.symm e2)
  · rw [List.length_set, List.length_set] at cl
    have hpp : par (par i) < par i := by unfold par at *; omega
    have hup : ldLt (gt M (par i)) (gt M (par (par i))) = false := h1 (par i) p0 hp (by omega) (by omega)
    rw [gt_swap hi hp, gt_swap hi hp, if_neg (show ¬ par i = par (par i) by omega), if_neg (show ¬ i = par (par i) by omega)]
    have hcp : ¬ par i = c := by unfold par at *; omega
    rw [if_neg hcp]
    by_cases e1 : i = c
    · rw [if_pos e1]; exact hup
    · rw [if_neg e1]
      have := h1 c c0 cl (Ne.symm e1) (by omega)
      rw [pc] at this
      exact no_trans this hup
theorem near_down {M : List Ld} {i k : Nat} (h : Near M i) (hu : UpOk M i) (hk : k < M.length) (k0 : 0 < k) (hki : par k = i) (hs : ∀ c, 0 < c → c < M.length → par c = i → ldLt (gt M c) (gt M k) = false)
    (hlt : ldLt (gt M i) (gt M k) = false) : Near ((M.set i (gt M k)).set k (gt M i)) k ∧ UpOk ((M.set i (gt M k)).set k (gt M i)) k := by
  obtain ⟨h1, h2⟩ := h
  have hik : i < k := by unfold par at hki; omega
  have hi : i < M.length := by omega
  refine ⟨⟨fun j j0 jl jk pj => ?_, fun c c0 cl pc p0 => ?_⟩, fun _ => ?_⟩
  · rw [List.length_set, List.length_set] at jl
    rw [gt_swap hi hk, gt_swap hi hk, if_neg (Ne.symm jk), if_neg (Ne.symm pj)]
    by_cases e1 : i = j
    · subst e1
      have : ¬ i = par i := by unfold par; omega
      rw [if_pos rfl, if_neg this]
      exact h2 k k0 hk hki j0
    · rw [if_neg e1]
      by_cases e2 : i = par j
      · rw [if_pos e2]
        exact hs j j0 jl e2.symm
      · rw [if_neg e2]
        exact h1 j j0 jl (Ne.symm e1) (Ne.symm e2)
  · rw [List.length_set, List.length_set] at cl
    have hck : k < c := by unfold par at pc; omega
    rw [gt_swap hi hk, gt_swap hi hk, hki, if_neg (by omega), if_neg (by omega), if_neg (show ¬ k = i by omega), if_pos rfl]
    have := h1 c c0 cl (by omega) (by omega)
    rw [pc] at this
    exact this
  · rw [gt_swap hi hk, gt_swap hi hk, if_pos rfl, hki, if_neg (by omega), if_pos rfl]
    exact hlt
theorem near_end {M : List Ld} {i : Nat} (h : Near M i) (hu : UpOk M i) (hc : ∀ c, 0 < c → c < M.length → par c = i → ldLt (gt M c) (gt M i) = false) : HeapOk M := by
  intro j j0 jl
  by_cases e1 : j = i
  · subst e1; exact hu j0
  · by_cases e2 : par j = i
    · rw [e2]; exact hc j j0 jl e2
    · exact h.1 j j0 jl e1 e2
theorem HeapOk.near {M : List Ld} (h : HeapOk M) (i : Nat) (e : Ld) (hi : i < M.length) : Near (M.set i e) i := by
  refine ⟨fun j j0 jl ji pj => ?_, fun c c0 cl pc p0 => ?_⟩
  · rw [List.length_set] at jl
    rw [gt_set hi, gt_set hi, if_neg (Ne.symm ji), if_neg (Ne.symm pj)]
    exact h j j0 jl
  · rw [List.length_set] at cl
    have h1 : i < c := by unfold par at pc; omega
    have h2 : ¬ i = par i := by unfold par; omega
    rw [gt_set hi, gt_set hi, if_neg (by omega), if_neg h2]
    have a := h c c0 cl
    rw [pc] at a
    exact no_trans a (h i p0 hi)
theorem HeapOk.snoc {M : List Ld} (h : HeapOk M) (e : Ld) : Near (M ++ [e]) M.length := by
  refine ⟨fun j j0 jl ji pj => ?_, fun c c0 cl pc p0 => ?_⟩
  · rw [gt_snoc, gt_snoc, if_neg ji, if_neg pj]
    exact h j j0 (by simp at jl; omega)
  · simp at cl
    unfold par at pc
    omega
theorem HeapOk.take {M : List Ld} (h : HeapOk M) (n : Nat) : HeapOk (M.take n) := by
  intro j j0 jl
  rw [List.length_take] at jl
  have : par j < n := by unfold par; omega
  rw [gt_take (by omega), gt_take this]
  exact h j j0 (by omega)
/-- the first one is the least -/
theorem HeapOk.least {M : List Ld} (h : HeapOk M) : ∀ j, j < M.length → ldLt (gt M j) (gt M 0) = false := by
  intro j
  induction j using Nat.strongRecOn with
  | ind j ih =>
    intro hj
    rcases Nat.eq_zero_or_pos j with h0 | h0
    · subst h0; rw [ldLt_no]; omega
    · have h1 : par j < j := by unfold par; omega
      exact no_trans (h j h0 hj) (ih (par j) h1 (by omega))

/-- f tells where each name stands, but for the hole -/
def HV (f : Int → Option Int) (M : List Ld) (i : Nat) : Prop :=
  (M.map Ld.id).Nodup ∧ (∀ j, j < M.length → j ≠ i → f (gt M j).id = some (j : Int)) ∧ ∀ k, (f k).isSome ↔ ∃ j, j < M.length ∧ (gt M j).id = k
def HF (f : Int → Option Int) (M : List Ld) : Prop :=
  (M.map Ld.id).Nodup ∧ (∀ j, j < M.length → f (gt M j).id = some (j : Int)) ∧ ∀ k, (f k).isSome ↔ ∃ j, j < M.length ∧ (gt M j).id = k
theorem nodup_ids {M : List Ld} (h : (M.map Ld.id).Nodup) {i j : Nat} (hi : i < M.length) (hj : j < M.length) (e : (gt M i).id = (gt M j).id) : i = j := by
  rw [gt_get hi, gt_get hj] at e
  have := List.getElem_inj (xs := M.map Ld.id) (i := i) (j := j) (h₀ := by simpa using hi) (h₁ := by simpa using hj) h
  exact this.1 (by simpa using e)
theorem HF.hv {f : Int → Option Int} {M : List Ld} (h : HF f M) (i : Nat) : HV f M i := ⟨h.1, fun j hj _ => h.2.1 j hj, h.2.2⟩
theorem ids_perm {M M' : List Ld} (h : M'.Perm M) (k : Int) : (∃ j, j < M'.length ∧ (gt M' j).id = k) ↔ ∃ j, j < M.length ∧ (gt M j).id = k := by
  have key : ∀ (X : List Ld), (∃ j, j < X.length ∧ (gt X j).id = k) ↔ ∃ x ∈ X, x.id = k := fun X => by
    constructor
    · rintro ⟨j, hj, e⟩; exact ⟨gt X j, gt_mem hj, e⟩
    · rintro ⟨x, hx, e⟩
      obtain ⟨j, hj, rfl⟩ := List.mem_iff_getElem.1 hx
      exact ⟨j, hj, by rw [gt_get hj]; exact e⟩
  rw [key, key]
  constructor
  · rintro ⟨x, hx, e⟩; exact ⟨x, h.subset hx, e⟩
  · rintro ⟨x, hx, e⟩; exact ⟨x, h.symm.subset hx, e⟩
theorem HV.step {f : Int → Option Int} {M : List Ld} {i p : Nat} (h : HV f M i) (hi : i < M.length) (hp : p < M.length) (hne : p ≠ i) :
    HV (upd f (gt M p).id (some (i : Int))) ((M.set i (gt M p)).set p (gt M i)) p := by
  obtain ⟨h1, h2, h3⟩ := h
  refine ⟨((swap_perm hi hp).map Ld.id).nodup_iff.2 h1, fun j hj hjp => ?_, fun k => ?_⟩
  · rw [List.length_set, List.length_set] at hj
    rw [gt_swap hi hp, if_neg (Ne.symm hjp)]
    by_cases e1 : i = j
    · subst e1; rw [if_pos rfl, upd_same]
    · rw [if_neg e1, upd_other (fun e => hjp (nodup_ids h1 hj hp e))]
      exact h2 j hj (Ne.symm e1)
  · rw [ids_perm (swap_perm hi hp), ← h3]
    by_cases e : k = (gt M p).id
    · subst e
      rw [upd_same, h2 p hp hne]
      simp
    · rw [upd_other e]
theorem HV.close {f : Int → Option Int} {M : List Ld} {i : Nat} (h : HV f M i) (hi : i < M.length) : HF (upd f (gt M i).id (some (i : Int))) M := by
  obtain ⟨h1, h2, h3⟩ := h
  refine ⟨h1, fun j hj => ?_, fun k => ?_⟩
  · by_cases e1 : j = i
    · subst e1; rw [upd_same]
    · rw [upd_other (fun e => e1 (nodup_ids h1 hj hi e))]; exact h2 j hj e1
  · rw [← h3]
    by_cases e : k = (gt M i).id
    · subst e
      rw [upd_same]
      have : (f (gt M i).id).isSome := (h3 _).2 ⟨i, hi, rfl⟩
      simp [this]
    · rw [upd_other e]
end Go.Proofs.Ytjdkafamaoeifaa
