/- Layer 18 plainly: what holds of every state stays whatever command comes. -/
import Derived.Test.YtcgecalbgkkinaaGreatVol
namespace Go.Proofs.YtcgecalbgkkinaaGreat
open Go.RowKit Go.Proofs Go.Maps
set_option linter.unusedVariables false

section
variable {α : Type} {key : α → Int} {L : List α}
theorem rise_len {a b : Int} (h : Rise key L) (hb : ∀ x ∈ L, a ≤ key x ∧ key x < b) : L.length ≤ (b - a).toNat := by
  induction L generalizing a with
  | nil => simp
  | cons y t ih =>
    obtain ⟨h1, h2⟩ := List.pairwise_cons.1 h
    have h3 := hb y (by simp)
    have := ih (a := key y + 1) h2 (fun x hx => ⟨by have := h1 x hx; omega, (hb x (List.mem_cons_of_mem _ hx)).2⟩)
    rw [List.length_cons]
    omega
end
/-- chunks that n commands have made -/
structure COk (cs : List Ck) (nx e : Int) : Prop where
  rise : Rise Ck.id cs
  all : ∀ c ∈ cs, 1 ≤ c.id ∧ c.id < nx ∧ 1 ≤ c.ep ∧ c.ep ≤ e ∧ c.me.length + c.jo.length ≤ 4
theorem COk.more {cs : List Ck} {nx e nx' e' : Int} (h : COk cs nx e) (h1 : nx ≤ nx') (h2 : e ≤ e') : COk cs nx' e' :=
  ⟨h.rise, fun c hc => by have := h.all c hc; omega⟩
theorem COk.ins {cs : List Ck} {nx e : Int} (h : COk cs nx e) {c : Ck} (hc : 1 ≤ c.id ∧ c.id < nx ∧ 1 ≤ c.ep ∧ c.ep ≤ e ∧ c.me.length + c.jo.length ≤ 4) : COk (ins Ck.id c cs) nx e :=
  ⟨h.rise.ins c, fun x hx => by
    rcases (mem_ins h.rise).1 hx with rfl | ⟨h1, _⟩
    · exact hc
    · exact h.all x h1⟩
theorem mem_outs {cs : List Ck} {ks : List Int} {c : Ck} : c ∈ outs cs ks ↔ c ∈ cs ∧ c.id ∉ ks := by
  induction ks generalizing cs with
  | nil => simp [outs]
  | cons k t ih =>
    unfold outs
    rw [ih, mem_out]
    simp only [List.mem_cons, not_or]
    constructor
    · rintro ⟨⟨h1, h2⟩, h3⟩; exact ⟨h1, h2, h3⟩
    · rintro ⟨h1, h2, h3⟩; exact ⟨⟨h1, h2⟩, h3⟩
theorem outs_rise {cs : List Ck} {ks : List Int} (h : Rise Ck.id cs) : Rise Ck.id (outs cs ks) := by
  induction ks generalizing cs with
  | nil => exact h
  | cons k t ih => exact ih (h.out k)
theorem COk.outs {cs : List Ck} {nx e : Int} (h : COk cs nx e) (ks : List Int) : COk (outs cs ks) nx e :=
  ⟨outs_rise h.rise, fun c hc => h.all c (mem_outs.1 hc).1⟩
theorem chosen_le (l : List Ld) (m : Int) : (chosen l m).length ≤ m.toNat := by
  unfold chosen
  rw [List.length_take]; omega
theorem loads_sv (S : Vst) (nx : Int) (cs : List Ck) : ({ S with cs := cs, nx := nx } : Vst).sv = S.sv := rfl
/-- n chunks more -/
structure Grown (n : Nat) (S : Vst) (id : Int) (ch : List Int) (R : Vst × List Int) : Prop where
  sv : R.1.sv = S.sv
  vs : R.1.vs = S.vs
  nx : R.1.nx = S.nx + n
  ch : R.2 = ch ++ (List.range n).map fun (i : Nat) => S.nx + i
  old : ∀ c ∈ S.cs, c ∈ R.1.cs
  new : ∀ c ∈ R.1.cs, c ∈ S.cs ∨ (S.nx ≤ c.id ∧ c.id < S.nx + n ∧ c.vol = id ∧ c.ep = 1 ∧ c.jo = [] ∧ ∃ X : Vst, X.sv = S.sv ∧ c.me = chosen X.loads 0 ∨ c.vol = id)
theorem growN_sv (n : Nat) (S : Vst) (id : Int) (ch : List Int) (cp : Int) : (growN n S id ch cp).1.sv = S.sv ∧ (growN n S id ch cp).1.vs = S.vs ∧ (growN n S id ch cp).1.nx = S.nx + n ∧
    (growN n S id ch cp).2 = ch ++ (List.range n).map fun (i : Nat) => S.nx + (i : Int) := by
  induction n generalizing S ch with
  | zero => simp [growN]
  | succ n ih =>
    obtain ⟨h1, h2, h3, h4⟩ := ih { S with cs := ins Ck.id ⟨S.nx, id, 1, chosen S.loads (min cp S.sv.length), []⟩ S.cs, nx := S.nx + 1 } (ch ++ [S.nx])
    unfold growN
    refine ⟨h1, h2, by rw [h3]; simp only []; omega, ?_⟩
    rw [h4, List.range_succ_eq_map]
    simp only [List.map_cons, List.map_map, List.append_assoc, List.cons_append, List.nil_append]
    congr 2
    · simp
    · apply List.map_congr_left
      intro i _
      simp only [Function.comp]
      omega
/-- whatever holds of each chunk, and of a new one, holds of all behind -/
theorem growN_all {P : Ck → Prop} {S : Vst} {id cp : Int} (n : Nat) (ch : List Int) (hr : Rise Ck.id S.cs) (hlt : ∀ c ∈ S.cs, c.id < S.nx) (h0 : ∀ c ∈ S.cs, P c)
    (h1 : ∀ X : Vst, X.sv = S.sv → S.nx ≤ X.nx → X.nx < S.nx + n → P ⟨X.nx, id, 1, chosen X.loads (min cp S.sv.length), []⟩) :
    Rise Ck.id (growN n S id ch cp).1.cs ∧ (∀ c ∈ (growN n S id ch cp).1.cs, c.id < S.nx + n) ∧ (∀ c ∈ (growN n S id ch cp).1.cs, P c) ∧ (∀ c ∈ S.cs, c ∈ (growN n S id ch cp).1.cs) ∧
      (∀ c ∈ (growN n S id ch cp).1.cs, c ∈ S.cs ∨ (S.nx ≤ c.id ∧ c.id < S.nx + n ∧ c.vol = id)) ∧ ∀ k : Int, S.nx ≤ k → k < S.nx + n → ∃ c ∈ (growN n S id ch cp).1.cs, c.id = k ∧ c.vol = id := by
  induction n generalizing S ch with
  | zero =>
    refine ⟨hr, fun c hc => by have := hlt c hc; simpa using this, h0, fun c hc => hc, fun c hc => Or.inl hc, fun k h2 h3 => by omega⟩
  | succ n ih =>
    let K : Ck := ⟨S.nx, id, 1, chosen S.loads (min cp S.sv.length), []⟩
    have hK : P K := h1 S rfl (Int.le_refl _) (by omega)
    have hm : ∀ c, c ∈ ins Ck.id K S.cs ↔ c = K ∨ c ∈ S.cs := fun c => by
      rw [mem_ins hr]
      constructor
      · rintro (h | ⟨h, _⟩)
        · exact Or.inl h
        · exact Or.inr h
      · rintro (h | h)
        · exact Or.inl h
        · exact Or.inr ⟨h, by have := hlt c h; simp only [K]; omega⟩
    obtain ⟨r1, r2, r3, r4, r5, r6⟩ := ih (S := { S with cs := ins Ck.id K S.cs, nx := S.nx + 1 }) (ch ++ [S.nx]) (hr.ins K)
      (fun c hc => by
        rcases (hm c).1 hc with rfl | h
        · simp only [K]; omega
        · have := hlt c h; simp only []; omega)
      (fun c hc => by
        rcases (hm c).1 hc with rfl | h
        · exact hK
        · exact h0 c h)
      (fun X h2 h3 h4 => h1 X h2 (by simp only [] at h3; omega) (by simp only [] at h4; omega))
    simp only [] at r2 r3 r4 r5 r6
    unfold growN
    refine ⟨r1, fun c hc => by have := r2 c hc; omega, r3, fun c hc => r4 c ((hm c).2 (Or.inr hc)), fun c hc => ?_, fun k h2 h3 => ?_⟩
    · rcases r5 c hc with h | ⟨h2, h3, h4⟩
      · rcases (hm c).1 h with rfl | h
        · exact Or.inr ⟨Int.le_refl _, by simp only [K]; omega, rfl⟩
        · exact Or.inl h
      · exact Or.inr ⟨by omega, by omega, h4⟩
    · by_cases e : k = S.nx
      · exact ⟨K, r4 K ((hm K).2 (Or.inl rfl)), e.symm, rfl⟩
      · exact r6 k (by omega) (by omega)
end Go.Proofs.YtcgecalbgkkinaaGreat
