/- VolumeHolds plainly: epochs and versions never fall, numbers of chunks, who admits. -/
import Derived.Test.YtcgecalbgkkinaaSrv
namespace Go.Proofs.Ytcgecalbgkkinaa
open Go.RowKit Go.Proofs Go.Maps
set_option linter.unusedVariables false

/-- what a command does to chunks -/
def EStep (S S' : Vst) : Prop := S.nx ≤ S'.nx ∧ ∀ c' ∈ S'.cs, S.nx ≤ c'.id ∨ ∃ c ∈ S.cs, c.id = c'.id ∧ c.ep ≤ c'.ep
theorem EStep.refl (S : Vst) : EStep S S := ⟨Int.le_refl _, fun c hc => Or.inr ⟨c, hc, rfl, Int.le_refl _⟩⟩
theorem EStep.grow {S S0 : Vst} {v : Vo} {cp : Int} (hcs : ∀ c ∈ S.cs, c ∈ S0.cs) (hnx : S.nx = S0.nx) (hr : Rise Ck.id S.cs) (hlt : ∀ c ∈ S.cs, c.id < S.nx) : EStep S0 (S.grow v cp) := by
  obtain ⟨g1, g2, g3⟩ := grow_vs S v cp
  have hg := growN_all (P := fun _ => True) (S := S) (id := v.id) (cp := cp) (lack v.bl v.ch) v.ch hr hlt (fun _ _ => trivial) (fun _ _ _ _ => trivial)
  refine ⟨by rw [g2, hnx]; omega, fun c' hc' => ?_⟩
  rcases hg.2.2.2.2.1 c' hc' with h | ⟨h, _⟩
  · exact Or.inr ⟨c', hcs c' h, rfl, Int.le_refl _⟩
  · exact Or.inl (by rw [← hnx]; exact h)
theorem EStep.turn {S : Vst} {k k' : Ck} (csr : Rise Ck.id S.cs) (hk : k ∈ S.cs) (e1 : k'.id = k.id) (e2 : k.ep ≤ k'.ep) : EStep S (S.turn k') := by
  refine ⟨Int.le_refl _, fun c hc => ?_⟩
  rcases (mem_ins csr).1 hc with rfl | ⟨hc, _⟩
  · exact Or.inr ⟨k, hk, e1.symm, by simp only []; omega⟩
  · exact Or.inr ⟨c, hc, rfl, Int.le_refl _⟩
theorem VOk.estep {S : Vst} {n : Nat} (ok : VOk S n) (q : Cmd) : EStep S (S.act q).1 := by
  have hlt : ∀ c ∈ S.cs, c.id < S.nx := fun c hc => (ok.csa c hc).2.1
  have hr := EStep.refl S
  unfold Vst.act
  split
  · unfold Vst.server
    split
    · exact hr
    · exact hr
  split
  · unfold Vst.create
    split
    · split
      · exact hr
      · split
        · exact hr
        · exact EStep.grow (fun c hc => hc) rfl ok.csr hlt
    · exact hr
  split
  · unfold Vst.remove
    split
    · exact hr
    · exact ⟨Int.le_refl _, fun c hc => Or.inr ⟨c, (mem_outs.1 hc).1, rfl, Int.le_refl _⟩⟩
  split
  · unfold Vst.resize
    split
    · split
      · exact hr
      · exact EStep.grow (fun c hc => (mem_outs.1 hc).1) rfl (outs_rise ok.csr) (fun c hc => hlt c (mem_outs.1 hc).1)
    · exact hr
  split
  · unfold Vst.policy
    split
    · split
      · exact hr
      · exact hr
    · exact hr
  split
  · unfold Vst.drop
    split
    · exact hr
    · rename_i k hk
      split
      · exact hr
      · split
        · exact hr
        · exact EStep.turn ok.csr (fd_some (at_ok hk).1).1 rfl (Int.le_refl _)
  split
  · unfold Vst.join
    split
    · exact hr
    · split
      · exact hr
      · rename_i k hk
        split
        · exact hr
        · split
          · exact hr
          · exact EStep.turn ok.csr (fd_some (at_ok hk).1).1 rfl (Int.le_refl _)
  split
  · unfold Vst.promote
    split
    · exact hr
    · rename_i k hk
      split
      · exact hr
      · exact EStep.turn ok.csr (fd_some (at_ok hk).1).1 rfl (Int.le_refl _)
  · exact hr
theorem apply_cases (S : Vst) (q : Cmd) : (S.apply q).1 = S ∨ ((S.apply q).1 = (S.act q).1 ∧ (S.act q).1.admits = true) := by
  unfold Vst.apply
  simp only []
  split
  · split
    · rename_i h
      exact Or.inr ⟨rfl, h⟩
    · exact Or.inl rfl
  · exact Or.inl rfl
theorem VOk.estepA {S : Vst} {n : Nat} (ok : VOk S n) (q : Cmd) : EStep S (S.apply q).1 := by
  rcases apply_cases S q with h | ⟨h, _⟩
  · rw [h]; exact EStep.refl S
  · rw [h]; exact ok.estep q
theorem admits_apply {S : Vst} (h : S.admits = true) (q : Cmd) : (S.apply q).1.admits = true := by
  rcases apply_cases S q with e | ⟨e, ha⟩
  · rw [e]; exact h
  · rw [e]; exact ha
/-- few numbers: small volumes alone -/
theorem nx_act {S : Vst} (q : Cmd) (hq : bigC q = false) : (S.act q).1.nx ≤ S.nx + 5 := by
  have hlk : ∀ bl : Int, ∀ ch : List Int, bl ≤ 40 → lack bl ch ≤ 5 := fun bl ch h => by unfold lack; omega
  have hb : (q.k = 2 ∨ q.k = 4) → q.b ≤ 512 → q.b ≤ 40 := fun hk h5 => by
    unfold bigC at hq
    rcases hk with h | h
    · rw [h] at hq
      simp at hq
      omega
    · rw [h] at hq
      simp at hq
      omega
  unfold Vst.act
  split
  · unfold Vst.server
    split <;> simp only [] <;> omega
  split
  · rename_i hk
    unfold Vst.create
    split
    · rename_i hc
      split
      · simp only []; omega
      · split
        · simp only []; omega
        · simp only []
          rw [(grow_vs _ _ _).2.1]
          have := hlk q.b [] (hb (Or.inl hk) hc.2.2.2.1)
          simp only []
          omega
    · simp only []; omega
  split
  · unfold Vst.remove
    split <;> simp only [] <;> omega
  split
  · rename_i hk
    unfold Vst.resize
    split
    · rename_i hc
      split
      · simp only []; omega
      · simp only []
        rw [(grow_vs _ _ _).2.1]
        rename_i v _
        have := hlk q.b (v.ch.take ((q.b + 7) / 8).toNat) (hb (Or.inr hk) hc.2)
        simp only []
        omega
    · simp only []; omega
  split
  · unfold Vst.policy
    split
    · split <;> simp only [] <;> omega
    · simp only []; omega
  split
  · unfold Vst.drop
    split
    · simp only []; omega
    · split
      · simp only []; omega
      · split
        · simp only []; omega
        · show S.nx ≤ S.nx + 5; omega
  split
  · unfold Vst.join
    split
    · simp only []; omega
    · split
      · simp only []; omega
      · split
        · simp only []; omega
        · split
          · simp only []; omega
          · show S.nx ≤ S.nx + 5; omega
  split
  · unfold Vst.promote
    split
    · simp only []; omega
    · split
      · simp only []; omega
      · show S.nx ≤ S.nx + 5; omega
  · simp only []; omega
theorem nx_apply {S : Vst} (q : Cmd) (hq : bigC q = false) : (S.apply q).1.nx ≤ S.nx + 5 := by
  rcases apply_cases S q with h | ⟨h, _⟩
  · rw [h]; omega
  · rw [h]; exact nx_act q hq
theorem grow_fd {S : Vst} {v : Vo} {cp : Int} (hr : Rise Vo.id S.vs) (a : Int) : fd Vo.id (S.grow v cp).vs a = if a = v.id then some { v with ch := v.ch ++ (List.range (lack v.bl v.ch)).map fun (i : Nat) => S.nx + (i : Int) } else fd Vo.id S.vs a := by
  rw [(grow_vs S v cp).2.2, fd_ins hr]
/-- versions never fall, but for a volume that is deleted -/
theorem ver_act {S : Vst} {n : Nat} (ok : VOk S n) (q : Cmd) (a : Int) {v v' : Vo} (h : fd Vo.id S.vs a = some v) (h' : fd Vo.id (S.act q).1.vs a = some v') (hk3 : q.k ≠ 3) : v.ver ≤ v'.ver := by
  have hr : fd Vo.id S.vs a = some v' → v.ver ≤ v'.ver := fun e => by
    rw [h] at e
    injection e with e
    rw [e]; exact Int.le_refl _
  unfold Vst.act at h'
  split at h'
  · unfold Vst.server at h'
    split at h' <;> exact hr h'
  split at h'
  · unfold Vst.create at h'
    split at h'
    · split at h'
      · exact hr h'
      · rename_i hnone
        split at h'
        · exact hr h'
        · simp only [] at h'
          rw [grow_fd ok.vsr] at h'
          split at h'
          · rename_i e
            simp only [] at e
            rw [← e, h] at hnone
            simp at hnone
          · exact hr h'
    · exact hr h'
  split at h'
  · unfold Vst.resize at h'
    split at h'
    · split at h'
      · exact hr h'
      · rename_i u hu
        simp only [] at h'
        rw [grow_fd (S := { S with cs := outs S.cs (u.ch.drop ((q.b + 7) / 8).toNat) }) ok.vsr] at h'
        split at h'
        · rename_i e
          simp only [] at e
          injection h' with h'
          rw [← h']
          have h2 := (fd_some hu).2
          rw [e, h2, hu] at h
          injection h with h
          rw [h]
          exact Int.le_refl _
        · exact hr h'
    · exact hr h'
  split at h'
  · unfold Vst.policy at h'
    split at h'
    · split at h'
      · exact hr h'
      · rename_i u hu
        simp only [] at h'
        rw [fd_ins ok.vsr] at h'
        split at h'
        · rename_i e
          simp only [] at e
          injection h' with h'
          rw [← h']
          have h2 := (fd_some hu).2
          rw [e, h2, hu] at h
          injection h with h
          rw [h]
          simp only []
          omega
        · exact hr h'
    · exact hr h'
  split at h'
  · unfold Vst.drop at h'
    split at h'
    · exact hr h'
    · split at h'
      · exact hr h'
      · split at h'
        · exact hr h'
        · exact hr h'
  split at h'
  · unfold Vst.join at h'
    split at h'
    · exact hr h'
    · split at h'
      · exact hr h'
      · split at h'
        · exact hr h'
        · split at h'
          · exact hr h'
          · exact hr h'
  split at h'
  · unfold Vst.promote at h'
    split at h'
    · exact hr h'
    · split at h'
      · exact hr h'
      · exact hr h'
  · exact hr h'
theorem ver_apply {S : Vst} {n : Nat} (ok : VOk S n) (q : Cmd) (a : Int) {v v' : Vo} (h : fd Vo.id S.vs a = some v) (h' : fd Vo.id (S.apply q).1.vs a = some v') (hk3 : q.k ≠ 3) : v.ver ≤ v'.ver := by
  rcases apply_cases S q with e | ⟨e, _⟩
  · rw [e, h] at h'
    injection h' with h'
    rw [h']; exact Int.le_refl _
  · rw [e] at h'
    exact ver_act ok q a h h' hk3
/-- epochs as they were last seen -/
def EpOk (S : Vst) (L : List Int) : Prop := L.length = 200 ∧ (∀ c ∈ S.cs, L.getD c.id.toNat 0 ≤ c.ep) ∧ ∀ i : Nat, S.nx ≤ i → L.getD i 0 = 0
theorem EpOk.start : EpOk ⟨[], [], [], 1⟩ (List.replicate 200 0) := ⟨List.length_replicate, (fun c hc => by cases hc), fun i _ => by
  rw [List.getD_eq_getElem?_getD, List.getElem?_replicate]
  split <;> rfl⟩
theorem EpOk.apply {S : Vst} {L : List Int} {n : Nat} (h : EpOk S L) (ok : VOk S n) (hn : n ≤ 1000) (q : Cmd) : EpOk (S.apply q).1 L := by
  obtain ⟨h1, h2, h3⟩ := h
  obtain ⟨e1, e2⟩ := ok.estepA q
  have ok' := ok.apply hn q
  refine ⟨h1, fun c' hc' => ?_, fun i hi => h3 i (by omega)⟩
  have hc := ok'.csa c' hc'
  rcases e2 c' hc' with h4 | ⟨c, hc0, h4, h5⟩
  · rw [h3 _ (by omega)]; omega
  · have := h2 c hc0
    rw [h4] at this
    omega
theorem EpOk.set {S : Vst} {L : List Int} {n : Nat} (h : EpOk S L) (ok : VOk S n) {c : Ck} (hc : c ∈ S.cs) (hlt : c.id < 200) : EpOk S (L.set c.id.toNat c.ep) := by
  obtain ⟨h1, h2, h3⟩ := h
  have hci := ok.csa c hc
  refine ⟨by rw [List.length_set]; exact h1, fun c' hc' => ?_, fun i hi => ?_⟩
  · have hci' := ok.csa c' hc'
    by_cases e : c'.id = c.id
    · have : c' = c := ok.csr.inj hc' hc e
      subst this
      rw [List.getD_eq_getElem?_getD, List.getElem?_set_self (by omega)]
      exact Int.le_refl _
    · rw [List.getD_eq_getElem?_getD, List.getElem?_set_ne (by omega), ← List.getD_eq_getElem?_getD]
      exact h2 c' hc'
  · rw [List.getD_eq_getElem?_getD, List.getElem?_set_ne (by omega), ← List.getD_eq_getElem?_getD]
    exact h3 i hi
end Go.Proofs.Ytcgecalbgkkinaa
