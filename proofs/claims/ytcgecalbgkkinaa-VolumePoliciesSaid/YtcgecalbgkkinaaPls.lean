/- VolumePolicies plainly: one server, one volume, its policy. -/
import Derived.Test.YtcgecalbgkkinaaGrw
namespace Go.Proofs.Ytcgecalbgkkinaa
open Go.RowKit Go.Proofs Go.Maps
set_option linter.unusedVariables false

structure PS (S : Vst) (v : Vo) : Prop where
  sv : S.sv = [((0 : Int), (2 : Int))]
  vs : S.vs = [v]
  id : v.id = 9
  any : (v.ch.any fun k => hasAt S.cs k 0) = true
theorem PS.pol {S : Vst} {v : Vo} (h : PS S v) : S.polOf 0 = [v.p] := by
  unfold Vst.polOf
  rw [h.vs, List.filter_cons, if_pos h.any]
  rfl
theorem PS.adm {S : Vst} {v : Vo} (h : PS S v) : S.admits = Go.Proofs.Ytcgecalbgkkinaa.admits 2 [v.p] := by
  unfold Vst.admits
  rw [h.sv]
  simp only [List.all_cons, List.all_nil, Bool.and_true]
  rw [h.pol]
theorem admits_ok {c : Int} {p : Pol} (h : Go.Proofs.Ytcgecalbgkkinaa.admits c [p] = true) : p.ok = true := by
  simp [Go.Proofs.Ytcgecalbgkkinaa.admits] at h
  grind
theorem PS.step {S : Vst} {v : Vo} (h : PS S v) (p : Pol) :
    (Go.Proofs.Ytcgecalbgkkinaa.admits 2 [p] = true ∧ ∃ S', S.apply ⟨5, 9, 0, 0, p⟩ = (S', 0) ∧ PS S' { v with p := p, ver := v.ver + 1 }) ∨ (Go.Proofs.Ytcgecalbgkkinaa.admits 2 [p] = false ∧ ∃ z, z ≠ 0 ∧ S.apply ⟨5, 9, 0, 0, p⟩ = (S, z)) := by
  have hfd : fd Vo.id S.vs 9 = some v := by
    rw [h.vs, fd_cons, if_pos h.id]
  have hact : S.act ⟨5, 9, 0, 0, p⟩ = S.policy ⟨5, 9, 0, 0, p⟩ := by
    unfold Vst.act
    simp only []
    rw [if_neg (show ¬ (5 : Int) = 1 by decide), if_neg (show ¬ (5 : Int) = 2 by decide), if_neg (show ¬ (5 : Int) = 3 by decide), if_neg (show ¬ (5 : Int) = 4 by decide), if_pos trivial]
  by_cases hok : p.ok = true
  · have hp : S.policy ⟨5, 9, 0, 0, p⟩ = ({ S with vs := [{ v with p := p, ver := v.ver + 1 }] }, 0) := by
      unfold Vst.policy
      simp only []
      rw [if_pos hok, hfd]
      simp only []
      rw [h.vs]
      simp [ins]
    have hS : PS { S with vs := [{ v with p := p, ver := v.ver + 1 }] } { v with p := p, ver := v.ver + 1 } := ⟨h.sv, rfl, h.id, h.any⟩
    cases ha : Go.Proofs.Ytcgecalbgkkinaa.admits 2 [p] with
    | true =>
      refine Or.inl ⟨rfl, _, apply_ok (hact.trans hp) (by rw [hS.adm]; exact ha), hS⟩
    | false =>
      refine Or.inr ⟨rfl, 14, by decide, ?_⟩
      unfold Vst.apply
      rw [hact, hp]
      simp only []
      rw [hS.adm]
      simp only [ha]
      rfl
  · refine Or.inr ⟨?_, 1, by decide, ?_⟩
    · cases ha : Go.Proofs.Ytcgecalbgkkinaa.admits 2 [p] with
      | true => exact absurd (admits_ok ha) hok
      | false => rfl
    · have hp : S.policy ⟨5, 9, 0, 0, p⟩ = (S, 1) := by
        unfold Vst.policy
        simp only []
        rw [if_neg hok]
      unfold Vst.apply
      rw [hact, hp]
      rfl
def s1 : Vst := ⟨[((0 : Int), (2 : Int))], [], [], 1⟩
theorem pls_a : Vst.apply ⟨[], [], [], 1⟩ ⟨1, 0, 2, 0, ⟨0, 0, 0, 0⟩⟩ = (s1, 0) := by
  have h : Vst.act ⟨[], [], [], 1⟩ ⟨1, 0, 2, 0, ⟨0, 0, 0, 0⟩⟩ = (s1, 0) := by simp [Vst.act, Vst.server, ins, s1]
  exact apply_ok h (by decide)
theorem pls_b (n : Int) (h1 : 1 ≤ n) (h2 : n ≤ 60) : ∃ S v, s1.apply ⟨2, 9, n, 1, ⟨0, 1, 0, 0⟩⟩ = (S, 0) ∧ PS S v := by
  have hp : (⟨0, 1, 0, 0⟩ : Pol).ok = true := by decide
  obtain ⟨e1, e2, e3⟩ := grow_vs s1 ⟨9, n, ⟨0, 1, 0, 0⟩, 1, []⟩ 1
  have hact : s1.act ⟨2, 9, n, 1, ⟨0, 1, 0, 0⟩⟩ = (s1.grow ⟨9, n, ⟨0, 1, 0, 0⟩, 1, []⟩ 1, 0) := by
    unfold Vst.act
    simp only []
    rw [if_neg (show ¬ (2 : Int) = 1 by decide), if_pos trivial]
    unfold Vst.create
    simp only []
    rw [if_pos ⟨by decide, by decide, h1, by omega, by decide, by decide, hp⟩]
    rfl
  have hl : 0 < lack n [] := by simp [lack]; omega
  have hg := growN_all (P := fun c => c.me = [0]) (S := s1) (id := 9) (cp := 1) (lack n []) [] (by simp [s1, Rise]) (by simp [s1]) (by simp [s1]) (fun X hX _ _ => by
    have hls : X.loads = [⟨0, X.cnt 0⟩] := by unfold Vst.loads; rw [hX]; rfl
    have hm : min (1 : Int) (s1.sv.length : Int) = 1 := by decide
    rw [hm, hls, chosen_one])
  obtain ⟨r1, _, r3, _, _, r6⟩ := hg
  have hvs : (s1.grow ⟨9, n, ⟨0, 1, 0, 0⟩, 1, []⟩ 1).vs = [⟨9, n, ⟨0, 1, 0, 0⟩, 1, (List.range (lack n [])).map fun (i : Nat) => s1.nx + (i : Int)⟩] := by rw [e3]; rfl
  have hany : (((List.range (lack n [])).map fun (i : Nat) => s1.nx + (i : Int)).any fun k => hasAt (s1.grow ⟨9, n, ⟨0, 1, 0, 0⟩, 1, []⟩ 1).cs k 0) = true := by
    rw [List.any_eq_true]
    obtain ⟨c, hc, h3, _⟩ := r6 s1.nx (Int.le_refl _) (by omega)
    refine ⟨s1.nx, List.mem_map.2 ⟨0, List.mem_range.2 hl, by simp⟩, ?_⟩
    have hcs : (s1.grow ⟨9, n, ⟨0, 1, 0, 0⟩, 1, []⟩ 1).cs = (growN (lack n []) s1 9 [] 1).1.cs := rfl
    unfold hasAt
    rw [hcs, ← h3, fd_mem r1 hc]
    simp [Ck.has, r3 c hc]
  have hps : PS (s1.grow ⟨9, n, ⟨0, 1, 0, 0⟩, 1, []⟩ 1) ⟨9, n, ⟨0, 1, 0, 0⟩, 1, (List.range (lack n [])).map fun (i : Nat) => s1.nx + (i : Int)⟩ := ⟨e1, hvs, rfl, hany⟩
  refine ⟨_, _, apply_ok hact ?_, hps⟩
  rw [hps.adm]
  show Go.Proofs.Ytcgecalbgkkinaa.admits 2 [⟨0, 1, 0, 0⟩] = true
  decide
end Go.Proofs.Ytcgecalbgkkinaa
