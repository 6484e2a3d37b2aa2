/- One text of: Mt Mx My. -/
import Derived.Test.YtcahcjfgmdpdoaaGreatQNp
import Derived.Test.YtcahcjfgmdpdoaaGreatQNq
import Derived.Test.YtcahcjfgmdpdoaaGreatQMA
import Derived.Test.YtcahcjfgmdpdoaaGreatQBY
set_option maxHeartbeats 2000000
set_option maxRecDepth 100000
namespace Go.Proofs.YtcahcjfgmdpdoaaGreat
open Go.RowKit Go.Proofs Go.Maps
set_option linter.unusedVariables false
set_option linter.unusedSimpArgs false

def VX (V : Vlt) (k : Nat) : Prop := V.Well k k ∧ V.D.l.length = 512
theorem VX.put {V : Vlt} {k : Nat} (h : VX V k) (hk : k ≤ 12) (key : Nat) (hkey : key ≤ 1000000) (b : List Nat) (hb : b.length ≤ 900) (hbb : ∀ x ∈ b, x < 256) : (V.put (key : Int) b).1 = 0 ∧ VX (V.put (key : Int) b).2 (k + 1) := by
 have := h.1.put (by rw [h.2]; omega) (by omega) key (by omega) b hb hbb
 exact ⟨this.1, this.2.1, this.2.2.trans h.2⟩
theorem Nd.put_vx {N : Nd} {k : Nat} (hd : N.dead = false) (h : VX N.V k) (hk : k ≤ 12) (key : Nat) (hkey : key ≤ 1000000) (b : List Nat) (hb : b.length ≤ 900) (hbb : ∀ x ∈ b, x < 256) : N.put (key : Int) b = { N with V := (N.V.put (key : Int) b).2 } ∧ VX (N.V.put (key : Int) b).2 (k + 1) := by
 obtain ⟨h1, h2⟩ := h.put hk key hkey b hb hbb
 refine ⟨?_, h2⟩
 unfold Nd.put; rw [if_neg (by simp [hd]), h1]
 cases N
 simp only at hd; subst hd
 rfl
structure M0 (k : Nat) (N : Nd) : Prop where
 dead : N.dead = false
 role : N.role = 0
 quiet : N.quiet = k
 beats : N.beats = 0
 id : N.id = 0
 sm : N.sm = [0]
 L : N.L = []
 bt : N.bt = 0
 com : N.commit = 0
 told : N.told = 0
 next : N.next = noF
 V : VX N.V 1
structure M2 (j : Nat) (t : Int) (Z : List Con) (N : Nd) : Prop where
 dead : N.dead = false
 role : N.role = 2
 quiet : N.quiet = 0
 beats : 0 ≤ N.beats ∧ N.beats ≤ j
 id : N.id = 0
 sm : N.sm = [0]
 L : N.L = Z
 bt : N.bt = 1
 com : N.commit = Z.length
 told : N.told = t
 next : 0 ≤ (N.next 0).getD 0 ∧ (N.next 0).getD 0 ≤ 1000
 mat : N.mat 0 = some (Z.length : Int)
 V : VX N.V (Z.length + 2)
theorem first_X : VX (Vlt.first 512) 0 := ⟨Vlt.first_well (by omega) (by omega), List.length_replicate ..⟩
theorem sbytes_0 : (sbytes 0 0 [0] []).length ≤ 900 ∧ ∀ x ∈ sbytes 0 0 [0] [], x < 256 := by
 have hq := qbytes_len (l := [0]) (by simp) (by intro x hx; rw [List.mem_singleton.1 hx]; omega); have e1 := enc_len9 (n := 0) (by omega); have e2 := enc_len9 (n := (qbytes [0]).length) (by omega)
 refine ⟨by unfold sbytes encT; simp only [List.length_append, List.length_nil]; omega, fun x hx => ?_⟩
 unfold sbytes encT at hx; simp only [List.mem_append, List.not_mem_nil, or_false] at hx
 rcases hx with ((hx | hx) | (hx | hx)) | hx
 ·exact enc_byte _ x hx
 ·exact enc_byte _ x hx
 ·exact enc_byte _ x hx
 ·exact hq.2 x hx
 ·exact enc_byte _ x hx
theorem new_M0 : M0 0 (Nd.new 0 (Vlt.first 512) [0]) := by
 have h := Nd.put_vx (N := { id := 0, V := Vlt.first 512, dead := false, bt := 0, bv := -1, sm := [0], L := [], commit := 0, told := 0, role := 0, leader := -1, quiet := 0, beats := 0, votes := [], next := noF, mat := noF }) rfl first_X (by omega) 1 (by omega) (sbytes 0 0 [0] []) sbytes_0.1 sbytes_0.2; have e : Nd.new 0 (Vlt.first 512) [0] = _ := h.1; rw [e]
 exact ⟨rfl, rfl, rfl, rfl, rfl, rfl, rfl, rfl, rfl, rfl, rfl, h.2⟩
theorem M0.wait {k : Nat} {N : Nd} (h : M0 k N) (hk : k < 12) : M0 (k + 1) N.tick := by
 have e : N.tick = N.wait := by
  unfold Nd.tick; rw [if_neg (by simp [h.dead]), if_neg (by rw [h.role]; omega), if_neg (by rw [h.id]; show ¬ _ < N.quiet + 1; rw [h.quiet]; omega)]
 rw [e]
 exact ⟨h.dead, h.role, by show N.quiet + 1 = _; rw [h.quiet]; omega, h.beats, h.id, h.sm, h.L, h.bt, h.com, h.told, h.next, h.V⟩
theorem bbytes_10 : (bbytes 1 0).length ≤ 900 ∧ ∀ x ∈ bbytes 1 0, x < 256 := by
 have h := bbytes_ok (t := 1) (v := 0) (by omega) (by omega)
 exact ⟨by omega, h.2⟩
theorem ebytes_10 : (ebytes 1 0 []).length ≤ 900 ∧ ∀ x ∈ ebytes 1 0 [], x < 256 := by
 have h := ebytes_ok (t := 1) (k := 0) (b := []) (by omega) (by omega) (by simp) (by simp)
 exact ⟨by have := h.1; simp only [List.length_nil] at this; omega, h.2⟩
theorem M0.lead {N : Nd} (h : M0 12 N) : M2 0 0 [(1, 0, bi [])] N.tick := by
 obtain ⟨id, V, dead, bt, bv, sm, L, commit, told, role, leader, quiet, beats, votes, next, mat⟩ := N; obtain ⟨h1, h2, h3, hbe, h4, h5, h6, h7, h8, h9, h10, h11⟩ := h; simp only at h1 h2 h3 h4 h5 h6 h7 h8 h9 h10 h11; subst h1 h2 h3 h4 h5 h6 h7 h8 h9 h10; obtain ⟨N, hN⟩ : ∃ N, ({ id := 0, V := V, dead := false, bt := 0, bv := bv, sm := [0], L := [], commit := 0, told := 0, role := 0, leader := leader, quiet := ((12 : Nat) : Int), beats := beats, votes := votes, next := noF, mat := mat } : Nd) = N := ⟨_, rfl⟩; rw [hN]
 have e : N.tick = N.wait.stand := by
  unfold Nd.tick; rw [← hN, if_neg (by simp), if_neg (by simp), if_pos (by show (12 : Int) + 7 * 0 < ((12 : Nat) : Int) + 1; omega)]
 rw [e]; have w1 := Nd.put_vx (N := N.wait.still.seeB 1 0) (k := 1) (by rw [← hN]; rfl) (by rw [← hN]; exact h11) (by omega) 0 (by omega) (bbytes 1 0) bbytes_10.1 bbytes_10.2
 have ew : N.wait.wish = (N.wait.still.seeB 1 0).put ((0 : Nat) : Int) (bbytes 1 0) := by
  unfold Nd.wish Nd.keepB; rw [← hN, if_neg (by show ¬ ((0 : Int) + 1 = 0 ∧ _); omega)]
  rfl
 rw [w1.1] at ew
 have ed : N.wait.wish.dead = false := by rw [ew, ← hN]; rfl
 unfold Nd.stand; rw [if_neg (by simp [ed])]; obtain ⟨V1, hV1⟩ : ∃ V1, ((N.wait.still.seeB 1 0).V.put ((0 : Nat) : Int) (bbytes 1 0)).2 = V1 := ⟨_, rfl⟩; rw [hV1] at w1 ew; have hw1 := w1.2; obtain ⟨M, hM⟩ : ∃ M, N.wait.wish.cand = M := ⟨_, rfl⟩; rw [hM]
 have hMe : M = { id := 0, V := V1, dead := false, bt := 1, bv := 0, sm := [0], L := [], commit := 0, told := 0, role := 1, leader := -1, quiet := 0, beats := beats, votes := [0], next := noF, mat := mat } := by
  rw [← hM, ew, ← hN]
  rfl
 clear w1 ew ed hM e hN h11 hV1; subst hMe; have w2 := Nd.put_vx (N := { id := 0, V := V1, dead := false, bt := 1, bv := 0, sm := [0], L := [(1, 0, bi [])], commit := 0, told := 0, role := 2, leader := 0, quiet := 0, beats := 0, votes := [0], next := noF, mat := noF }) (k := 2) rfl hw1 (by omega) 1001 (by omega) (ebytes 1 0 []) ebytes_10.1 ebytes_10.2; obtain ⟨V2, hV2⟩ : ∃ V2, (V1.put ((1001 : Nat) : Int) (ebytes 1 0 [])).2 = V2 := ⟨_, rfl⟩; simp only [hV2] at w2
 have ep : Nd.pushE (Nd.lead0 { id := 0, V := V1, dead := false, bt := 1, bv := 0, sm := [0], L := [], commit := 0, told := 0, role := 1, leader := -1, quiet := 0, beats := beats, votes := [0], next := noF, mat := mat }) 0 [] = { id := 0, V := V2, dead := false, bt := 1, bv := 0, sm := [0], L := [(1, 0, bi [])], commit := 0, told := 0, role := 2, leader := 0, quiet := 0, beats := 0, votes := [0], next := noF, mat := upd noF 0 (some 1) } := by
  have e2 : ({ id := 0, V := V1, dead := false, bt := 1, bv := 0, sm := [0], L := [(1, 0, bi [])], commit := 0, told := 0, role := 2, leader := 0, quiet := 0, beats := 0, votes := [0], next := noF, mat := noF } : Nd).put (1000 + (([] : List Con).length + 1 : Nat)) (ebytes (1 : Int).toNat 0 []) = _ := w2.1; unfold Nd.pushE Nd.lead0; simp only [List.nil_append]; rw [show ((0 : Nat) : Int) = 0 from rfl]; rw [e2]
  rfl
 unfold Nd.lead; rw [ep]
 have hset : (Nd.hand { id := 0, V := V2, dead := false, bt := 1, bv := 0, sm := [0], L := [(1, 0, bi [])], commit := 0, told := 0, role := 2, leader := 0, quiet := 0, beats := 0, votes := [0], next := noF, mat := upd noF 0 (some 1) }).settle = { id := 0, V := V2, dead := false, bt := 1, bv := 0, sm := [0], L := [(1, 0, bi [])], commit := 1, told := 0, role := 2, leader := 0, quiet := 0, beats := 0, votes := [0], next := upd noF 0 (some 1), mat := upd noF 0 (some 1) } := by
  rfl
 rw [hset]
 exact ⟨rfl, rfl, rfl, ⟨Int.le_refl _, Int.le_refl _⟩, rfl, rfl, rfl, rfl, rfl, rfl, ⟨by simp [upd_same], by simp [upd_same]⟩, by exact upd_same noF 0 (some 1), w2.2⟩
theorem Nd.at_up (N : Nd) : N.at_ ≤ N.L.length + 1 := by
 unfold Nd.at_; simp only []
 split <;> omega
theorem M2.beat {j : Nat} {t : Int} {L : List Con} {N : Nd} (h : M2 j t L N) (hl : L.length ≤ 900) : M2 (j + 1) t L N.tick := by
 have hb : M2 (j + 1) t L N.beat := ⟨h.dead, h.role, h.quiet, by show 0 ≤ N.beats + 1 ∧ N.beats + 1 ≤ _; have := h.beats; omega, h.id, h.sm, h.L, h.bt, h.com, h.told, h.next, h.mat, h.V⟩; unfold Nd.tick; rw [if_neg (by simp [h.dead]), if_pos h.role]
 split
 ·refine ⟨hb.dead, hb.role, hb.quiet, hb.beats, hb.id, hb.sm, hb.L, hb.bt, hb.com, hb.told, ?_, hb.mat, hb.V⟩
  have ha := N.beat.at_up; rw [hb.L] at ha
  show 0 ≤ ((upd N.beat.next N.beat.id (some (N.beat.at_ : Int))) 0).getD 0 ∧ ((upd N.beat.next N.beat.id (some (N.beat.at_ : Int))) 0).getD 0 ≤ 1000
  rw [hb.id, upd_same]; simp only [Option.getD_some]
  omega
 ·exact hb
theorem M2.tell {j : Nat} {t : Int} {L : List Con} {N : Nd} (h : M2 j t L N) (k : Int) : M2 j k L (N.tell k) := ⟨h.dead, h.role, h.quiet, h.beats, h.id, h.sm, h.L, h.bt, h.com, rfl, h.next, h.mat, h.V⟩
theorem M0.tell {k : Nat} {N : Nd} (h : M0 k N) : N.tell ((0 : Nat) : Int) = N := by
 unfold Nd.tell; have := h.told
 cases N
 simp only at this; subst this
 rfl
theorem M2.prop {j : Nat} {t : Int} {L : List Con} {N : Nd} (h : M2 j t L N) (hl : L.length ≤ 8) {b : List Nat} (hb : b.length ≤ 700) (hbb : ∀ x ∈ b, x < 256) : M2 j t (L ++ [(1, 1, bi b)]) (N.prop b) := by
 obtain ⟨id, V, dead, bt, bv, sm, L', commit, told, role, leader, quiet, beats, votes, next, mat⟩ := N; obtain ⟨h1, h2, h3, hbe, h4, h5, h6, h7, h8, h9, h10, h11, h12⟩ := h; simp only at h1 h2 h3 hbe h4 h5 h6 h7 h8 h9 h10 h11 h12; subst h1 h2 h3 h4 h5 h6 h7 h8 h9; have hy := ebytes_ok (t := 1) (k := 1) (b := b) (by omega) (by omega) hbb (by omega); have w2 := Nd.put_vx (N := { id := 0, V := V, dead := false, bt := 1, bv := bv, sm := [0], L := L' ++ [(1, 1, bi b)], commit := L'.length, told := told, role := 2, leader := leader, quiet := 0, beats := beats, votes := votes, next := next, mat := mat }) (k := L'.length + 2) rfl h12 (by omega) (1000 + (L'.length + 1)) (by omega) (ebytes 1 1 b) (by omega) hy.2; obtain ⟨V2, hV2⟩ : ∃ V2, (V.put ((1000 + (L'.length + 1) : Nat) : Int) (ebytes 1 1 b)).2 = V2 := ⟨_, rfl⟩; simp only [hV2] at w2
 have ep : Nd.pushE { id := 0, V := V, dead := false, bt := 1, bv := bv, sm := [0], L := L', commit := L'.length, told := told, role := 2, leader := leader, quiet := 0, beats := beats, votes := votes, next := next, mat := mat } 1 b = { id := 0, V := V2, dead := false, bt := 1, bv := bv, sm := [0], L := L' ++ [(1, 1, bi b)], commit := L'.length, told := told, role := 2, leader := leader, quiet := 0, beats := beats, votes := votes, next := next, mat := upd mat 0 (some (L'.length + 1 : Nat)) } := by
  unfold Nd.pushE; simp only []; have e2 : ({ id := 0, V := V, dead := false, bt := 1, bv := bv, sm := [0], L := L' ++ [(1, ((1 : Nat) : Int), bi b)], commit := L'.length, told := told, role := 2, leader := leader, quiet := 0, beats := beats, votes := votes, next := next, mat := mat } : Nd).put (1000 + (L'.length + 1 : Nat)) (ebytes (1 : Int).toNat 1 b) = _ := w2.1; rw [e2]
  rfl
 unfold Nd.prop; rw [ep]; obtain ⟨M, hM⟩ : ∃ M, (Nd.hand { id := 0, V := V2, dead := false, bt := 1, bv := bv, sm := [0], L := L' ++ [(1, 1, bi b)], commit := L'.length, told := told, role := 2, leader := leader, quiet := 0, beats := beats, votes := votes, next := next, mat := upd mat 0 (some (L'.length + 1 : Nat)) }) = M := ⟨_, rfl⟩; have hat := Nd.at_up { id := 0, V := V2, dead := false, bt := 1, bv := bv, sm := [0], L := L' ++ [(1, 1, bi b)], commit := L'.length, told := told, role := 2, leader := leader, quiet := 0, beats := beats, votes := votes, next := next, mat := upd mat 0 (some (L'.length + 1 : Nat)) }; rw [hM]; have hup : (upd mat 0 (some ((L'.length + 1 : Nat) : Int))) 0 = some ((L'.length + 1 : Nat) : Int) := upd_same mat 0 _
 have hm : M.mat 0 = some ((L'.length + 1 : Nat) : Int) := by rw [← hM]; exact hup
 have hse : M.settle = { M with commit := ((L'.length + 1 : Nat) : Int) } := by
  have g1 : M.role = 2 ∧ M.dead = false ∧ M.id = 0 ∧ M.L = L' ++ [(1, 1, bi b)] ∧ M.bt = 1 ∧ M.commit = L'.length := by rw [← hM]; exact ⟨rfl, rfl, rfl, rfl, rfl, rfl⟩
  unfold Nd.settle; rw [if_neg (by rw [g1.1, g1.2.1]; simp), g1.2.2.1, hm, g1.2.2.2.1, g1.2.2.2.2.1, g1.2.2.2.2.2]; rw [if_pos]
  ·rfl
  ·refine ⟨?_, by simp only [Option.getD_some]; omega⟩
   rw [Option.getD_some, Int.toNat_natCast]; unfold termC
   simp
 rw [hse]
 have hlen : (L' ++ [((1 : Int), (1 : Int), bi b)]).length = L'.length + 1 := by simp
 rw [← hM]
 refine ⟨rfl, rfl, rfl, hbe, rfl, rfl, rfl, rfl, by rw [hlen], rfl, ?_, by rw [hlen]; exact hup, by rw [hlen]; exact w2.2⟩
 show 0 ≤ ((upd next 0 (some (Nd.at_ _ : Int))) 0).getD 0 ∧ ((upd next 0 (some (Nd.at_ _ : Int))) 0).getD 0 ≤ 1000
 rw [upd_same]; simp only [Option.getD_some]; rw [hlen] at hat
 omega
theorem M0.solo {k : Nat} {N : Nd} (h : M0 k N) : Solo N := by
 refine ⟨by rw [h.sm, h.id], by rw [h.id]; omega, ?_, by rw [h.L]; simp, by rw [h.next]; simp [noF], by rw [h.bt]; omega, by rw [h.com]; omega⟩
 rw [h.L]
 intro c hc
 cases hc
theorem M2.solo {j : Nat} {t : Int} {L : List Con} {N : Nd} (h : M2 j t L N) (hl : L.length ≤ 900) (hc : ConOk L) : Solo N :=
 ⟨by rw [h.sm, h.id], by rw [h.id]; omega, by rw [h.L]; exact hc, by rw [h.L]; omega, by rw [h.id]; have := h.next; omega, by rw [h.bt]; omega, by rw [h.com]; omega⟩
theorem M2.matOk {j : Nat} {t : Int} {L : List Con} {N : Nd} (h : M2 j t L N) : MatOk N := by
 unfold MatOk; rw [h.id, h.mat, h.L]
 simp

def NS (k t : Nat) (Z : List Con) (N : Nd) : Prop := (Z = [] ∧ k ≤ 12 ∧ t = 0 ∧ M0 k N) ∨ (1 ≤ Z.length ∧ M2 k (t : Int) Z N)
def MS (W w : World) (mb sb : Nat) (G : List Nat) (k : Nat) (Z : List Con) (S : Vst) (R : Int → Option Value) (n : Nat) : Prop :=
 ∃ rb nb F N cr, MP w mb rb sb nb G F N S n (Z.length : Nat) cr R ∧ (∀ x ∈ mb :: rb :: sb :: F, W.heap.size ≤ x) ∧ Below W.heap.size W w ∧ NS k Z.length Z N
section
variable {W w w' : World} {mb rb sb nb n cr k t : Nat} {G F : List Nat} {N : Nd} {Z Z' : List Con} {S : Vst} {R : Int → Option Value}
theorem NS.L (h : NS k t Z N) : N.L = Z := by
 rcases h with ⟨rfl, _, _, h⟩ | ⟨_, h⟩
 ·exact h.L
 ·exact h.L
theorem NS.V (h : NS k t Z N) : VX N.V (if Z = [] then 1 else Z.length + 2) := by
 rcases h with ⟨rfl, _, _, h⟩ | ⟨h1, h⟩
 ·exact h.V
 ·rw [if_neg (by intro e; rw [e] at h1; simp at h1)]; exact h.V
theorem NS.told (h : NS k t Z N) : N.told = (t : Int) ∧ N.commit = (N.L.length : Int) := by
 rcases h with ⟨rfl, _, rfl, h⟩ | ⟨_, h⟩
 ·rw [h.L]; exact ⟨h.told, h.com⟩
 ·rw [h.L]; exact ⟨h.told, h.com⟩
theorem NS.tell (h : NS k t Z N) : NS k Z.length Z (N.tell (N.L.length : Nat)) := by
 rcases h with ⟨rfl, h1, _, h⟩ | ⟨h1, h⟩
 ·refine Or.inl ⟨rfl, h1, rfl, ?_⟩
  rw [h.L]
  exact h.tell ▸ h
 ·refine Or.inr ⟨h1, ?_⟩
  rw [h.L]
  exact h.tell _
def tickZ (k : Nat) (Z : List Con) : List Con := if Z = [] ∧ k = 12 then [(1, 0, bi [])] else Z
def tickK (k : Nat) (Z : List Con) : Nat := if Z = [] ∧ k = 12 then 0 else k + 1
theorem NS.tick (h : NS k t Z N) (hZ : Z.length ≤ 900) : NS (tickK k Z) t (tickZ k Z) N.tick := by
 unfold tickK tickZ
 rcases h with ⟨rfl, h1, rfl, h⟩ | ⟨h1, h⟩
 ·by_cases hk : k = 12
  ·subst hk
   rw [if_pos ⟨rfl, rfl⟩, if_pos ⟨rfl, rfl⟩]
   exact Or.inr ⟨by simp, h.lead⟩
  ·rw [if_neg (fun e => hk e.2), if_neg (fun e => hk e.2)]
   exact Or.inl ⟨rfl, by omega, rfl, h.wait (by omega)⟩
 ·have hne : ¬ (Z = [] ∧ k = 12) := fun e => by rw [e.1] at h1; simp at h1
  rw [if_neg hne, if_neg hne]
  exact Or.inr ⟨h1, h.beat hZ⟩
theorem NS.pre (h : NS k t Z N) (hk : ConOk Z) (hZ : Z.length ≤ 900) (hkk : k ≤ 1000) : Solo N ∧ N.L.length ≤ 900 ∧ (N.role = 2 → 1 ≤ N.L.length) ∧ N.bt < 2 ^ 57 ∧ (0 ≤ N.quiet ∧ N.quiet ≤ 1000000) ∧ (0 ≤ N.beats ∧ N.beats ≤ 1000000) := by
 rw [h.L]
 rcases h with ⟨rfl, h1, _, h⟩ | ⟨h1, h⟩
 ·exact ⟨h.solo, by simp, fun e => by rw [h.role] at e; omega, by rw [h.bt]; omega, by rw [h.quiet]; omega, by rw [h.beats]; omega⟩
 ·exact ⟨h.solo hZ hk, hZ, fun _ => h1, by rw [h.bt]; omega, by rw [h.quiet]; omega, by have := h.beats; omega⟩
theorem tickZ_ok (hk : ConOk Z) : ConOk (tickZ k Z) := by
 unfold tickZ
 split
 ·intro c hc
  rw [List.mem_singleton.1 hc]
  exact ⟨1, 0, [], rfl, by omega, by omega, by omega, by simp⟩
 ·exact hk
theorem tickZ_len (hZ : Z.length ≤ 8) : (tickZ k Z).length ≤ 8 ∧ Z.length ≤ (tickZ k Z).length ∧ (tickZ k Z).length ≤ Z.length + 1 := by
 unfold tickZ
 split
 ·rename_i h
  rw [h.1]
  simp
 ·omega
theorem runA_tick (x : Vst × (Int → Option Value)) : runA Z.length ((tickZ k Z).drop Z.length) x = x := by
 unfold tickZ
 split
 ·rename_i h
  rw [h.1]
  simp [runA, stepA]
 ·rw [List.drop_length]
  rfl
theorem mrest_calls (h : MP w mb rb sb nb G F N S n (t : Nat) cr R) (hge : ∀ x ∈ mb :: rb :: sb :: F, W.heap.size ≤ x) (hW : Below W.heap.size W w) (hN : NS k t Z N) (hk : ConOk Z) (hZ : Z.length ≤ 8) (ht : t ≤ Z.length) (hn : n ≤ 800) :
  Calls Tryz.prog 43 #[.pointer (some ⟨mb, 0, none⟩)] w fun e w' => e = .returned (.bool true) ∧ MS W w' mb sb G k Z (runA t (Z.drop t) (S, R)).1 (runA t (Z.drop t) (S, R)).2 (n + (Z.length - t)) ∧ Chg (mb :: rb :: sb :: F) w w' := by
 have hL := hN.L; have htd := hN.told
 refine (mapply_calls h hge hW (by rw [hL]; exact hk) (by rw [hL]; omega) htd.1 htd.2 (by rw [hL]; exact ht) (by rw [hL]; omega)).mono fun e w' ⟨he, F', cr', k1, k2, k3, k4⟩ => ⟨he, ⟨rb, nb, F', _, cr', ?_, k2, k3, hN.tell⟩, k4⟩
 rw [hL] at k1; rw [hL]
 exact k1
theorem mwithT_calls (h : MP w mb rb sb nb G F N S n (Z.length : Nat) cr R) (hge : ∀ x ∈ mb :: rb :: sb :: F, W.heap.size ≤ x) (hW : Below W.heap.size W w) (hN : NS k Z.length Z N) (hk : ConOk Z) (hZ : Z.length ≤ 7) (hkk : k ≤ 100) (hn : n ≤ 700) :
  Calls Tryz.prog 18 #[.pointer (some ⟨mb, 0, none⟩), .func (.func 19) #[.pointer (some ⟨nb, 0, none⟩)] #[]] w fun e w' => e = .returned (.tuple #[]) ∧ MS W w' mb sb G (tickK k Z) (tickZ k Z) S R (n + 1) := by
 have hen : ∀ args w, (callFunc 19 args).run Tryz.prog w = .ok (.enter 19 args) w := enters_of Tryz.func19 (by kernel_rfl) rfl; obtain ⟨p, Fl, Fv, hnp, hF⟩ := h.np; obtain ⟨p1, p2, p3, p4, p5, p6⟩ := hN.pre hk (by omega) (by omega); have hvx := hN.V; have HT := ntick_calls hnp p1 p2 p3 p4 p5 p6 hvx.1.ok (by split <;> omega); rw [← hF] at HT; have HT := hide HT; have H := hd7 h hge hW hN hk hZ hn; clear h hge hW hN hk hZ hn hnp hF p1 p2 p3 p4 p5 p6 hvx hkk
 go_enter Tryz.func18, Tryz.ntmps18
 go_wp2_with fail
 go_at_fn 19
 refine HT.out.mono ?_; rintro e w1 ⟨rfl, hnt, _⟩; obtain ⟨F1, hM1, hc1, hf1⟩ := H.out.1.raft hnt
 have HR := hide (mrest_calls (W := W) hM1 (fun x hx => by
  simp only [List.mem_cons] at hx
  rcases hx with rfl | rfl | rfl | hx
  ·exact H.out.2.1 _ (by simp)
  ·exact H.out.2.1 _ (by simp)
  ·exact H.out.2.1 _ (by simp)
  ·exact (hf1 x hx).elim (fun h => H.out.2.1 x (by simp [h])) (fun h => Nat.le_trans H.out.2.2.1.size h)) (Chg.onto H.out.2.2.1 H.out.2.2.1.size hc1 (fun x hx => H.out.2.1 x (by simp [hx]))) (H.out.2.2.2.1.tick (by have := H.out; omega)) (tickZ_ok H.out.2.2.2.2.1) (tickZ_len (by have := H.out; omega)).1 (tickZ_len (by have := H.out; omega)).2.1 (by have := H.out; omega))
 rw [runA_tick] at HR; clear hnt hM1 hc1 hf1 HT; go_wp2_with fail
 with_reducible refine HR.out.mono ?_
 rintro e w2 ⟨rfl, hms, _⟩; obtain ⟨rb', nb', F', N', cr', k1, k2, k3, k4⟩ := hms; have HF : Hid (MS W w2 mb sb G (tickK k Z) (tickZ k Z) S R (n + 1)) := hide ⟨rb', nb', F', N', cr', k1.up (by have := (tickZ_len (k := k) (Z := Z) (by have := H.out; omega)).2.2; omega), k2, k3, k4⟩; clear k1 k2 k3 k4 HR; go_wp2
 go_end0
 exact ⟨rfl, HF.out⟩
theorem mtick_calls (h : MS W w mb sb G k Z S R n) (hk : ConOk Z) (hZ : Z.length ≤ 7) (hkk : k ≤ 100) (hn : n ≤ 700) :
  Calls Tryz.prog 7 #[.pointer (some ⟨mb, 0, none⟩)] w fun e w' => e = .returned (.tuple #[]) ∧ MS W w' mb sb G (tickK k Z) (tickZ k Z) S R (n + 1) := by
 obtain ⟨rb, nb, F, N, cr, h1, h2, h3, h4⟩ := h; have y0 : w.cell? ⟨mb, 0, none⟩ = some (.pointer (some ⟨nb, 0, none⟩)) := h1.blk.cell 0; have HWT := hide (mwithT_calls h1 h2 h3 h4 hk hZ hkk hn); clear h1 h2 h3 h4 hk hZ hkk hn
 go_enter Tryz.func7, Tryz.ntmps7
 go_wp2_with fail
 with_reducible refine HWT.out.mono ?_
 rintro e w1 ⟨rfl, hms⟩; have HF := hide hms; clear hms HWT; go_wp2
 go_end0
 exact ⟨rfl, HF.out⟩
end

def Cmd.plain (q : Cmd) : Prop := ∀ n ∈ q.nums, 0 ≤ n ∧ n < 2 ^ 63
theorem Cmd.plain.rcmd {q : Cmd} (h : q.plain) : rcmd q.bytes = (q, true) := by
 rw [rcmd_bytes q (fun n hn => (h n hn).2)]; obtain ⟨k, a, b, c, ⟨r, w, l, bu⟩⟩ := q; have h1 := h k (by simp [Cmd.nums]); have h2 := h a (by simp [Cmd.nums]); have h3 := h b (by simp [Cmd.nums]); have h4 := h c (by simp [Cmd.nums]); have h5 := h r (by simp [Cmd.nums]); have h6 := h w (by simp [Cmd.nums]); have h7 := h l (by simp [Cmd.nums]); have h8 := h bu (by simp [Cmd.nums]); unfold Cmd.max0; simp only []; rw [Int.max_eq_left h1.1, Int.max_eq_left h2.1, Int.max_eq_left h3.1, Int.max_eq_left h4.1, Int.max_eq_left h5.1, Int.max_eq_left h6.1, Int.max_eq_left h7.1, Int.max_eq_left h8.1]
section
variable {W w w' : World} {mb rb sb nb n cr k t : Nat} {G F : List Nat} {N : Nd} {Z Z' : List Con} {S : Vst} {R : Int → Option Value} {ix : Int}
theorem mplain_calls (q : Cmd) (hq : q.plain) (hl : q.bytes.length ≤ 1000) (hb : ∀ x ∈ q.bytes, x < 256) (w : World) :
  Calls Tryz.prog 20 #[q.val] w fun e w' => e = .returned (.bool true) ∧ Below w.heap.size w w' := by
 have hr := hq.rcmd
 have HPU := fun w => vput_calls w q (fun n hn => (hq n hn).2)
 have HRE := fun (w : World) (A : Option Addr) (c : Nat) (h : Reads w w.heap.size 1 A q.bytes.length (bys q.bytes)) => vread_calls w A c q.bytes h (by omega) hb
 simp only [hr] at HRE; obtain ⟨B, hB⟩ : ∃ B, q.bytes = B := ⟨_, rfl⟩; simp only [hB] at HPU HRE; obtain ⟨bl, hbl⟩ : ∃ n, B.length = n := ⟨_, rfl⟩; simp only [hbl] at HPU HRE; obtain ⟨k0, a0, b0, c0, ⟨qr, qw, ql, qb⟩⟩ := q; unfold Cmd.val Cmd.cells at HPU HRE; unfold Cmd.val Cmd.cells; simp only [] at HPU HRE ⊢; obtain ⟨w0, hw0⟩ : ∃ w0, w.alloc (.cells #[.int .i64 k0, .int .i64 a0, .int .i64 b0, .int .i64 c0, .int .i64 qr, .int .i64 qw, .int .i64 ql, .int .i64 qb] 35) = w0 := ⟨_, rfl⟩; obtain ⟨xb, hxb⟩ : ∃ xb, w.heap.size = xb := ⟨_, rfl⟩
 have hb0 : Below w.heap.size w w0 := hw0 ▸ belowL (Below.refl _ _) _
 have bX : Blk w0 xb 35 [.int .i64 k0, .int .i64 a0, .int .i64 b0, .int .i64 c0, .int .i64 qr, .int .i64 qw, .int .i64 ql, .int .i64 qb] := by rw [← hw0, ← hxb]; exact Blk.new rfl
 have y0 : w0.cell? ⟨xb, 0, none⟩ = some (.int .i64 k0) := bX.cell 0; have y1 : w0.cell? ⟨xb, 1, none⟩ = some (.int .i64 a0) := bX.cell 1; have y2 : w0.cell? ⟨xb, 2, none⟩ = some (.int .i64 b0) := bX.cell 2; have y3 : w0.cell? ⟨xb, 3, none⟩ = some (.int .i64 c0) := bX.cell 3; have y4 : w0.cell? ⟨xb, 4, none⟩ = some (.int .i64 qr) := bX.cell 4; have y5 : w0.cell? ⟨xb, 5, none⟩ = some (.int .i64 qw) := bX.cell 5; have y6 : w0.cell? ⟨xb, 6, none⟩ = some (.int .i64 ql) := bX.cell 6; have y7 : w0.cell? ⟨xb, 7, none⟩ = some (.int .i64 qb) := bX.cell 7; have HW := hd2 hw0 hxb; have HPU := hide HPU; have HRE := hide HRE; have H := hd4 hb0 bX hbl hB; clear hr hq hl hb hB hbl hw0 hxb hb0 bX
 go_enter Tryz.func20, Tryz.ntmps20
 go_upto_region 1 with fail
 rw [HW.out.1, HW.out.2]; go_wp2_with fail
 with_reducible refine (HPU.out _).mono ?_
 rintro e w1 ⟨A, c, rfl, ho, hb1⟩; have HRD := hide (HRE.out w1 A c (by have := ho.bt.rb.rd; rw [H.out.2.2.1] at this; exact this)); have HB1 := hide hb1; clear ho hb1 HPU HRE y0 y1 y2 y3 y4 y5 y6 y7; go_wp2_with fail
 with_reducible refine HRD.out.mono ?_
 rintro e w2 ⟨rfl, hb2⟩; obtain ⟨w3, hw3⟩ : ∃ w3, w2.alloc (.cells #[.int .i64 k0, .int .i64 a0, .int .i64 b0, .int .i64 c0, .int .i64 qr, .int .i64 qw, .int .i64 ql, .int .i64 qb] 35) = w3 := ⟨_, rfl⟩; obtain ⟨yb, hyb⟩ : ∃ yb, w2.heap.size = yb := ⟨_, rfl⟩
 have hb3 : Below w0.heap.size w0 w3 := hw3 ▸ belowL (belowA hb2 HB1.out) _
 have bY : Blk w3 yb 35 [.int .i64 k0, .int .i64 a0, .int .i64 b0, .int .i64 c0, .int .i64 qr, .int .i64 qw, .int .i64 ql, .int .i64 qb] := by rw [← hw3, ← hyb]; exact Blk.new rfl
 have bX := H.out.2.1.below hb3; have y0 : w3.cell? ⟨xb, 0, none⟩ = some (.int .i64 k0) := bX.cell 0; have y1 : w3.cell? ⟨xb, 1, none⟩ = some (.int .i64 a0) := bX.cell 1; have y2 : w3.cell? ⟨xb, 2, none⟩ = some (.int .i64 b0) := bX.cell 2; have y3 : w3.cell? ⟨xb, 3, none⟩ = some (.int .i64 c0) := bX.cell 3; have y4 : w3.cell? ⟨xb, 4, none⟩ = some (.int .i64 qr) := bX.cell 4; have y5 : w3.cell? ⟨xb, 5, none⟩ = some (.int .i64 qw) := bX.cell 5; have y6 : w3.cell? ⟨xb, 6, none⟩ = some (.int .i64 ql) := bX.cell 6; have y7 : w3.cell? ⟨xb, 7, none⟩ = some (.int .i64 qb) := bX.cell 7; have z0 : w3.cell? ⟨yb, 0, none⟩ = some (.int .i64 k0) := bY.cell 0; have z1 : w3.cell? ⟨yb, 1, none⟩ = some (.int .i64 a0) := bY.cell 1; have z2 : w3.cell? ⟨yb, 2, none⟩ = some (.int .i64 b0) := bY.cell 2; have z3 : w3.cell? ⟨yb, 3, none⟩ = some (.int .i64 c0) := bY.cell 3; have z4 : w3.cell? ⟨yb, 4, none⟩ = some (.int .i64 qr) := bY.cell 4; have z5 : w3.cell? ⟨yb, 5, none⟩ = some (.int .i64 qw) := bY.cell 5; have z6 : w3.cell? ⟨yb, 6, none⟩ = some (.int .i64 ql) := bY.cell 6; have z7 : w3.cell? ⟨yb, 7, none⟩ = some (.int .i64 qb) := bY.cell 7; have HB3 := hide (belowA hb3 H.out.1); have HW3 := hd2 hw3 hyb; have hec := run_eqCmd k0 a0 b0 c0 qr qw ql qb k0 a0 b0 c0 qr qw ql qb; rw [show eqCmd ⟨k0, a0, b0, c0, ⟨qr, qw, ql, qb⟩⟩ ⟨k0, a0, b0, c0, ⟨qr, qw, ql, qb⟩⟩ = true by simp [eqCmd]] at hec; clear hb2 hb3 bX bY hw3 hyb HRD
 go_upto_region 2 with fail
 rw [HW3.out.1, HW3.out.2]; go_wp2_with fail; go_ret
 exact ⟨rfl, HB3.out⟩
def STA (K : List Nat) (w w' : World) (S : Vst) (n : Nat) (e : Ending) : Prop := ∃ tb, e = .returned (.pointer (some ⟨tb, 0, none⟩)) ∧ VSK K w' tb S n ∧ w.heap.size ≤ tb ∧ Below w.heap.size w w'
theorem mstate_calls (h : MP w mb rb sb nb G F N S n ix cr R) (hs : SerOk S) (hn : n ≤ 60) (K : List Nat) (hK : ∀ x ∈ K, x < w.heap.size) :
  Calls Tryz.prog 9 #[.pointer (some ⟨mb, 0, none⟩)] w fun e w' => STA K w w' S n e := by
 have hby := h.ok.byt hs hn; obtain ⟨no, m1, m2, m3, V, C, hv, _⟩ := h.vf; have y1 : w.cell? ⟨mb, 1, none⟩ = some (.pointer (some ⟨sb, 0, none⟩)) := h.blk.cell 1; have HB := hide (vbytes_calls w no sb m1 m2 m3 S V C hv hby); have H := hd4 hs hby h.ok hK; clear h hs hby hv hK
 go_enter Tryz.func9, Tryz.ntmps9
 go_wp2_with fail
 with_reducible refine HB.out.mono ?_
 rintro e w1 ⟨A, c, rfl, ho, hb1⟩; have HL := vload_calls K w1 (fun x hx => Nat.lt_of_lt_of_le (H.out.2.2.2 x hx) hb1.size) A c S.bytes ho.bt.rb.rd (by have := H.out.2.1.len; omega) (encs_byte S.ser) (ldOk_ser H.out.1 H.out.2.1); rw [loadP_ser H.out.1] at HL; have HL := hide HL; have HB1 := hide hb1; clear ho hb1 HB y1; go_wp2_with fail
 with_reducible refine HL.out.mono ?_
 rintro e w2 ⟨hb2, no2, tb, a1, a2, a3, V2, C2, rfl, hv2, hk2, htb⟩; have HF : Hid (VSK K w2 tb S n ∧ w.heap.size ≤ tb ∧ Below w.heap.size w w2) := hide ⟨⟨H.out.2.2.1, no2, a1, a2, a3, V2, C2, hv2, hk2⟩, Nat.le_trans HB1.out.size htb, belowA hb2 HB1.out⟩; clear hb2 hv2 hk2 htb HL; go_wp2; go_ret
 exact ⟨tb, rfl, HF.out⟩
theorem mresult_calls (h : MP w mb rb sb nb G F N S n ix cr R) (k : Int) (hk : i64ok k) :
  Calls Tryz.prog 11 #[.pointer (some ⟨mb, 0, none⟩), .int .i64 k] w fun e w' => e = .returned (.tuple #[(R k).getD (.int .i64 0), .bool (R k).isSome]) ∧ w = w' := by
 have y3 : w.cell? ⟨mb, 3, none⟩ = some (.map (some rb)) := h.blk.cell 3; have hlk := h.rm.look_ok (mt := 61) hk Tryz.underlying61 (z := .int .i64 0) (by simp [Tryz.zeroValue29]); clear h
 go_enter Tryz.func11, Tryz.ntmps11
 go_wp2
 go_ret2
 exact ⟨rfl, rfl⟩
theorem mindex_calls (h : MP w mb rb sb nb G F N S n ix cr R) :
  Calls Tryz.prog 15 #[.pointer (some ⟨mb, 0, none⟩)] w fun e w' => e = .returned (.int .i64 ix) ∧ w = w' := by
 have y2 : w.cell? ⟨mb, 2, none⟩ = some (.int .i64 ix) := h.blk.cell 2; clear h
 go_enter Tryz.func15, Tryz.ntmps15
 go_wp2; go_ret
 exact ⟨rfl, rfl⟩
end
end Go.Proofs.YtcahcjfgmdpdoaaGreat
