/- One text of: Nq Nr Ns Nt. -/
import Derived.Test.YteppdlkmjgladaaGreatQVE
import Derived.Test.YteppdlkmjgladaaGreatQNp
import Derived.Test.YteppdlkmjgladaaGreatQDA
namespace Go.Proofs.YteppdlkmjgladaaGreat
open Go.RowKit Go.Proofs Go.Maps
set_option linter.unusedVariables false
set_option linter.unusedSimpArgs false

theorem zeros_getD {B : List Nat} (h : ∀ c ∈ B, c = 0) : B.getD 0 0 = 0 := by
 cases B with
 |nil => rfl
 |cons x t => exact h x (List.mem_cons_self ..)
theorem new_bytes (n fr many : Nat) : ∀ c ∈ (((Dev.new n).l.drop fr).take many).flatten, c = 0 := by
 intro c hc
 obtain ⟨s, hs, hcs⟩ := List.mem_flatten.1 hc
 have h1 := List.mem_of_mem_drop (List.mem_of_mem_take hs)
 have h2 := List.eq_of_mem_replicate h1
 rw [h2] at hcs
 exact List.eq_of_mem_replicate hcs
theorem jread_zeros {B : List Nat} (h : ∀ c ∈ B, c = 0) (gen n : Nat) : jread B gen n = none := by
 unfold jread
 rw [if_pos (Or.inr (by rw [zeros_getD h]; omega))]
theorem jscan_new {n fr many : Nat} (h : fr + many ≤ n) : jscan (Dev.new n) fr many 0 = (0, [], 0) := by
 have hl : (Dev.new n).l.length = n := List.length_replicate ..
 unfold jscan
 rw [if_neg (by rw [hl]; omega)]
 have hb : (Dev.new n).bytes fr many = (0, (((Dev.new n).l.drop fr).take many).flatten) := by
  unfold Dev.bytes
  rw [if_neg (by simp [Dev.new])]
 rw [hb]
 simp only []
 rw [if_neg (by simp), jscanF_none (by rw [Nat.zero_mul, List.drop_zero]; exact jread_zeros (new_bytes n fr many) _ _)]
theorem wipeF_zeros : ∀ (S : List (List Nat)) (D : Dev) (i : Nat), (∀ s ∈ S, s = zero64) → wipeF S D i false = (0, false, D)
 |[], D, i, _ => rfl
 |s :: t, D, i, h => by
  unfold wipeF
  rw [if_pos (h s (List.mem_cons_self ..))]
  exact wipeF_zeros t D (i + 1) (fun x hx => h x (List.mem_cons_of_mem _ hx))
theorem jsweep_new (n fr many : Nat) : jsweep (Dev.new n) fr many = (0, Dev.new n) := by
 unfold jsweep
 rw [if_neg (by simp [Dev.new])]
 have hz : wipeF (((Dev.new n).l.drop fr).take many) (Dev.new n) fr false = (0, false, Dev.new n) := wipeF_zeros _ _ _ (fun s hs => List.eq_of_mem_replicate (List.mem_of_mem_drop (List.mem_of_mem_take hs)))
 simp only [hz]
 simp
theorem kvGen_zero : kvGen zero64 = 0 := by decide
theorem kvCheck_new {n fr m : Nat} (h : fr < n) : kvCheck (Dev.new n) fr m = (0, 0, []) := by
 have hr : (Dev.new n).read fr = (0, zero64) := by
  unfold Dev.read
  rw [if_neg (by simp [Dev.new]), if_neg (by simp only [Dev.new, List.length_replicate]; omega), Int.toNat_natCast]
  show (0, (List.replicate n zero64).getD fr []) = _
  rw [List.getD_eq_getElem?_getD, List.getElem?_replicate, if_pos h]
  rfl
 unfold kvCheck
 rw [hr]
 simp only []
 rw [if_neg (by simp), kvGen_zero, if_pos (by omega)]
def Vlt.first (n : Nat) : Vlt := ⟨Dev.new n, n / 4, 0, [], ⟨2 * (n / 4), n - 2 * (n / 4), 0, 0, 0, [], false⟩, false⟩
theorem vopen_new {n : Nat} (h : 8 ≤ n) : vopen (Dev.new n) = (0, Vlt.first n) := by
 have hl : (Dev.new n).l.length = n := List.length_replicate ..
 have hp : Vlt.part (Dev.new n) (n / 4) 0 = (0, ⟨2 * (n / 4), n - 2 * (n / 4), 0, 0, 0, [], false⟩, [], Dev.new n) := by
  unfold Vlt.part jopen
  rw [hl, jscan_new (by omega)]
  simp only []
  rw [if_neg (by simp), jsweep_new]
  simp
 have k0 := kvCheck_new (n := n) (fr := 0) (m := n / 4) (by omega)
 have k1 := kvCheck_new (n := n) (fr := n / 4) (m := n / 4) (by omega)
 unfold vopen
 simp only [hl]
 rw [if_neg (by omega)]
 simp only [k0, k1, ne_eq, not_true_eq_false, if_false, Nat.lt_irrefl, hp]
 rfl
def Dev.Well (D : Dev) : Prop := D.off = false ∧ D.fuse = -1
theorem Dev.Well.burn {D : Dev} (h : D.Well) : D.burn = (false, D) := by
 unfold Dev.burn
 rw [if_neg (by simp [h.1]), if_neg (by rw [h.2]; omega), if_neg (by rw [h.2]; omega)]
theorem Dev.Well.write {D : Dev} (h : D.Well) {i : Nat} {b : List Nat} (hi : i < D.l.length) (hb : b.length = 64) : (D.write (i : Int) b).1 = 0 ∧ (D.write (i : Int) b).2.Well ∧ (D.write (i : Int) b).2.l.length = D.l.length := by
 unfold Dev.write
 rw [h.burn]
 simp only []
 rw [if_neg (by simp), if_neg (by omega)]
 exact ⟨rfl, h, by simp⟩
theorem Dev.Well.flush {D : Dev} (h : D.Well) : D.flush.1 = 0 ∧ D.flush.2.Well ∧ D.flush.2.l.length = D.l.length := by
 unfold Dev.flush
 rw [h.burn]
 simp only []
 rw [if_neg (by simp)]
 exact ⟨rfl, h, rfl⟩
theorem laysF_well : ∀ (k : Nat) (D : Dev) (i : Nat) (b : List Nat), D.Well → i + k ≤ D.l.length → b.length = k * 64 → (laysF k D i b).1 = 0 ∧ (laysF k D i b).2.Well ∧ (laysF k D i b).2.l.length = D.l.length
 |0, D, i, b, h, _, _ => ⟨rfl, h, rfl⟩
 |k + 1, D, i, b, h, hi, hb => by
  have hw := h.write (i := i) (b := b.take 64) (by omega) (by rw [List.length_take]; omega)
  unfold laysF
  simp only []
  rw [if_neg (by simp [hw.1])]
  have ih := laysF_well k (D.write (i : Int) (b.take 64)).2 (i + 1) (b.drop 64) hw.2.1 (by rw [hw.2.2]; omega) (by rw [List.length_drop]; omega)
  exact ⟨ih.1, ih.2.1, ih.2.2.trans hw.2.2⟩
structure Vlt.Well (V : Vlt) (g k : Nat) : Prop where
 ok : VltOk V g
 gone : V.gone = false
 jgone : V.J.gone = false
 dev : V.D.Well
 gen : V.gen = 0
 n : V.J.n = k
 used : V.J.used ≤ 16 * k
theorem Vlt.Well.put {V : Vlt} {g k : Nat} (h : V.Well g k) (hroom : 16 * (k + 1) ≤ V.D.l.length - 2 * (V.D.l.length / 4)) (hk : k ≤ 1000) (key : Nat) (hkey : key ≤ 1099511627776) (b : List Nat) (hb : b.length ≤ 900) (hbb : ∀ x ∈ b, x < 256) :
  (V.put (key : Int) b).1 = 0 ∧ (V.put (key : Int) b).2.Well (g + 1) (k + 1) ∧ (V.put (key : Int) b).2.D.l.length = V.D.l.length := by
 obtain ⟨j1, j2, j3, j4, j5, j6, j7, j8⟩ := h.ok.j h.gone
 obtain ⟨B, hB⟩ : ∃ B, enc key ++ enc 1 ++ encT b = B := ⟨_, rfl⟩
 have e1 := enc_len9 (n := key) (by omega)
 have e2 := enc_len9 (n := 1) (by omega)
 have e3 := enc_len9 (n := b.length) (by omega)
 have hBl : B.length ≤ 930 := by rw [← hB]; unfold encT; simp only [List.length_append]; omega
 have hBb : ∀ x ∈ B, x < 256 := by
  rw [← hB]
  intro x hx
  unfold encT at hx
  simp only [List.mem_append] at hx
  rcases hx with (hx | hx) | (hx | hx)
  ·exact enc_byte _ x hx
  ·exact enc_byte _ x hx
  ·exact enc_byte _ x hx
  ·exact hbb x hx
 have hput : V.put (key : Int) b = V.keep B := by
  unfold Vlt.put
  rw [if_neg (by omega), if_neg (by omega), Int.toNat_natCast, hB]
 rw [hput]
 have hgn : V.J.gen = 0 := by rw [j3]; exact h.gen
 have hfo := jform_kv (gen := V.J.gen) (i := V.J.n) (b := B) (by omega) (by have := h.n; omega) hBl
 obtain ⟨sz, z1, z2, z3, z4⟩ := jform_ok hfo hBb
 have hadd : ∃ D1, V.J.add V.D B = (0, { V.J with waits := V.J.waits ++ [(V.J.from_ + V.J.used, (jform V.J.gen V.J.n B).2.take 64)], used := V.J.used + sz, n := V.J.n + 1 }, D1) ∧ D1.Well ∧ D1.l.length = V.D.l.length := by
  have hsz : (jform V.J.gen V.J.n B).2.length / 64 = sz := by omega
  have hu := h.used
  have hn4 := h.ok.n4
  have hla := laysF_well sz V.D (V.J.from_ + V.J.used) ((jform V.J.gen V.J.n B).2.set 0 0) h.dev (by omega) (by rw [List.length_set]; exact z3)
  refine ⟨(laysF sz V.D (V.J.from_ + V.J.used) ((jform V.J.gen V.J.n B).2.set 0 0)).2, ?_, hla.2⟩
  unfold Jrn.add
  rw [if_neg (by simp [h.jgone])]
  simp only [hsz]
  rw [if_neg (by simp [hfo]), if_neg (by omega), if_neg (by simp [hla.1])]
 obtain ⟨D1, ha, hw1, hl1⟩ := hadd
 rw [j1, List.nil_append] at ha
 have h64 : ((jform V.J.gen V.J.n B).2.take 64).length = 64 := by rw [List.length_take]; omega
 obtain ⟨J1, hJ1⟩ : ∃ J1, ({ V.J with waits := [(V.J.from_ + V.J.used, (jform V.J.gen V.J.n B).2.take 64)], used := V.J.used + sz, n := V.J.n + 1 } : Jrn) = J1 := ⟨_, rfl⟩
 rw [hJ1] at ha
 have hJw : J1.waits = [(V.J.from_ + V.J.used, (jform V.J.gen V.J.n B).2.take 64)] := by rw [← hJ1]
 have hJg : J1.gone = false := by rw [← hJ1]; exact h.jgone
 have hfl : ∃ D2, J1.flush D1 = (0, { J1 with waits := [], gone := false }, D2) ∧ D2.Well ∧ D2.l.length = V.D.l.length := by
  have f1 := hw1.flush
  have w1 := f1.2.1.write (i := V.J.from_ + V.J.used) (b := (jform V.J.gen V.J.n B).2.take 64) (by rw [f1.2.2, hl1]; have := h.used; have := h.ok.n4; omega) h64
  have f2 := w1.2.1.flush
  refine ⟨(D1.flush.2.write ((V.J.from_ + V.J.used : Nat) : Int) ((jform V.J.gen V.J.n B).2.take 64)).2.flush.2, ?_, f2.2.1, f2.2.2.trans (w1.2.2.trans (f1.2.2.trans hl1))⟩
  unfold Jrn.flush
  rw [if_neg (by simp [hJg]), hJw]
  simp only [beginsF, f1.1]
  rw [if_pos trivial]
  simp only [w1.1]
  rw [if_pos ⟨trivial, by simp⟩, f2.1]
  rfl
 obtain ⟨D2, hf, hw2, hl2⟩ := hfl
 have hke : V.keep B = (0, { V with J := { J1 with waits := [], gone := false }, D := D2, l := (kvChange V.l B).getD V.l }) := by
  unfold Vlt.keep
  rw [if_neg (by simp [h.gone])]
  simp only [ha]
  rw [if_neg (by omega), if_neg (by simp)]
  simp only [hf]
  rw [if_neg (by simp)]
 have hok := Vlt.keep_ok (b := B) h.ok hBb (fun e => by rw [ha] at e; simp at e)
 rw [hke] at hok ⊢
 exact ⟨rfl, ⟨hok, h.gone, rfl, hw2, h.gen, by rw [← hJ1]; show V.J.n + 1 = _; rw [h.n], by rw [← hJ1]; show V.J.used + sz ≤ _; have := h.used; omega⟩, hl2⟩
theorem Vlt.first_well {n : Nat} (h : 8 ≤ n) (h2 : n ≤ 4096) : (Vlt.first n).Well 0 0 := by
 have hl : (Dev.new n).l.length = n := List.length_replicate ..
 refine ⟨⟨by show n / 4 = _; unfold Vlt.first; rw [hl], by unfold Vlt.first; simp only [hl]; omega, Nat.le_refl _, by simp [Vlt.first], fun _ => ?_⟩, rfl, rfl, ⟨rfl, rfl⟩, rfl, rfl, Nat.le_refl _⟩
 unfold Vlt.first
 simp only [hl]
 exact ⟨by trivial, by simp [Dev.new], by trivial, by trivial, by trivial, Nat.zero_le _, Nat.le_refl _, by simp⟩
end Go.Proofs.YteppdlkmjgladaaGreat

namespace Go.Proofs.YteppdlkmjgladaaGreat
open Go.RowKit Go.Proofs Go.Maps
set_option linter.unusedVariables false
set_option linter.unusedSimpArgs false

def VW (V : Vlt) (k : Nat) : Prop := V.Well k k ∧ V.D.l.length = 2048
theorem VW.put {V : Vlt} {k : Nat} (h : VW V k) (hk : k ≤ 40) (key : Nat) (hkey : key ≤ 1000000) (b : List Nat) (hb : b.length ≤ 900) (hbb : ∀ x ∈ b, x < 256) : (V.put (key : Int) b).1 = 0 ∧ VW (V.put (key : Int) b).2 (k + 1) := by
 have := h.1.put (by rw [h.2]; omega) (by omega) key (by omega) b hb hbb
 exact ⟨this.1, this.2.1, this.2.2.trans h.2⟩
theorem Nd.put_well {N : Nd} {k : Nat} (hd : N.dead = false) (h : VW N.V k) (hk : k ≤ 40) (key : Nat) (hkey : key ≤ 1000000) (b : List Nat) (hb : b.length ≤ 900) (hbb : ∀ x ∈ b, x < 256) : N.put (key : Int) b = { N with V := (N.V.put (key : Int) b).2 } ∧ VW (N.V.put (key : Int) b).2 (k + 1) := by
 obtain ⟨h1, h2⟩ := h.put hk key hkey b hb hbb
 refine ⟨?_, h2⟩
 unfold Nd.put
 rw [if_neg (by simp [hd]), h1]
 cases N
 simp only at hd
 subst hd
 rfl
structure W0 (k : Nat) (N : Nd) : Prop where
 dead : N.dead = false
 role : N.role = 0
 quiet : N.quiet = k
 beats : N.beats = 0
 id : N.id = 2
 sm : N.sm = [2]
 L : N.L = []
 bt : N.bt = 0
 com : N.commit = 0
 told : N.told = 0
 next : N.next = noF
 V : VW N.V 1
structure W2 (j : Nat) (N : Nd) : Prop where
 dead : N.dead = false
 role : N.role = 2
 quiet : N.quiet = 0
 beats : N.beats = j
 id : N.id = 2
 sm : N.sm = [2]
 L : N.L = [(1, 0, bi [])]
 bt : N.bt = 1
 com : N.commit = 1
 told : N.told = 0
 next : N.next 2 = some 1
 mat : N.mat 2 = some 1
 V : VW N.V 3
theorem first_V : VW (Vlt.first 2048) 0 := ⟨Vlt.first_well (by omega) (by omega), List.length_replicate ..⟩
theorem sbytes_ok : (sbytes 0 0 [2] []).length ≤ 900 ∧ ∀ x ∈ sbytes 0 0 [2] [], x < 256 := by
 have hq := qbytes_len (l := [2]) (by simp) (by intro x hx; rw [List.mem_singleton.1 hx]; omega)
 have e1 := enc_len9 (n := 0) (by omega)
 have e2 := enc_len9 (n := (qbytes [2]).length) (by omega)
 refine ⟨by unfold sbytes encT; simp only [List.length_append, List.length_nil]; omega, fun x hx => ?_⟩
 unfold sbytes encT at hx
 simp only [List.mem_append, List.not_mem_nil, or_false] at hx
 rcases hx with ((hx | hx) | (hx | hx)) | hx
 ·exact enc_byte _ x hx
 ·exact enc_byte _ x hx
 ·exact enc_byte _ x hx
 ·exact hq.2 x hx
 ·exact enc_byte _ x hx
theorem new_W0 : W0 0 (Nd.new 2 (Vlt.first 2048) [2]) := by
 have h := Nd.put_well (N := { id := 2, V := Vlt.first 2048, dead := false, bt := 0, bv := -1, sm := [2], L := [], commit := 0, told := 0, role := 0, leader := -1, quiet := 0, beats := 0, votes := [], next := noF, mat := noF }) rfl first_V (by omega) 1 (by omega) (sbytes 0 0 [2] []) sbytes_ok.1 sbytes_ok.2
 have e : Nd.new 2 (Vlt.first 2048) [2] = _ := h.1
 rw [e]
 exact ⟨rfl, rfl, rfl, rfl, rfl, rfl, rfl, rfl, rfl, rfl, rfl, h.2⟩
theorem W0.wait {k : Nat} {N : Nd} (h : W0 k N) (hk : k < 26) : W0 (k + 1) N.tick := by
 have e : N.tick = N.wait := by
  unfold Nd.tick
  rw [if_neg (by simp [h.dead]), if_neg (by rw [h.role]; omega), if_neg (by rw [h.id]; show ¬ _ < N.quiet + 1; rw [h.quiet]; omega)]
 rw [e]
 exact ⟨h.dead, h.role, by show N.quiet + 1 = _; rw [h.quiet]; omega, h.beats, h.id, h.sm, h.L, h.bt, h.com, h.told, h.next, h.V⟩
theorem bbytes_12 : (bbytes 1 2).length ≤ 900 ∧ ∀ x ∈ bbytes 1 2, x < 256 := by
 have h := bbytes_ok (t := 1) (v := 2) (by omega) (by omega)
 exact ⟨by omega, h.2⟩
theorem ebytes_10 : (ebytes 1 0 []).length ≤ 900 ∧ ∀ x ∈ ebytes 1 0 [], x < 256 := by
 have h := ebytes_ok (t := 1) (k := 0) (b := []) (by omega) (by omega) (by simp) (by simp)
 exact ⟨by have := h.1; simp only [List.length_nil] at this; omega, h.2⟩
theorem ebytes_17 : (ebytes 1 1 [7]).length ≤ 900 ∧ ∀ x ∈ ebytes 1 1 [7], x < 256 := by
 have h := ebytes_ok (t := 1) (k := 1) (b := [7]) (by omega) (by omega) (by simp) (by simp)
 exact ⟨by have := h.1; simp only [List.length_singleton] at this; omega, h.2⟩
theorem W0.lead {N : Nd} (h : W0 26 N) : W2 0 N.tick := by
 obtain ⟨id, V, dead, bt, bv, sm, L, commit, told, role, leader, quiet, beats, votes, next, mat⟩ := N
 obtain ⟨h1, h2, h3, hbe, h4, h5, h6, h7, h8, h9, h10, h11⟩ := h
 simp only at h1 h2 h3 h4 h5 h6 h7 h8 h9 h10 h11
 subst h1 h2 h3 h4 h5 h6 h7 h8 h9 h10
 obtain ⟨N, hN⟩ : ∃ N, ({ id := 2, V := V, dead := false, bt := 0, bv := bv, sm := [2], L := [], commit := 0, told := 0, role := 0, leader := leader, quiet := ((26 : Nat) : Int), beats := beats, votes := votes, next := noF, mat := mat } : Nd) = N := ⟨_, rfl⟩
 rw [hN]
 have e : N.tick = N.wait.stand := by
  unfold Nd.tick
  rw [← hN, if_neg (by simp), if_neg (by simp), if_pos (by show (12 : Int) + 7 * 2 < ((26 : Nat) : Int) + 1; omega)]
 rw [e]
 have w1 := Nd.put_well (N := N.wait.still.seeB 1 2) (k := 1) (by rw [← hN]; rfl) (by rw [← hN]; exact h11) (by omega) 0 (by omega) (bbytes 1 2) bbytes_12.1 bbytes_12.2
 have ew : N.wait.wish = (N.wait.still.seeB 1 2).put ((0 : Nat) : Int) (bbytes 1 2) := by
  unfold Nd.wish Nd.keepB
  rw [← hN, if_neg (by show ¬ ((0 : Int) + 1 = 0 ∧ _); omega)]
  rfl
 rw [w1.1] at ew
 have ed : N.wait.wish.dead = false := by rw [ew, ← hN]; rfl
 unfold Nd.stand
 rw [if_neg (by simp [ed])]
 obtain ⟨V1, hV1⟩ : ∃ V1, ((N.wait.still.seeB 1 2).V.put ((0 : Nat) : Int) (bbytes 1 2)).2 = V1 := ⟨_, rfl⟩
 rw [hV1] at w1 ew
 have hw1 := w1.2
 obtain ⟨M, hM⟩ : ∃ M, N.wait.wish.cand = M := ⟨_, rfl⟩
 rw [hM]
 have hMe : M = { id := 2, V := V1, dead := false, bt := 1, bv := 2, sm := [2], L := [], commit := 0, told := 0, role := 1, leader := -1, quiet := 0, beats := beats, votes := [2], next := noF, mat := mat } := by
  rw [← hM, ew, ← hN]
  rfl
 clear w1 ew ed hM e hN h11 hV1
 subst hMe
 have w2 := Nd.put_well (N := { id := 2, V := V1, dead := false, bt := 1, bv := 2, sm := [2], L := [(1, 0, bi [])], commit := 0, told := 0, role := 2, leader := 2, quiet := 0, beats := 0, votes := [2], next := noF, mat := noF }) (k := 2) rfl hw1 (by omega) 1001 (by omega) (ebytes 1 0 []) ebytes_10.1 ebytes_10.2
 obtain ⟨V2, hV2⟩ : ∃ V2, (V1.put ((1001 : Nat) : Int) (ebytes 1 0 [])).2 = V2 := ⟨_, rfl⟩
 simp only [hV2] at w2
 have ep : Nd.pushE (Nd.lead0 { id := 2, V := V1, dead := false, bt := 1, bv := 2, sm := [2], L := [], commit := 0, told := 0, role := 1, leader := -1, quiet := 0, beats := beats, votes := [2], next := noF, mat := mat }) 0 [] = { id := 2, V := V2, dead := false, bt := 1, bv := 2, sm := [2], L := [(1, 0, bi [])], commit := 0, told := 0, role := 2, leader := 2, quiet := 0, beats := 0, votes := [2], next := noF, mat := upd noF 2 (some 1) } := by
  have e2 : ({ id := 2, V := V1, dead := false, bt := 1, bv := 2, sm := [2], L := [(1, 0, bi [])], commit := 0, told := 0, role := 2, leader := 2, quiet := 0, beats := 0, votes := [2], next := noF, mat := noF } : Nd).put (1000 + (([] : List Con).length + 1 : Nat)) (ebytes (1 : Int).toNat 0 []) = _ := w2.1
  unfold Nd.pushE Nd.lead0
  simp only [List.nil_append]
  rw [show ((0 : Nat) : Int) = 0 from rfl]
  rw [e2]
  rfl
 unfold Nd.lead
 rw [ep]
 have hset : (Nd.hand { id := 2, V := V2, dead := false, bt := 1, bv := 2, sm := [2], L := [(1, 0, bi [])], commit := 0, told := 0, role := 2, leader := 2, quiet := 0, beats := 0, votes := [2], next := noF, mat := upd noF 2 (some 1) }).settle = { id := 2, V := V2, dead := false, bt := 1, bv := 2, sm := [2], L := [(1, 0, bi [])], commit := 1, told := 0, role := 2, leader := 2, quiet := 0, beats := 0, votes := [2], next := upd noF 2 (some 1), mat := upd noF 2 (some 1) } := by
  rfl
 rw [hset]
 exact ⟨rfl, rfl, rfl, rfl, rfl, rfl, rfl, rfl, rfl, rfl, by exact upd_same noF 2 (some 1), by exact upd_same noF 2 (some 1), w2.2⟩
theorem W2.at_ {j : Nat} {N : Nd} (h : W2 j N) : N.at_ = 1 := by
 unfold Nd.at_
 rw [h.id, h.next, h.L]
 rfl
theorem W2.beat {j : Nat} {N : Nd} (h : W2 j N) : W2 (j + 1) N.tick := by
 have hb : W2 (j + 1) N.beat := ⟨h.dead, h.role, h.quiet, by show N.beats + 1 = _; rw [h.beats]; omega, h.id, h.sm, h.L, h.bt, h.com, h.told, h.next, h.mat, h.V⟩
 unfold Nd.tick
 rw [if_neg (by simp [h.dead]), if_pos h.role]
 split
 ·refine ⟨hb.dead, hb.role, hb.quiet, hb.beats, hb.id, hb.sm, hb.L, hb.bt, hb.com, hb.told, ?_, hb.mat, hb.V⟩
  show upd N.beat.next N.beat.id (some (N.beat.at_ : Int)) 2 = some 1
  rw [hb.id, hb.at_, upd_same]
  rfl
 ·exact hb
structure W3 (N : Nd) : Prop where
 role : N.role = 2
 L : N.L = [(1, 0, bi []), (1, 1, bi [7])]
 com : N.commit = 2
 told : N.told = 0
theorem W2.prop {j : Nat} {N : Nd} (h : W2 j N) : W3 (N.prop [7]) := by
 obtain ⟨id, V, dead, bt, bv, sm, L, commit, told, role, leader, quiet, beats, votes, next, mat⟩ := N
 obtain ⟨h1, h2, h3, h4, h5, h6, h7, h8, h9, h10, h11, h12, h13⟩ := h
 simp only at h1 h2 h3 h4 h5 h6 h7 h8 h9 h10 h11 h12 h13
 subst h1 h2 h3 h4 h5 h6 h7 h8 h9 h10
 have w2 := Nd.put_well (N := { id := 2, V := V, dead := false, bt := 1, bv := bv, sm := [2], L := [(1, 0, bi []), (1, 1, bi [7])], commit := 1, told := 0, role := 2, leader := leader, quiet := 0, beats := j, votes := votes, next := next, mat := mat }) (k := 3) rfl h13 (by omega) 1002 (by omega) (ebytes 1 1 [7]) ebytes_17.1 ebytes_17.2
 obtain ⟨V2, hV2⟩ : ∃ V2, (V.put ((1002 : Nat) : Int) (ebytes 1 1 [7])).2 = V2 := ⟨_, rfl⟩
 simp only [hV2] at w2
 have ep : Nd.pushE { id := 2, V := V, dead := false, bt := 1, bv := bv, sm := [2], L := [(1, 0, bi [])], commit := 1, told := 0, role := 2, leader := leader, quiet := 0, beats := j, votes := votes, next := next, mat := mat } 1 [7] = { id := 2, V := V2, dead := false, bt := 1, bv := bv, sm := [2], L := [(1, 0, bi []), (1, 1, bi [7])], commit := 1, told := 0, role := 2, leader := leader, quiet := 0, beats := j, votes := votes, next := next, mat := upd mat 2 (some 2) } := by
  have e2 : ({ id := 2, V := V, dead := false, bt := 1, bv := bv, sm := [2], L := [(1, 0, bi []), (1, 1, bi [7])], commit := 1, told := 0, role := 2, leader := leader, quiet := 0, beats := j, votes := votes, next := next, mat := mat } : Nd).put (1000 + (([(1, 0, bi [])] : List Con).length + 1 : Nat)) (ebytes (1 : Int).toNat 1 [7]) = _ := w2.1
  unfold Nd.pushE
  simp only [List.cons_append, List.nil_append]
  rw [show ((1 : Nat) : Int) = 1 from rfl]
  rw [e2]
  rfl
 unfold Nd.prop
 rw [ep]
 have hm : (upd mat 2 (some 2)) 2 = some 2 := upd_same _ _ _
 have hse : (Nd.hand { id := 2, V := V2, dead := false, bt := 1, bv := bv, sm := [2], L := [(1, 0, bi []), (1, 1, bi [7])], commit := 1, told := 0, role := 2, leader := leader, quiet := 0, beats := j, votes := votes, next := next, mat := upd mat 2 (some 2) }).settle.commit = 2 := by
  unfold Nd.settle Nd.hand
  simp only [hm]
  rfl
 obtain ⟨s1, s2, s3, s4, s5, s6, s7, s8, s9⟩ := (Nd.hand { id := 2, V := V2, dead := false, bt := 1, bv := bv, sm := [2], L := [(1, 0, bi []), (1, 1, bi [7])], commit := 1, told := 0, role := 2, leader := leader, quiet := 0, beats := j, votes := votes, next := next, mat := upd mat 2 (some 2) }).settle_same
 refine ⟨s8, s4, hse, ?_⟩
 unfold Nd.settle
 split
 ·rfl
 ·split <;> rfl
theorem W0.solo {k : Nat} {N : Nd} (h : W0 k N) : Solo N := by
 refine ⟨by rw [h.sm, h.id], by rw [h.id]; omega, ?_, by rw [h.L]; simp, by rw [h.next]; simp [noF], by rw [h.bt]; omega, by rw [h.com]; omega⟩
 rw [h.L]
 intro c hc
 cases hc
theorem W2.solo {j : Nat} {N : Nd} (h : W2 j N) : Solo N := by
 refine ⟨by rw [h.sm, h.id], by rw [h.id]; omega, ?_, by rw [h.L]; simp, by rw [h.id, h.next]; simp, by rw [h.bt]; omega, by rw [h.com]; omega⟩
 rw [h.L]
 intro c hc
 rw [List.mem_singleton.1 hc]
 exact ⟨1, 0, [], rfl, by omega, by omega, by omega, by simp⟩
end Go.Proofs.YteppdlkmjgladaaGreat

namespace Go.Proofs.YteppdlkmjgladaaGreat
open Go.RowKit Go.Proofs Go.Maps
set_option linter.unusedVariables false
set_option linter.unusedSimpArgs false

section
variable {w w' : World} {no : List Nat} {A : Option Addr} {c : Nat}
set_option maxHeartbeats 1000000 in
set_option maxRecDepth 100000 in
theorem freshG_calls {l : List Int} (h : Sl w no A c l) (id : Int) (hid : 0 ≤ id ∧ id ≤ 15) (hr : RightP l) : Calls Tryz.prog 18 #[.int .i64 id, .slice A l.length c] w fun e w' => ∃ nb p Fl Fv d, e = .returned (.tuple #[.pointer (some ⟨nb, 0, none⟩), .pointer (some ⟨d, 0, none⟩)]) ∧ NP w' nb p Fl Fv (Nd.new id (Vlt.first 2048) l) ∧ (∀ x ∈ ft nb p Fl Fv, w.heap.size ≤ x) ∧ Below w.heap.size w w' ∧ VltOk (Nd.new id (Vlt.first 2048) l).V 1 ∧ p.Av = none ∧ p.cv = 0 := by
 have HDN := dnew_calls 2048 (by omega) (by omega) w
 rw [show ((2048 : Nat) : Int) = 2048 from rfl] at HDN
 have HDN := hide HDN
 obtain ⟨n, hn⟩ : ∃ n, l.length = n := ⟨_, rfl⟩
 rw [hn]
 have HLN := hide hn
 have HL := hide (And.intro h (And.intro hid hr))
 clear h hn hid hr
 go_enter Tryz.func18, Tryz.ntmps18
 go_wp2_with fail
 with_reducible refine HDN.out.mono ?_
 rintro e w1 ⟨d, F, rfl, hd1, hF1, hb1⟩
 have HO := vopen_calls hd1 (by simp [Dev.new])
 rw [vopen_new (by omega)] at HO
 have HO := hide HO
 have H1 := hide (And.intro hd1 (And.intro hF1 hb1))
 clear hd1 hF1 hb1 HDN
 go_wp2_with fail
 with_reducible refine HO.out.mono ?_
 rintro e w2 ⟨pv, rfl, _, hvo⟩
 obtain ⟨v, F2, rfl, hv2, hvm, hc2, hF2⟩ := hvo rfl
 have hb2 : Below w.heap.size w w2 := Chg.onto H1.out.2.2 H1.out.2.2.size hc2 H1.out.2.1
 have hf2 : ∀ x ∈ F2, w.heap.size ≤ x := fun x hx => (hF2 x hx).elim (H1.out.2.1 x) (fun h => Nat.le_trans H1.out.2.2.size h)
 have HNW := nnewV_calls (no := no) hvm ((Vlt.first_well (n := 2048) (by omega) (by omega)).ok) (by omega) rfl (HL.out.1.below hb2) id HL.out.2.1 (Or.inr HL.out.2.2)
 rw [HLN.out] at HNW
 have HNW := hide HNW
 have H2 := hide (And.intro hb2 hf2)
 clear hv2 hvm hc2 hF2 hb2 hf2 HO hvo
 go_wp2_with fail
 with_reducible refine HNW.out.mono ?_
 rintro e w3 ⟨nb, p, Fl, Fv, rfl, hn3, hok3, hc3, hf3, hav⟩
 have hb3 : Below w.heap.size w w3 := Chg.onto H2.out.1 H2.out.1.size hc3 H2.out.2
 have H3 := hide (And.intro hn3 (And.intro (fun x hx => (hf3 x hx).elim (H2.out.2 x) (fun h => Nat.le_trans H2.out.1.size h)) (And.intro hb3 (And.intro hok3 hav))))
 clear hn3 hok3 hc3 hf3 hb3 hav HNW
 go_wp2
 go_ret2
 exact ⟨nb, p, Fl, Fv, d, rfl, H3.out⟩
theorem fresh_calls (h : Sl w no A c [2]) : Calls Tryz.prog 18 #[.int .i64 2, .slice A 1 c] w fun e w' => ∃ nb p Fl Fv d, e = .returned (.tuple #[.pointer (some ⟨nb, 0, none⟩), .pointer (some ⟨d, 0, none⟩)]) ∧ NP w' nb p Fl Fv (Nd.new 2 (Vlt.first 2048) [2]) ∧ (∀ x ∈ ft nb p Fl Fv, w.heap.size ≤ x) ∧ Below w.heap.size w w' :=
 (freshG_calls h 2 (by omega) (rightP_one (by omega))).mono fun e w' ⟨nb, p, Fl, Fv, d, h1, h2, h3, h4, _⟩ => ⟨nb, p, Fl, Fv, d, h1, h2, h3, h4⟩
end
def At (k : Nat) (N : Nd) : Prop := (k ≤ 26 ∧ W0 k N) ∨ (27 ≤ k ∧ W2 (k - 27) N)
theorem At.tick {k : Nat} {N : Nd} (h : At k N) : At (k + 1) N.tick := by
 rcases h with ⟨hk, h⟩ | ⟨hk, h⟩
 ·by_cases h26 : k = 26
  ·subst h26
   exact Or.inr ⟨by omega, h.lead⟩
  ·exact Or.inl ⟨by omega, h.wait (by omega)⟩
 ·exact Or.inr ⟨by omega, by rw [show k + 1 - 27 = (k - 27) + 1 by omega]; exact h.beat⟩
theorem At.pre {k : Nat} {N : Nd} (h : At k N) (hk : k ≤ 40) : Solo N ∧ N.L.length ≤ 900 ∧ (N.role = 2 → 1 ≤ N.L.length) ∧ N.bt < 2 ^ 57 ∧ (0 ≤ N.quiet ∧ N.quiet ≤ 1000000) ∧ (0 ≤ N.beats ∧ N.beats ≤ 1000000) ∧ ∃ g, VltOk N.V g ∧ g + 1 < 2 ^ 60 := by
 rcases h with ⟨hk, h⟩ | ⟨hk, h⟩
 ·exact ⟨h.solo, by rw [h.L]; simp, fun e => by rw [h.role] at e; omega, by rw [h.bt]; omega, by rw [h.quiet]; omega, by rw [h.beats]; omega, 1, h.V.1.ok, by omega⟩
 ·exact ⟨h.solo, by rw [h.L]; simp, fun _ => by rw [h.L]; simp, by rw [h.bt]; omega, by rw [h.quiet]; omega, by rw [h.beats]; omega, 3, h.V.1.ok, by omega⟩
end Go.Proofs.YteppdlkmjgladaaGreat

namespace Go.Proofs.YteppdlkmjgladaaGreat
open Go.RowKit Go.Proofs Go.Maps
set_option linter.unusedVariables false
set_option linter.unusedSimpArgs false

section
variable {w w' : World}
theorem sl_two {w : World} {b : Nat} (h : Blk w b 3 [.int .i64 2]) : Sl w [] (some ⟨b, 0, none⟩) 1 [2] :=
 ⟨Nat.le_refl _, by simp, ⟨by simp, fun _ => ⟨b, 0, rfl, h.lt, fun j u hu => by rw [Nat.zero_add, h.cell j]; exact hu⟩⟩, fun a ha => by cases ha; exact ⟨rfl, by simp, h.lt⟩⟩
theorem ApT.seen {w w' : World} {A : Option Addr} {c : Nat} {X : List Ap} (h : ApT w w' A c X) (hn : X.length = 2) (hx : ∀ h : 1 < X.length, X[1].con = (2, 1, 1, bi [7])) :
  ∃ g z o c1, A = some ⟨g, 0, none⟩ ∧ 2 ≤ c ∧ g < w'.heap.size ∧ z < w'.heap.size ∧ w'.cell? ⟨g, 4, none⟩ = some (.int .i64 2) ∧ w'.cell? ⟨g, 7, none⟩ = some (.slice (some ⟨z, o, none⟩) 1 c1) ∧ 1 ≤ c1 ∧ w'.cell? ⟨z, o, none⟩ = some (.int .u8 7) := by
 obtain ⟨h1, h2, _⟩ := h
 match X, hn, h1, h2, hx with
 |[x, y], _, h1, h2, hx =>
  have hy := hx (by simp)
  have hyo := h2 y (by simp)
  rcases h1.2 with ⟨h6, _⟩ | ⟨g, cap, cur, e2, hb, hg, hnc, hc, hs, ht⟩
  ·simp at h6
  ·cases e2
   obtain ⟨b1, b2, b3, b4, b5⟩ := hyo
   have e1 : y.i = 2 := congrArg Prod.fst hy
   have e2 : y.e.b = [7] := congrArg (fun z => z.2.2.2) hy
   rw [e2] at b1 b5
   have hgl : g < w'.heap.size := own_lt h1 rfl
   obtain ⟨z, o, hz, hzb, hzc⟩ := b5.2 (by simp)
   refine ⟨g, z, o, y.e.c, rfl, hnc, hgl, hzb.lt, ?_, ?_, b1, ?_⟩
   ·have := h1.cells (g := g) rfl 4 (.int .i64 y.i) rfl
    rw [add_addr, Nat.zero_add, e1] at this
    exact this
   ·have := h1.cells (g := g) rfl 7 (.slice y.e.A y.e.b.length y.e.c) rfl
    rw [add_addr, Nat.zero_add, e2, hz] at this
    exact this
   ·have := hzc 0 7 rfl
    rw [Nat.add_zero] at this
    exact this
theorem run_role (a b c d e f : Value) (w : World) : (Instr.field 35 (.agg #[a, b, c, d, e, f]) 1).run Tryz.prog w = .ok b w := by
 simp [Instr.field, part, asAgg, go_sem, Tryz.underlying35, Tryz.isAgg3, Tryz.isAgg22]
def AtM (w wr : World) (k nb : Nat) : Prop := ∃ p Fl Fv N, At k N ∧ NP wr nb p Fl Fv N ∧ (∀ x ∈ ft nb p Fl Fv, w.heap.size ≤ x) ∧ Below w.heap.size w wr
theorem AtM.tick_calls {w wr : World} {k nb : Nat} (h : AtM w wr k nb) (hk : k ≤ 40) : Calls Tryz.prog 20 #[.pointer (some ⟨nb, 0, none⟩)] wr fun e w' => e = .returned (.tuple #[]) ∧ AtM w w' (k + 1) nb := by
 obtain ⟨p, Fl, Fv, N, ha, hn, hf, hb⟩ := h
 obtain ⟨h1, h2, h3, h4, h5, h6, g, h7, h8⟩ := ha.pre hk
 refine (ntick_calls hn h1 h2 h3 h4 h5 h6 h7 h8).mono ?_
 rintro e w' ⟨rfl, ⟨F', ⟨p', Fl', Fv', hn', rfl⟩, hc, hf'⟩, _⟩
 exact ⟨rfl, p', Fl', Fv', _, ha.tick, hn', fun x hx => (hf' x hx).elim (hf x) (fun h => Nat.le_trans hb.size h), Chg.onto hb hb.size hc hf⟩
set_option maxHeartbeats 4000000 in
set_option maxRecDepth 100000 in
theorem awake_calls (w : World) : Calls Tryz.prog 7 #[] w fun e w' => e = .returned (.bool true) ∧ Below w.heap.size w w' := by
 have r0 := Below.refl w.heap.size w
 obtain ⟨w0, hw0⟩ : ∃ w0, w.alloc (.cells #[.int .i64 2] 3) = w0 := ⟨_, rfl⟩
 have hb0 : Below w.heap.size w w0 := hw0 ▸ belowL r0 _
 have bX : Blk w0 w.heap.size 3 [.int .i64 2] := by rw [← hw0]; exact Blk.new rfl
 have HFR := hide (fresh_calls (sl_two bX))
 have HB := hide hb0
 have HW := hide hw0
 clear hb0 bX hw0
 go_enter Tryz.func7, Tryz.ntmps7
 go_wp2_with fail
 rw [HW.out]
 with_reducible refine HFR.out.mono ?_
 rintro e w1 ⟨nb, p, Fl, Fv, d, rfl, hn1, hf1, hb1⟩
 have HA : Hid (AtM w w1 0 nb) := hide ⟨p, Fl, Fv, _, Or.inl ⟨by omega, new_W0⟩, hn1, fun x hx => Nat.le_trans HB.out.size (hf1 x hx), belowA hb1 HB.out⟩
 clear hn1 hf1 hb1 HFR
 go_wp2
 go_loopw [3, 15, 16, 17, 18, 19, 20] (fun iv _ _ _ _ _ _ wr => ∃ (k : Nat), k ≤ 40 ∧ iv = .int .i64 k ∧ Hid (AtM w wr k nb)) (fun iv _ _ _ _ _ _ _ => 40 - (Go.RowKit.intOf iv).toNat)
 case atStart => exact ⟨0, Nat.zero_le _, rfl, HA⟩
 case round =>
  obtain ⟨k, hk, rfl, hA⟩ := hrel
  by_cases hlt : k < 40
  ·have i1 : (k : Int) < 40 := by omega
   have HT := hide (hA.out.tick_calls hk)
   clear hA
   go_wp2_with fail
   with_reducible refine HT.out.mono ?_
   rintro e w2 ⟨rfl, hA2⟩
   have HA2 := hide hA2
   clear hA2 HT
   go_wp2
   go_roundw
   case rel => exact ⟨k + 1, by omega, by go_num, HA2⟩
   case measure => simp [Go.RowKit.intOf]; omega
  ·have i1 : ¬ (k : Int) < 40 := by omega
   have hA40 : AtM w wr 40 nb := by have := hA.out; rw [show k = 40 by omega] at this; exact this
   clear hA HA
   obtain ⟨p, Fl, Fv, N, ha, hn, hf, hb⟩ := hA40
   have hw2 : W2 13 N := by rcases ha with ⟨h, _⟩ | ⟨_, h⟩; omega; exact h
   obtain ⟨wa, hwa⟩ : ∃ wa, wr.alloc (.cells #[.int .u8 7] 5) = wa := ⟨_, rfl⟩
   have hba : Below wr.heap.size wr wa := hwa ▸ belowL (Below.refl _ _) _
   have bX : Blk wa wr.heap.size 5 (bys [7]) := by rw [← hwa]; exact Blk.new rfl
   have HP := nprop_calls (hn.below hba) hw2.solo (by unfold MatOk; rw [hw2.id, hw2.mat, hw2.L]; simp) hw2.dead hw2.role (by rw [hw2.L]; simp) hw2.V.1.ok (by omega) (bX.rb (c := 1) (by simp) (by simp)) (by simp) (by simp)
   rw [hw2.L, hw2.bt, show ([7] : List Nat).length = 1 from rfl] at HP
   have HP := hide HP
   have HW3 := hide hw2.prop
   have HB3 := hide (And.intro hf (belowA hba hb))
   have HWA := hide hwa
   clear ha hn hf hb hwa bX hba hw2
   go_wp2_with fail
   rw [HWA.out]
   with_reducible refine HP.out.mono ?_
   rintro e w2 ⟨rfl, ⟨F', ⟨p', Fl', Fv', hn', rfl⟩, hc, hf'⟩, _⟩
   have hf2 : ∀ x ∈ ft nb p' Fl' Fv', w.heap.size ≤ x := fun x hx => (hf' x hx).elim (HB3.out.1 x) (fun h => Nat.le_trans HB3.out.2.size h)
   have hb2 : Below w.heap.size w w2 := Chg.onto HB3.out.2 HB3.out.2.size hc HB3.out.1
   obtain ⟨M, hM⟩ : ∃ M, N.prop [7] = M := ⟨_, rfl⟩
   rw [hM] at hn'
   have hW3 := HW3.out
   rw [hM] at hW3
   have hok : ConOk M.L := by
    rw [hW3.L]
    intro x hx
    simp only [List.mem_cons, List.not_mem_nil, or_false] at hx
    rcases hx with rfl | rfl
    ·exact ⟨1, 0, [], rfl, by omega, by omega, by omega, by simp⟩
    ·exact ⟨1, 1, [7], rfl, by omega, by omega, by omega, by simp⟩
   have HAP := hide (napplied_calls (tn := 0) (cn := 2) hn' hok.few (by rw [hW3.L]; simp) hW3.told hW3.com (by omega) (by rw [hW3.L]; simp))
   have H2 := hide (And.intro hf2 (And.intro hb2 (And.intro hW3 hok)))
   clear hn' hc hf' hf2 hb2 hM hW3 hok HP HW3 HB3 HWA
   go_wp2_with fail
   with_reducible refine HAP.out.mono ?_
   rintro e w3 ⟨A, c, X, rfl, hap, hXn, hX, hn3, hc3⟩
   have hb3 : Below w.heap.size w w3 := Chg.onto H2.out.2.1 H2.out.2.1.size hc3 (fun z hz => by rw [List.mem_singleton.1 hz]; exact H2.out.1 nb (ft_mem.2 (Or.inl rfl)))
   obtain ⟨g, z, o, c1, rfl, hc2, hgl, hzl, hs1, hs2, hc1, hs3⟩ := hap.seen hXn (fun h => by
    obtain ⟨_, h2⟩ := hX 1 h
    rw [h2]
    simp only [H2.out.2.2.1.L]
    rfl)
   obtain ⟨n, hn⟩ : ∃ n, X.length = n := ⟨_, rfl⟩
   rw [hn] at hXn ⊢
   obtain rfl : n = 2 := hXn
   have HS := nstatus_calls hn3 H2.out.2.2.2 (show M.L.length ≤ 1000 by rw [H2.out.2.2.1.L]; simp)
   rw [show (M.tell ((2 : Nat) : Int)).role = 2 from H2.out.2.2.1.role] at HS
   have HS := hide HS
   have HB4 := hide hb3
   clear hap hX hn3 hc3 hb3 HAP
   go_wp2_with fail
   with_reducible refine HS.out.mono ?_
   rintro e w4 ⟨Am, cm, rfl, _, hb4⟩
   have HB5 := hide (belowA hb4 HB4.out)
   have t1 := (hb4.cell (p := ⟨g, 4, none⟩) hgl).trans hs1
   have t2 := (hb4.cell (p := ⟨g, 7, none⟩) hgl).trans hs2
   have t3 := (hb4.cell (p := ⟨z, o, none⟩) hzl).trans hs3
   clear hs1 hs2 hs3 hb4 HS
   have HRR := @run_role
   go_wp2_with fail
   go_ret
   exact ⟨rfl, HB5.out⟩
end
end Go.Proofs.YteppdlkmjgladaaGreat
