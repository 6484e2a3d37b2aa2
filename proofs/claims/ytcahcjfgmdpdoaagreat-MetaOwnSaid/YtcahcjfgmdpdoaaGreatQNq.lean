/- One text of: Nq. -/
import Derived.Test.YtcahcjfgmdpdoaaGreatQWE
namespace Go.Proofs.YtcahcjfgmdpdoaaGreat
open Go.RowKit Go.Proofs Go.Maps
set_option linter.unusedVariables false
set_option linter.unusedSimpArgs false

theorem zeros_getD {B : List Nat} (h : ∀ c ∈ B, c = 0) : B.getD 0 0 = 0 := by
 cases B with
 |nil => rfl
 |cons x t => exact h x (List.mem_cons_self ..)
theorem new_bytes (n fr many : Nat) : ∀ c ∈ (((Dev.new n).l.drop fr).take many).flatten, c = 0 := by
 intro c hc
 obtain ⟨s, hs, hcs⟩ := List.mem_flatten.1 hc; have h1 := List.mem_of_mem_drop (List.mem_of_mem_take hs); have h2 := List.eq_of_mem_replicate h1; rw [h2] at hcs
 exact List.eq_of_mem_replicate hcs
theorem jread_zeros {B : List Nat} (h : ∀ c ∈ B, c = 0) (gen n : Nat) : jread B gen n = none := by
 unfold jread; rw [if_pos (Or.inr (by rw [zeros_getD h]; omega))]
theorem jscan_new {n fr many : Nat} (h : fr + many ≤ n) : jscan (Dev.new n) fr many 0 = (0, [], 0) := by
 have hl : (Dev.new n).l.length = n := List.length_replicate ..; unfold jscan; rw [if_neg (by rw [hl]; omega)]
 have hb : (Dev.new n).bytes fr many = (0, (((Dev.new n).l.drop fr).take many).flatten) := by
  unfold Dev.bytes; rw [if_neg (by simp [Dev.new])]
 rw [hb]; simp only []; rw [if_neg (by simp), jscanF_none (by rw [Nat.zero_mul, List.drop_zero]; exact jread_zeros (new_bytes n fr many) _ _)]
theorem wipeF_zeros : ∀ (S : List (List Nat)) (D : Dev) (i : Nat), (∀ s ∈ S, s = zero64) → wipeF S D i false = (0, false, D)
 |[], D, i, _ => rfl
 |s :: t, D, i, h => by
  unfold wipeF; rw [if_pos (h s (List.mem_cons_self ..))]
  exact wipeF_zeros t D (i + 1) (fun x hx => h x (List.mem_cons_of_mem _ hx))
theorem jsweep_new (n fr many : Nat) : jsweep (Dev.new n) fr many = (0, Dev.new n) := by
 unfold jsweep; rw [if_neg (by simp [Dev.new])]; have hz : wipeF (((Dev.new n).l.drop fr).take many) (Dev.new n) fr false = (0, false, Dev.new n) := wipeF_zeros _ _ _ (fun s hs => List.eq_of_mem_replicate (List.mem_of_mem_drop (List.mem_of_mem_take hs))); simp only [hz]
 simp
theorem kvGen_zero : kvGen zero64 = 0 := by decide
theorem kvCheck_new {n fr m : Nat} (h : fr < n) : kvCheck (Dev.new n) fr m = (0, 0, []) := by
 have hr : (Dev.new n).read fr = (0, zero64) := by
  unfold Dev.read; rw [if_neg (by simp [Dev.new]), if_neg (by simp only [Dev.new, List.length_replicate]; omega), Int.toNat_natCast]
  show (0, (List.replicate n zero64).getD fr []) = _
  rw [List.getD_eq_getElem?_getD, List.getElem?_replicate, if_pos h]
  rfl
 unfold kvCheck; rw [hr]; simp only []; rw [if_neg (by simp), kvGen_zero, if_pos (by omega)]
def Vlt.first (n : Nat) : Vlt := ⟨Dev.new n, n / 4, 0, [], ⟨2 * (n / 4), n - 2 * (n / 4), 0, 0, 0, [], false⟩, false⟩
theorem vopen_new {n : Nat} (h : 8 ≤ n) : vopen (Dev.new n) = (0, Vlt.first n) := by
 have hl : (Dev.new n).l.length = n := List.length_replicate ..
 have hp : Vlt.part (Dev.new n) (n / 4) 0 = (0, ⟨2 * (n / 4), n - 2 * (n / 4), 0, 0, 0, [], false⟩, [], Dev.new n) := by
  unfold Vlt.part jopen; rw [hl, jscan_new (by omega)]; simp only []; rw [if_neg (by simp), jsweep_new]
  simp
 have k0 := kvCheck_new (n := n) (fr := 0) (m := n / 4) (by omega); have k1 := kvCheck_new (n := n) (fr := n / 4) (m := n / 4) (by omega); unfold vopen; simp only [hl]; rw [if_neg (by omega)]; simp only [k0, k1, ne_eq, not_true_eq_false, if_false, Nat.lt_irrefl, hp]
 rfl
def Dev.Well (D : Dev) : Prop := D.off = false ∧ D.fuse = -1
theorem Dev.Well.burn {D : Dev} (h : D.Well) : D.burn = (false, D) := by
 unfold Dev.burn; rw [if_neg (by simp [h.1]), if_neg (by rw [h.2]; omega), if_neg (by rw [h.2]; omega)]
theorem Dev.Well.write {D : Dev} (h : D.Well) {i : Nat} {b : List Nat} (hi : i < D.l.length) (hb : b.length = 64) : (D.write (i : Int) b).1 = 0 ∧ (D.write (i : Int) b).2.Well ∧ (D.write (i : Int) b).2.l.length = D.l.length := by
 unfold Dev.write; rw [h.burn]; simp only []; rw [if_neg (by simp), if_neg (by omega)]
 exact ⟨rfl, h, by simp⟩
theorem Dev.Well.flush {D : Dev} (h : D.Well) : D.flush.1 = 0 ∧ D.flush.2.Well ∧ D.flush.2.l.length = D.l.length := by
 unfold Dev.flush; rw [h.burn]; simp only []; rw [if_neg (by simp)]
 exact ⟨rfl, h, rfl⟩
theorem laysF_well : ∀ (k : Nat) (D : Dev) (i : Nat) (b : List Nat), D.Well → i + k ≤ D.l.length → b.length = k * 64 → (laysF k D i b).1 = 0 ∧ (laysF k D i b).2.Well ∧ (laysF k D i b).2.l.length = D.l.length
 |0, D, i, b, h, _, _ => ⟨rfl, h, rfl⟩
 |k + 1, D, i, b, h, hi, hb => by
  have hw := h.write (i := i) (b := b.take 64) (by omega) (by rw [List.length_take]; omega); unfold laysF; simp only []; rw [if_neg (by simp [hw.1])]; have ih := laysF_well k (D.write (i : Int) (b.take 64)).2 (i + 1) (b.drop 64) hw.2.1 (by rw [hw.2.2]; omega) (by rw [List.length_drop]; omega)
  exact ⟨ih.1, ih.2.1, ih.2.2.trans hw.2.2⟩
structure Vlt.Well (V : Vlt) (g k : Nat) : Prop where
 ok : VltOk V g
 gone : V.gone = false
 jgone : V.J.gone = false
 dev : V.D.Well
 gen : V.gen = 0
 n : V.J.n = k
 used : V.J.used ≤ 16 * k
theorem Vlt.Well.put {V : Vlt} {g k : Nat} (h : V.Well g k) (hroom : 16 * (k + 1) ≤ V.D.l.length - 2 * (V.D.l.length / 4)) (hk : k ≤ 1000) (key : Nat) (hkey : key ≤ 1099511627776) (b : List Nat) (hb : b.length ≤ 900) (hbb : ∀ x ∈ b, x < 256) :
  (V.put (key : Int) b).1 = 0 ∧ (V.put (key : Int) b).2.Well (g + 1) (k + 1) ∧ (V.put (key : Int) b).2.D.l.length = V.D.l.length := by
 obtain ⟨j1, j2, j3, j4, j5, j6, j7, j8⟩ := h.ok.j h.gone; obtain ⟨B, hB⟩ : ∃ B, enc key ++ enc 1 ++ encT b = B := ⟨_, rfl⟩; have e1 := enc_len9 (n := key) (by omega); have e2 := enc_len9 (n := 1) (by omega); have e3 := enc_len9 (n := b.length) (by omega)
 have hBl : B.length ≤ 930 := by rw [← hB]; unfold encT; simp only [List.length_append]; omega
 have hBb : ∀ x ∈ B, x < 256 := by
  rw [← hB]
  intro x hx
  unfold encT at hx; simp only [List.mem_append] at hx
  rcases hx with (hx | hx) | (hx | hx)
  ·exact enc_byte _ x hx
  ·exact enc_byte _ x hx
  ·exact enc_byte _ x hx
  ·exact hbb x hx
 have hput : V.put (key : Int) b = V.keep B := by
  unfold Vlt.put; rw [if_neg (by omega), if_neg (by omega), Int.toNat_natCast, hB]
 rw [hput]
 have hgn : V.J.gen = 0 := by rw [j3]; exact h.gen
 have hfo := jform_kv (gen := V.J.gen) (i := V.J.n) (b := B) (by omega) (by have := h.n; omega) hBl; obtain ⟨sz, z1, z2, z3, z4⟩ := jform_ok hfo hBb
 have hadd : ∃ D1, V.J.add V.D B = (0, { V.J with waits := V.J.waits ++ [(V.J.from_ + V.J.used, (jform V.J.gen V.J.n B).2.take 64)], used := V.J.used + sz, n := V.J.n + 1 }, D1) ∧ D1.Well ∧ D1.l.length = V.D.l.length := by
  have hsz : (jform V.J.gen V.J.n B).2.length / 64 = sz := by omega
  have hu := h.used; have hn4 := h.ok.n4; have hla := laysF_well sz V.D (V.J.from_ + V.J.used) ((jform V.J.gen V.J.n B).2.set 0 0) h.dev (by omega) (by rw [List.length_set]; exact z3)
  refine ⟨(laysF sz V.D (V.J.from_ + V.J.used) ((jform V.J.gen V.J.n B).2.set 0 0)).2, ?_, hla.2⟩
  unfold Jrn.add; rw [if_neg (by simp [h.jgone])]; simp only [hsz]; rw [if_neg (by simp [hfo]), if_neg (by omega), if_neg (by simp [hla.1])]
 obtain ⟨D1, ha, hw1, hl1⟩ := hadd; rw [j1, List.nil_append] at ha
 have h64 : ((jform V.J.gen V.J.n B).2.take 64).length = 64 := by rw [List.length_take]; omega
 obtain ⟨J1, hJ1⟩ : ∃ J1, ({ V.J with waits := [(V.J.from_ + V.J.used, (jform V.J.gen V.J.n B).2.take 64)], used := V.J.used + sz, n := V.J.n + 1 } : Jrn) = J1 := ⟨_, rfl⟩; rw [hJ1] at ha
 have hJw : J1.waits = [(V.J.from_ + V.J.used, (jform V.J.gen V.J.n B).2.take 64)] := by rw [← hJ1]
 have hJg : J1.gone = false := by rw [← hJ1]; exact h.jgone
 have hfl : ∃ D2, J1.flush D1 = (0, { J1 with waits := [], gone := false }, D2) ∧ D2.Well ∧ D2.l.length = V.D.l.length := by
  have f1 := hw1.flush; have w1 := f1.2.1.write (i := V.J.from_ + V.J.used) (b := (jform V.J.gen V.J.n B).2.take 64) (by rw [f1.2.2, hl1]; have := h.used; have := h.ok.n4; omega) h64; have f2 := w1.2.1.flush
  refine ⟨(D1.flush.2.write ((V.J.from_ + V.J.used : Nat) : Int) ((jform V.J.gen V.J.n B).2.take 64)).2.flush.2, ?_, f2.2.1, f2.2.2.trans (w1.2.2.trans (f1.2.2.trans hl1))⟩
  unfold Jrn.flush; rw [if_neg (by simp [hJg]), hJw]; simp only [beginsF, f1.1]; rw [if_pos trivial]; simp only [w1.1]; rw [if_pos ⟨trivial, by simp⟩, f2.1]
  rfl
 obtain ⟨D2, hf, hw2, hl2⟩ := hfl
 have hke : V.keep B = (0, { V with J := { J1 with waits := [], gone := false }, D := D2, l := (kvChange V.l B).getD V.l }) := by
  unfold Vlt.keep; rw [if_neg (by simp [h.gone])]; simp only [ha]; rw [if_neg (by omega), if_neg (by simp)]; simp only [hf]; rw [if_neg (by simp)]
 have hok := Vlt.keep_ok (b := B) h.ok hBb (fun e => by rw [ha] at e; simp at e); rw [hke] at hok ⊢
 exact ⟨rfl, ⟨hok, h.gone, rfl, hw2, h.gen, by rw [← hJ1]; show V.J.n + 1 = _; rw [h.n], by rw [← hJ1]; show V.J.used + sz ≤ _; have := h.used; omega⟩, hl2⟩
theorem Vlt.first_well {n : Nat} (h : 8 ≤ n) (h2 : n ≤ 4096) : (Vlt.first n).Well 0 0 := by
 have hl : (Dev.new n).l.length = n := List.length_replicate ..
 refine ⟨⟨by show n / 4 = _; unfold Vlt.first; rw [hl], by unfold Vlt.first; simp only [hl]; omega, Nat.le_refl _, by simp [Vlt.first], fun _ => ?_⟩, rfl, rfl, ⟨rfl, rfl⟩, rfl, rfl, Nat.le_refl _⟩
 unfold Vlt.first; simp only [hl]
 exact ⟨by trivial, by simp [Dev.new], by trivial, by trivial, by trivial, Nat.zero_le _, Nat.le_refl _, by simp⟩
end Go.Proofs.YtcahcjfgmdpdoaaGreat
