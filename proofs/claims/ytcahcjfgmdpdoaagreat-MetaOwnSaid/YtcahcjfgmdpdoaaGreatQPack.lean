/- One text of: Pack. -/
import Derived.Lib.SliceRun
import Derived.WalkArith
import Derived.BigQuiet
import Derived.Test.YtcahcjfgmdpdoaaGreatQBase
set_option maxHeartbeats 1000000
set_option maxRecDepth 100000
namespace Go.Proofs.YtcahcjfgmdpdoaaGreat
set_option linter.unusedVariables false
def enc (n : Nat) : List Nat := if h : n < 128 then [n] else (n % 128 + 128) :: enc (n / 128)
termination_by n
decreasing_by omega
def decF : List Nat → Nat → Option (Nat × Nat)
 |[], _ => none
 |c :: t, i => if i = 9 ∨ (c = 0 ∧ 0 < i) then none else if 128 ≤ c then (decF t (i + 1)).map fun p => (c % 128 + 128 * p.1, p.2) else some (c, i + 1)
def dec (b : List Nat) : Option (Nat × Nat) := decF b 0
def decE (b : List Nat) : Nat := if b.length < 9 ∧ (b.all fun c => 128 ≤ c) then 2 else 3
theorem enc_pos (n : Nat) : 0 < (enc n).length := by
 unfold enc; split <;> simp
theorem enc_byte (n : Nat) : ∀ c ∈ enc n, c < 256 := by
 induction n using Nat.strongRecOn with
 |ind n ih =>
  unfold enc
  split
  ·intro c hc; simp at hc; omega
  ·intro c hc
   rcases List.mem_cons.1 hc with rfl | hc
   ·omega
   ·exact ih (n / 128) (by omega) c hc
theorem enc_len (n k : Nat) (h : n < 2 ^ (7 * k)) (hk : 0 < k) : (enc n).length ≤ k := by
 induction k generalizing n with
 |zero => omega
 |succ k ih =>
  unfold enc
  split
  ·simp
  ·rename_i h1
   cases k with
   |zero => simp at h; omega
   |succ k =>
    have h2 : n / 128 < 2 ^ (7 * (k + 1)) := by
     rw [Nat.div_lt_iff_lt_mul (by omega)]; rw [show 7 * (k + 1 + 1) = 7 * (k + 1) + 7 by omega, Nat.pow_add] at h
     omega
    have := ih (n / 128) h2 (by omega)
    simp; omega
theorem decF_enc (n i : Nat) (t : List Nat) (h : n < 2 ^ (7 * (9 - i))) (hi : i < 9) (hz : 0 < i → 0 < n) : decF (enc n ++ t) i = some (n, i + (enc n).length) := by
 induction n using Nat.strongRecOn generalizing i with
 |ind n ih =>
  unfold enc
  split
  ·rename_i h1
   simp only [List.cons_append, List.nil_append, decF, List.length_cons, List.length_nil]; rw [if_neg (by omega), if_neg (by omega)]
  ·rename_i h1
   simp only [List.cons_append, decF, List.length_cons]; rw [if_neg (by omega), if_pos (by omega)]
   have h8 : i < 8 := by
    rcases Nat.lt_or_ge i 8 with h8 | h8
    ·exact h8
    ·have : i = 8 := by omega
     subst this; simp at h; omega
   have h2 : n / 128 < 2 ^ (7 * (9 - (i + 1))) := by
    rw [Nat.div_lt_iff_lt_mul (by omega)]; rw [show 7 * (9 - i) = 7 * (9 - (i + 1)) + 7 by omega, Nat.pow_add] at h
    omega
   rw [ih (n / 128) (by omega) (i + 1) h2 (by omega) (by omega)]; simp only [Option.map_some]
   congr 2 <;> omega
theorem dec_enc (n : Nat) (t : List Nat) (h : n < 2 ^ 63) : dec (enc n ++ t) = some (n, (enc n).length) := by
 have := decF_enc n 0 t (by simpa using h) (by omega) (by omega); rw [Nat.zero_add] at this
 exact this
theorem decF_some : ∀ (b : List Nat) (i v k : Nat), (∀ c ∈ b, c < 256) → i < 10 → decF b i = some (v, k) → i < k ∧ k - i ≤ b.length ∧ k ≤ 9 ∧ enc v = b.take (k - i) ∧ v < 2 ^ (7 * (9 - i)) ∧ (0 < i → 0 < v)
 |[], i, v, k, _, _, h => by cases h
 |c :: t, i, v, k, hb, hi, h => by
  unfold decF at h
  split at h
  ·cases h
  ·rename_i h1
   split at h
   ·rename_i h2
    cases hd : decF t (i + 1) with
    |none => rw [hd] at h; cases h
    |some p =>
     obtain ⟨v', k'⟩ := p; rw [hd] at h; simp only [Option.map_some, Option.some.injEq, Prod.mk.injEq] at h; obtain ⟨rfl, rfl⟩ := h; have hc := hb c (by simp); obtain ⟨a1, a2, a3, a4, a5, a6⟩ := decF_some t (i + 1) v' k' (fun x hx => hb x (by simp [hx])) (by omega) hd; have a7 := a6 (by omega)
     refine ⟨by omega, by simp; omega, a3, ?_, ?_, by omega⟩
     ·unfold enc
      rw [dif_neg (by omega), show (c % 128 + 128 * v') / 128 = v' by omega, a4, show k' - i = (k' - (i + 1)) + 1 by omega, List.take_succ_cons]
      congr 1
      omega
     ·have e : 7 * (9 - i) = 7 * (9 - (i + 1)) + 7 := by omega
      rw [e, Nat.pow_add]
      omega
   ·simp only [Option.some.injEq, Prod.mk.injEq] at h
    obtain ⟨rfl, rfl⟩ := h
    refine ⟨by omega, by simp, by omega, ?_, ?_, by omega⟩
    ·unfold enc
     rw [dif_pos (by omega), show i + 1 - i = 1 by omega]
     rfl
    ·have e : 7 * (9 - i) = 7 * (9 - (i + 1)) + 7 := by omega
     rw [e, Nat.pow_add]; have : 0 < 2 ^ (7 * (9 - (i + 1))) := Nat.pow_pos (by omega)
     omega
theorem dec_some {b : List Nat} {v k : Nat} (hb : ∀ c ∈ b, c < 256) (h : dec b = some (v, k)) : 0 < k ∧ k ≤ b.length ∧ k ≤ 9 ∧ enc v = b.take k ∧ v < 2 ^ 63 := by
 obtain ⟨a1, a2, a3, a4, a5, _⟩ := decF_some b 0 v k hb (by omega) h; rw [Nat.sub_zero] at *
 exact ⟨a1, a2, a3, a4, by simpa using a5⟩
def encs : List Nat → List Nat
 |[] => []
 |n :: t => enc n ++ encs t
theorem encs_cons (n : Nat) (t : List Nat) : encs (n :: t) = enc n ++ encs t := rfl
theorem encs_app (a b : List Nat) : encs (a ++ b) = encs a ++ encs b := by
 induction a with
 |nil => rfl
 |cons n t ih => rw [List.cons_append, encs_cons, encs_cons, ih, List.append_assoc]
theorem encs_byte : ∀ (l : List Nat), ∀ c ∈ encs l, c < 256
 |[], c, h => by cases h
 |n :: t, c, h => by
  unfold encs at h
  rcases List.mem_append.1 h with h | h
  ·exact enc_byte n c h
  ·exact encs_byte t c h
theorem enc_len9 {n : Nat} (h : n < 2 ^ 63) : (enc n).length ≤ 9 := enc_len n 9 (by simpa using h) (by omega)
theorem encs_len : ∀ (l : List Nat), (∀ n ∈ l, n < 2 ^ 63) → (encs l).length ≤ 9 * l.length
 |[], _ => by simp [encs]
 |n :: t, h => by
  unfold encs; have h1 := enc_len9 (h n (by simp)); have h2 := encs_len t (fun x hx => h x (by simp [hx])); simp only [List.length_append, List.length_cons]
  omega
structure Rdr where
 b : List Nat
 e : Nat
def Rdr.num (r : Rdr) (most : Nat) : Nat × Rdr :=
 if r.e = 0 then
  match dec r.b with
  |none => (0, ⟨r.b, decE r.b⟩)
  |some (v, k) => if most < v then (0, ⟨r.b, 5⟩) else (v, ⟨r.b.drop k, 0⟩)
 else (0, r)
def Rdr.fin (r : Rdr) : Nat := if 0 < r.b.length ∧ r.e = 0 then 3 else r.e
theorem decE_pos (b : List Nat) : decE b ≠ 0 := by unfold decE; split <;> omega
theorem Rdr.num_bad {r : Rdr} (h : r.e ≠ 0) (most : Nat) : r.num most = (0, r) := if_neg h
theorem Rdr.num_enc {n most : Nat} (t : List Nat) (h : n < 2 ^ 63) (hm : n ≤ most) : (⟨enc n ++ t, 0⟩ : Rdr).num most = (n, ⟨t, 0⟩) := by
 unfold Rdr.num; simp only [if_true, dec_enc n t h]; rw [if_neg (by omega), List.drop_left']
 rfl
theorem Rdr.num_ok {r r' : Rdr} {most v : Nat} (hb : ∀ c ∈ r.b, c < 256) (h : r.num most = (v, r')) (he : r'.e = 0) : r.e = 0 ∧ r.b = enc v ++ r'.b ∧ v ≤ most ∧ v < 2 ^ 63 := by
 unfold Rdr.num at h
 split at h
 ·rename_i h0
  split at h
  ·rename_i hd
   cases h
   exact absurd he (decE_pos _)
  ·rename_i v2 k hd
   split at h
   ·cases h
    cases he
   ·cases h
    obtain ⟨a1, a2, a3, a4, a5⟩ := dec_some hb hd
    refine ⟨h0, ?_, by omega, a5⟩
    rw [a4]
    exact (List.take_append_drop k r.b).symm
 ·cases h
  contradiction
theorem Rdr.num_byte {r : Rdr} (hb : ∀ c ∈ r.b, c < 256) (most : Nat) : ∀ c ∈ (r.num most).2.b, c < 256 := by
 unfold Rdr.num
 split
 ·split
  ·exact hb
  ·split
   ·exact hb
   ·exact fun c hc => hb c (List.mem_of_mem_drop hc)
 ·exact hb
theorem Rdr.num_le {r : Rdr} (most : Nat) : (r.num most).1 ≤ most := by
 unfold Rdr.num
 split
 ·split
  ·exact Nat.zero_le _
  ·split
   ·exact Nat.zero_le _
   ·omega
 ·exact Nat.zero_le _
theorem Rdr.num_len {r : Rdr} (most : Nat) : (r.num most).2.b.length ≤ r.b.length := by
 unfold Rdr.num
 split
 ·split
  ·exact Nat.le_refl _
  ·split
   ·exact Nat.le_refl _
   ·simp
 ·exact Nat.le_refl _
def Rdr.nums (r : Rdr) (most : Nat) : Nat → List Nat × Rdr
 |0 => ([], r)
 |k + 1 => let p := r.nums most k; let q := p.2.num most; (p.1 ++ [q.1], q.2)
theorem Rdr.nums_len (r : Rdr) (most k : Nat) : (r.nums most k).1.length = k := by
 induction k with
 |zero => rfl
 |succ k ih => unfold Rdr.nums; simp [ih]
theorem Rdr.nums_le (r : Rdr) (most k : Nat) : (r.nums most k).2.b.length ≤ r.b.length := by
 induction k with
 |zero => exact Nat.le_refl _
 |succ k ih => unfold Rdr.nums; exact Nat.le_trans (Rdr.num_len most) ih
theorem Rdr.nums_byte {r : Rdr} (hb : ∀ c ∈ r.b, c < 256) (most k : Nat) : ∀ c ∈ (r.nums most k).2.b, c < 256 := by
 induction k with
 |zero => exact hb
 |succ k ih => unfold Rdr.nums; exact Rdr.num_byte ih most
theorem Rdr.nums_enc {l : List Nat} {most : Nat} (t : List Nat) (h : ∀ n ∈ l, n < 2 ^ 63 ∧ n ≤ most) : ∀ k (hk : k ≤ l.length), (⟨encs l ++ t, 0⟩ : Rdr).nums most k = (l.take k, ⟨encs (l.drop k) ++ t, 0⟩)
 |0, _ => by simp [Rdr.nums]
 |k + 1, hk => by
  have hlt : k < l.length := by omega
  have ih := nums_enc t h k (by omega); unfold Rdr.nums; simp only [ih]; rw [List.drop_eq_getElem_cons hlt]; have hn := h l[k] (List.getElem_mem _); rw [encs_cons, List.append_assoc, Rdr.num_enc _ hn.1 hn.2]; simp only []; rw [List.take_succ_eq_append_getElem hlt]
theorem Rdr.nums_ok {r : Rdr} {most : Nat} (hb : ∀ c ∈ r.b, c < 256) : ∀ k, (r.nums most k).2.e = 0 → r.e = 0 ∧ r.b = encs (r.nums most k).1 ++ (r.nums most k).2.b ∧ ∀ n ∈ (r.nums most k).1, n ≤ most ∧ n < 2 ^ 63
 |0, h => ⟨h, by simp [Rdr.nums, encs], by simp [Rdr.nums]⟩
 |k + 1, h => by
  unfold Rdr.nums at h ⊢; simp only [] at h ⊢; obtain ⟨q, hq⟩ : ∃ q, (r.nums most k).2.num most = q := ⟨_, rfl⟩; rw [hq] at h ⊢; obtain ⟨a1, a2, a3, a4⟩ := Rdr.num_ok (Rdr.nums_byte hb most k) hq h; obtain ⟨b1, b2, b3⟩ := nums_ok hb k a1
  refine ⟨b1, ?_, ?_⟩
  ·rw [encs_app, List.append_assoc]
   rw [encs_cons, show encs [] = [] from rfl, List.append_nil, ← a2]
   exact b2
  ·intro n hn
   rcases List.mem_append.1 hn with hn | hn
   ·exact b3 n hn
   ·rw [List.mem_singleton.1 hn]; exact ⟨a3, a4⟩
end Go.Proofs.YtcahcjfgmdpdoaaGreat

namespace Go.Proofs.YtcahcjfgmdpdoaaGreat
open Go.RowKit Go.Proofs
set_option linter.unusedVariables false
set_option linter.unusedSimpArgs false

def bys (L : List Nat) : List Value := L.map fun c : Nat => Value.int .u8 c
theorem bys_app (a b : List Nat) : bys (a ++ b) = bys a ++ bys b := by simp [bys]
theorem bys_len (a : List Nat) : (bys a).length = a.length := by simp [bys]
theorem bys_one (a : List Nat) : ∀ u ∈ bys a, u.oneCell' = true := by
 intro u hu
 obtain ⟨c, _, rfl⟩ := List.mem_map.1 hu
 rfl
theorem bys_get {L : List Nat} {k : Nat} (h : k < L.length) : (bys L)[k]? = some (.int .u8 (L[k] : Int)) := by simp [bys, h]
structure Rb (w : World) (no : List Nat) (A : Option Addr) (c : Nat) (L : List Nat) : Prop where
 le : L.length ≤ c
 rd : Reads w w.heap.size 1 A L.length (bys L)
 ap : ∀ a, A = some a → a.spot = none ∧ a.block ∉ no ∧ a.block < w.heap.size
section
variable {w w' : World} {no no' : List Nat} {A : Option Addr} {c : Nat} {L : List Nat}
theorem Rb.chg (h : Rb w no A c L) (hc : Chg no' w w') (hs : ∀ x ∈ no', x ∈ no ∨ w.heap.size ≤ x) : Rb w' no A c L :=
 ⟨h.le, ⟨h.rd.1, fun hn => by
  obtain ⟨b, o, e, hb, hcell⟩ := h.rd.2 hn
  refine ⟨b, o, e, Nat.lt_of_lt_of_le hb hc.size, fun j u hu => ?_⟩
  have hnb : b ∉ no' := fun hx => by
   rcases hs b hx with h1 | h1
   ·exact (h.ap _ e).2.1 h1
   ·omega
  exact (hc.cell (p := ⟨b, o + j, Option.none⟩) hb hnb).trans (hcell j u hu)⟩, fun a ha => ⟨(h.ap a ha).1, (h.ap a ha).2.1, Nat.lt_of_lt_of_le (h.ap a ha).2.2 hc.size⟩⟩
theorem Rb.below (h : Rb w no A c L) (hb : Below w.heap.size w w') : Rb w' no A c L := h.chg (no' := []) (Chg.of_below hb) (fun x hx => by cases hx)
theorem Rb.plus (h : Rb w no A c L) (hs : ∀ x ∈ no', x ∈ no ∨ w.heap.size ≤ x) : Rb w no' A c L := ⟨h.le, h.rd, fun a ha => ⟨(h.ap a ha).1, fun hx => by
 rcases hs _ hx with h1 | h1
 ·exact (h.ap a ha).2.1 h1
 ·have := (h.ap a ha).2.2; omega, (h.ap a ha).2.2⟩⟩
theorem Rb.nil (w : World) (no : List Nat) (c : Nat) : Rb w no none c [] := ⟨Nat.zero_le _, Reads.none_, fun a ha => by cases ha⟩
theorem Rb.at_ (h : Rb w no A c L) (hk : 0 < L.length) : ∃ b o, A = some ⟨b, o, none⟩ ∧ b < w.heap.size ∧ b ∉ no ∧ ∀ (j : Nat) (hj : j < L.length), w.cell? ⟨b, o + j, none⟩ = some (.int .u8 (L[j] : Int)) := by
 obtain ⟨b, o, e, hb, hc⟩ := h.rd.2 hk
 exact ⟨b, o, e, hb, (h.ap _ e).2.1, fun j hj => hc j _ (bys_get hj)⟩
theorem Rb.cut (h : Rb w no A c L) {k : Nat} (hk : k ≤ L.length) : Rb w no (if c = k then A else A.map (·.add (k * 1))) (c - k) (L.drop k) := by
 have hc := h.le; have h1 := h.rd.cut hk hc
 refine ⟨by rw [List.length_drop]; omega, ?_, fun a ha => ?_⟩
 ·rw [List.length_drop, show bys (L.drop k) = (bys L).drop (k * 1) by simp [bys]]
  exact h1
 ·split at ha
  ·exact h.ap a ha
  ·cases A with
   |none => cases ha
   |some x =>
    obtain ⟨b, o, s⟩ := x; obtain ⟨e1, e2, e3⟩ := h.ap _ rfl; simp only at e1; subst e1; simp only [Option.map_some, Option.some.injEq] at ha; rw [add_addr] at ha; subst ha
    exact ⟨rfl, e2, e3⟩
end
def OwnB (w w' : World) (A : Option Addr) (c : Nat) (L : List Nat) : Prop :=
 w'.ownsRow 0 5 1 (.slice A L.length c) L.length (bys L) ∧ ∀ g, A.map Addr.block = some g → w.heap.size ≤ g
theorem OwnB.rb {w w' : World} {A : Option Addr} {c : Nat} {L : List Nat} {no : List Nat} (h : OwnB w w' A c L) (hn : ∀ x ∈ no, x < w.heap.size) : Rb w' no A c L := by
 obtain ⟨A2, c2, e, h1, h2, h3, h4, h5⟩ := own_view h.1
 cases e
 refine ⟨h1, h5 _ (fun g hg => own_lt h.1 hg), fun a ha => ?_⟩
 subst ha
 rcases h.1.2 with ⟨h6, _⟩ | ⟨g, cap, cur, e2, _⟩
 ·cases h6
 ·cases e2
  exact ⟨rfl, fun hx => by have h1 : g < w.heap.size := hn g hx; have := h.2 g rfl; omega, own_lt h.1 rfl⟩
theorem OwnB.below {w w' w'' : World} {A : Option Addr} {c : Nat} {L : List Nat} (h : OwnB w w' A c L) (hb : Below w'.heap.size w' w'') : OwnB w w'' A c L :=
 ⟨own_chg h.1 (Chg.of_below (L := []) hb) (fun _ _ hx => by cases hx), h.2⟩
theorem OwnB.back {w w0 w' : World} {A : Option Addr} {c : Nat} {L : List Nat} (h : OwnB w0 w' A c L) (hb : w.heap.size ≤ w0.heap.size) : OwnB w w' A c L := ⟨h.1, fun g hg => Nat.le_trans hb (h.2 g hg)⟩
theorem Tryz.infoB : (Tryz.prog.info? 5).map (fun i => (i.zero, i.size, i.bytes)) = some (some (.int .u8 0), 1, 1) := by kernel_rfl
theorem cloneB_nil (n c : Nat) (w : World) : Calls Tryz.prog 48 #[.slice none n c] w fun e w' => e = .returned (.slice none 0 0) ∧ w = w' := by
 have q22 : ∀ (w : World) (a : Option Addr) (n c n' c' : Nat), (binOp .eql 42 (.slice a n c) (.slice none n' c')).run Tryz.prog w = .ok (.bool a.isNone) w := fun w a n c n' c' => Lib.run_eql_slice_nil w _ _ a n c n' c' Tryz.underlying42
 go_enter Tryz.func48, Tryz.ntmps48
 go_wp2; go_ret
 exact ⟨rfl, rfl⟩
theorem cloneB_some (b o n c : Nat) (xs : List Value) (w : World) (hl : xs.length = n * 1) (hn : n ≤ 140737488355328) (hc : ∀ j u, xs[j]? = some u → w.cell? ⟨b, o + j, none⟩ = some u) (h1 : ∀ u ∈ xs, u.oneCell' = true) :
  Calls Tryz.prog 48 #[.slice (some ⟨b, o, none⟩) n c] w fun e w' => ∃ v, e = .returned v ∧ w'.ownsRow 0 5 1 v n xs ∧ (∀ g, v.ownBlock = some g → w.heap.size ≤ g) ∧ Below w.heap.size w w' := by
 have q22 : ∀ (w : World) (a : Option Addr) (n c n' c' : Nat), (binOp .eql 42 (.slice a n c) (.slice none n' c')).run Tryz.prog w = .ok (.bool a.isNone) w := fun w a n c n' c' => Lib.run_eql_slice_nil w _ _ a n c n' c' Tryz.underlying42
 obtain ⟨i0, hi, hz0, hz1, hz2⟩ := info_parts Tryz.infoB; have HC := hide hc; clear hc
 go_enter Tryz.func48, Tryz.ntmps48
 go_wp2_with (at_builtin; refine wpList_append_own _ rfl _ _ 42 rfl w.heap.size 5 i0 _ 1 1 Tryz.underlying42 hi hz0 hz1 hz2 rfl (by decide) _ _ _ rfl (World.ownsRow_made w #[] 0 (Nat.le_refl _) (Nat.zero_le _) (by simp)) ⟨b, o, none⟩ n c xs rfl ?qc1 ?qc2 ?qc3 ?qc4 ?qc5 ?qc6 ?_)
 case qc1 => exact hl
 case qc2 =>
  intro j u hj
  rw [add_addr]
  exact Lib.cell?_alloc_some _ (HC.out j u hj)
 case qc3 => exact h1
 case qc4 => unfold maxLen; omega
 case qc5 => omega
 case qc6 => simp
 intro v' w1 hown hgrow hnil
 have hlt := hown.lt; go_wp2; go_ret
 exact ⟨v', rfl, by simpa using own_base hown, fun g hg => (hlt g hg).1, ((Below.refl _ w).alloc (Nat.le_refl _) _).grown hgrow (by simp) (by intro k hk; simp [Value.ownBlock] at hk; omega)⟩
theorem cloneB_zero (a : Addr) (c : Nat) (w : World) :
  Calls Tryz.prog 48 #[.slice (some a) 0 c] w fun e w' => ∃ v, e = .returned v ∧ w'.ownsRow 0 5 1 v 0 [] ∧ (∀ g, v.ownBlock = some g → w.heap.size ≤ g) ∧ Below w.heap.size w w' := by
 have q22 : ∀ (w : World) (a : Option Addr) (n c n' c' : Nat), (binOp .eql 42 (.slice a n c) (.slice none n' c')).run Tryz.prog w = .ok (.bool a.isNone) w := fun w a n c n' c' => Lib.run_eql_slice_nil w _ _ a n c n' c' Tryz.underlying42
 obtain ⟨i0, hi, hz0, hz1, hz2⟩ := info_parts Tryz.infoB
 go_enter Tryz.func48, Tryz.ntmps48
 go_wp2_with (at_builtin; refine wpList_append_own _ rfl _ _ 42 rfl w.heap.size 5 i0 _ 1 1 Tryz.underlying42 hi hz0 hz1 hz2 rfl (by decide) _ _ _ rfl (World.ownsRow_made w #[] 0 (Nat.le_refl _) (Nat.zero_le _) (by simp)) a 0 c [] rfl ?qc1 ?qc2 ?qc3 ?qc4 ?qc5 ?qc6 ?_)
 case qc1 => rfl
 case qc2 =>
  intro j u hj
  simp at hj
 case qc3 => intro u hu; cases hu
 case qc4 => unfold maxLen; omega
 case qc5 => omega
 case qc6 => simp
 intro v' w1 hown hgrow hnil
 have hlt := hown.lt; go_wp2; go_ret
 exact ⟨v', rfl, by simpa using own_base hown, fun g hg => (hlt g hg).1, ((Below.refl _ w).alloc (Nat.le_refl _) _).grown hgrow (by simp) (by intro k hk; simp [Value.ownBlock] at hk; omega)⟩
theorem cloneB_calls (A : Option Addr) (c : Nat) (L : List Nat) (w : World) (hl : L.length ≤ 140737488355328) (h : Reads w w.heap.size 1 A L.length (bys L)) :
  Calls Tryz.prog 48 #[.slice A L.length c] w fun e w' => ∃ A' c', e = .returned (.slice A' L.length c') ∧ OwnB w w' A' c' L ∧ Below w.heap.size w w' := by
 cases A with
 |none =>
  have h0 : L = [] := by
   rcases Nat.eq_zero_or_pos L.length with h0 | h0
   ·exact List.eq_nil_of_length_eq_zero h0
   ·obtain ⟨b, o, h, _⟩ := h.2 h0
    cases h
  subst h0
  refine (cloneB_nil 0 c w).mono fun e w' ⟨he, hw⟩ => ?_
  subst hw
  exact ⟨none, 0, he, ⟨⟨rfl, Or.inl ⟨rfl, rfl⟩⟩, fun g hg => by cases hg⟩, Below.refl _ _⟩
 |some a =>
  rcases Nat.eq_zero_or_pos L.length with h0 | h0
  ·obtain rfl : L = [] := List.eq_nil_of_length_eq_zero h0
   refine (cloneB_zero a c w).mono fun e w' ⟨v, he, hown, hg, hb⟩ => ?_
   obtain ⟨A', c', rfl, _⟩ := own_view hown
   exact ⟨A', c', he, ⟨hown, fun g h => hg g (by rw [owS]; exact h)⟩, hb⟩
  ·obtain ⟨b, o, e, _, hc⟩ := h.2 h0
   cases e
   refine (cloneB_some b o L.length c (bys L) w h.1 hl hc (bys_one L)).mono fun e w' ⟨v, he, hown, hg, hb⟩ => ?_
   obtain ⟨A', c', rfl, _⟩ := own_view hown
   exact ⟨A', c', he, ⟨hown, fun g h => hg g (by rw [owS]; exact h)⟩, hb⟩
theorem u8w (m : Nat) : IntKind.u8.wrap (m : Int) = ((m % 256 : Nat) : Int) := by
 unfold IntKind.wrap; rw [if_neg (by simp [IntKind.signed])]
 show (m : Int) % 256 = _
 omega
theorem i64w (m : Nat) (h : m < 2 ^ 63) : IntKind.i64.wrap (m : Int) = m := IntWalk.i64_in _ (by omega)
theorem or128 (m : Nat) : bits BinOp.or IntKind.u8 ((m : Int) % 256) 128 = (m : Int) % 128 + 128 := by
 have h : ∀ a : BitVec 8, (a ||| 128#8).toNat = a.toNat % 128 + 128 := by decide
 unfold bits
 have e : BitVec.ofInt IntKind.u8.bits ((m : Int) % 256) = BitVec.ofNat 8 (m % 256) := by
  rw [show (m : Int) % 256 = ((m % 256 : Nat) : Int) by omega]
  exact BitVec.ofInt_natCast ..
 rw [e]
 show IntKind.u8.wrap ((BitVec.ofNat 8 (m % 256) ||| 128#8).toNat : Int) = _
 rw [h, BitVec.toNat_ofNat, u8w]
 omega
theorem and127 (m : Nat) : bits BinOp.and IntKind.u8 (m : Int) 127 = (m : Int) % 128 := by
 have h : ∀ a : BitVec 8, (a &&& 127#8).toNat = a.toNat % 128 := by decide
 unfold bits; have e : BitVec.ofInt IntKind.u8.bits (m : Int) = BitVec.ofNat 8 m := BitVec.ofInt_natCast ..; rw [e]
 show IntKind.u8.wrap ((BitVec.ofNat 8 m &&& 127#8).toNat : Int) = _
 rw [h, BitVec.toNat_ofNat, u8w]
 omega
theorem shl7 (c i : Nat) (hc : c < 128) (hi : i < 9) : IntKind.i64.wrap ((c : Int) * 2 ^ ((7 : Int) * i).toNat) = ((c * 2 ^ (7 * i) : Nat) : Int) := by
 have e : ((7 : Int) * i).toNat = 7 * i := by omega
 have h1 : c * 2 ^ (7 * i) < 2 ^ 63 := by
  have h2 : (2 : Nat) ^ (7 * i) ≤ 2 ^ 56 := Nat.pow_le_pow_right (by omega) (by omega)
  calc c * 2 ^ (7 * i) ≤ 127 * 2 ^ 56 := Nat.mul_le_mul (by omega) h2
   _ < 2 ^ 63 := by decide
 rw [e, ← i64w _ h1]
 simp
theorem or_low (v c i : Nat) (hv : v < 2 ^ (7 * i)) (hc : c < 128) (hi : i < 9) : bits BinOp.or IntKind.i64 (v : Int) ((c * 2 ^ (7 * i) : Nat) : Int) = ((v + c * 2 ^ (7 * i) : Nat) : Int) := by
 have h2 : (2 : Nat) ^ (7 * i) ≤ 2 ^ 56 := Nat.pow_le_pow_right (by omega) (by omega); have h1 : c * 2 ^ (7 * i) ≤ 127 * 2 ^ 56 := Nat.mul_le_mul (by omega) h2
 have h3 : v + c * 2 ^ (7 * i) < 2 ^ 63 := by omega
 have h4 := Nat.two_pow_add_eq_or_of_lt hv c; unfold bits; have e1 : BitVec.ofInt IntKind.i64.bits (v : Int) = BitVec.ofNat 64 v := BitVec.ofInt_natCast ..; have e2 : BitVec.ofInt IntKind.i64.bits ((c * 2 ^ (7 * i) : Nat) : Int) = BitVec.ofNat 64 (c * 2 ^ (7 * i)) := BitVec.ofInt_natCast ..; rw [e1, e2]
 show IntKind.i64.wrap ((BitVec.ofNat 64 v ||| BitVec.ofNat 64 (c * 2 ^ (7 * i))).toNat : Int) = _
 have e3 : v ||| c * 2 ^ (7 * i) = v + c * 2 ^ (7 * i) := by
  rw [Nat.or_comm, Nat.mul_comm c, ← h4, Nat.add_comm]
 rw [BitVec.toNat_or, BitVec.toNat_ofNat, BitVec.toNat_ofNat, Nat.mod_eq_of_lt (by omega), Nat.mod_eq_of_lt (by omega), e3, i64w _ h3]
def WR (w : World) (b : Nat) (g : Option Nat) (L : List Nat) : Prop :=
 ∃ A c, Blk w b 78 [.slice A L.length c] ∧ w.ownsRow 0 5 1 (.slice A L.length c) L.length (bys L) ∧ A.map Addr.block = g ∧ g ≠ some b
section
variable {w w' : World} {b : Nat} {g : Option Nat} {L : List Nat} {no : List Nat}
theorem WR.chg (h : WR w b g L) (hc : Chg no w w') (hb : b ∉ no) (hg : ∀ x, g = some x → x ∉ no) : WR w' b g L := by
 obtain ⟨A, c, h1, h2, h3, h4⟩ := h
 exact ⟨A, c, h1.chg hc hb, own_chg h2 hc (fun x hx => by rw [owS, h3] at hx; exact hg x hx), h3, h4⟩
theorem WR.below (h : WR w b g L) (hb : Below w.heap.size w w') : WR w' b g L := h.chg (no := []) (Chg.of_below hb) (by simp) (by simp)
theorem WR.lt (h : WR w b g L) : b < w.heap.size := by obtain ⟨A, c, h1, _⟩ := h; exact h1.lt
theorem WR.glt (h : WR w b g L) : ∀ x, g = some x → x < w.heap.size := by
 obtain ⟨A, c, h1, h2, h3, h4⟩ := h
 intro x hx
 exact own_lt h2 (by rw [owS, h3]; exact hx)
theorem WR.new (w : World) : WR (w.alloc (.cells #[.slice none 0 0] 78)) w.heap.size none [] :=
 ⟨none, 0, Blk.new (cs := [.slice none 0 0]) rfl, World.ownsRow_nil _ _ _ _, rfl, by simp⟩
end
def Wrote (w w' : World) (b : Nat) (g : Option Nat) (L : List Nat) : Prop :=
 ∃ g', WR w' b g' L ∧ Chg (b :: g.toList) w w' ∧ (g' = g ∨ ∃ x, g' = some x ∧ w.heap.size ≤ x)
theorem Wrote.step {w w1 w2 : World} {b : Nat} {g g1 : Option Nat} {L2 : List Nat} (h2 : Chg (b :: g.toList) w w1) (h3 : g1 = g ∨ ∃ x, g1 = some x ∧ w.heap.size ≤ x) (k : Wrote w1 w2 b g1 L2) : Wrote w w2 b g L2 := by
 obtain ⟨g2, k1, k2, k3⟩ := k
 refine ⟨g2, k1, h2.trans k2 (fun x hx => ?_), ?_⟩
 ·rcases List.mem_cons.1 hx with rfl | hx
  ·exact Or.inl (by simp)
  ·rcases h3 with rfl | ⟨y, rfl, hy⟩
   ·exact Or.inl (by simp [hx])
   ·have : x = y := by simpa [eq_comm] using hx
    exact Or.inr (by omega)
 ·rcases k3 with rfl | ⟨y, rfl, hy⟩
  ·exact h3
  ·exact Or.inr ⟨y, rfl, Nat.le_trans h2.size hy⟩
theorem Wrote.trans {w w1 w2 : World} {b : Nat} {g : Option Nat} {L1 L2 : List Nat} (h : Wrote w w1 b g L1) (k : ∀ g1, WR w1 b g1 L1 → Wrote w1 w2 b g1 L2) : Wrote w w2 b g L2 := by
 obtain ⟨g1, h1, h2, h3⟩ := h
 exact Wrote.step h2 h3 (k g1 h1)
theorem Wrote.refl {w : World} {b : Nat} {g : Option Nat} {L : List Nat} (h : WR w b g L) : Wrote w w b g L := ⟨g, h, Chg.refl _ _, Or.inl rfl⟩
theorem WR.push {wr w4 : World} {b : Nat} {g1 : Option Nat} {L1 : List Nat} {A : Option Addr} {c g2 cap2 y : Nat} {x : Int} {o : Obj} (k1 : Blk wr b 78 [.slice A L1.length c]) (k2 : wr.ownsRow 0 5 1 (.slice A L1.length c) L1.length (bys L1)) (k3 : A.map Addr.block = g1) (k4 : g1 ≠ some b)
  (hx : x = y) (hown : w4.ownsRow 0 5 1 (.slice (some ⟨g2, 0, none⟩) (L1.length + 1) cap2) (L1.length + 1) (bys L1 ++ [.int .u8 x])) (hch : Chg (A.map Addr.block).toList (wr.alloc o) w4) (hor : A.map Addr.block = some g2 ∨ g2 = wr.heap.size + 1) :
  Blk w4 b 78 [.slice A L1.length c] ∧ Wrote wr (w4.setCell ⟨b, 0, none⟩ (.slice (some ⟨g2, 0, none⟩) (L1.length + 1) cap2)) b g1 (L1 ++ [y]) := by
 subst hx; have hb := k1.lt
 have hbn : b ∉ (A.map Addr.block).toList := fun h => by
  rw [k3] at h
  exact k4 (by simpa using h)
 have hF : Blk w4 b 78 [.slice A L1.length c] := (k1.alloc o).chg hch hbn
 have hgb : some g2 ≠ some b := fun e => by
  cases e
  rcases hor with h | h
  ·rw [k3] at h; exact k4 h
  ·omega
 have hs := hF.set 0 (.slice (some ⟨g2, 0, none⟩) (L1.length + 1) cap2)
 refine ⟨hF, some g2, ⟨some ⟨g2, 0, none⟩, cap2, by simpa using hs, ?_, rfl, hgb⟩, ?_, ?_⟩
 ·have h1 := own_chg (L := [b]) hown ((Chg.refl [b] w4).setCell (p := ⟨b, 0, none⟩) (Or.inl (by simp)) (.slice (some ⟨g2, 0, none⟩) (L1.length + 1) cap2)) (fun g hg => by
   rw [owS] at hg
   cases hg
   simpa using fun e => hgb (by rw [e]))
  rw [bys_app]
  simpa [bys] using h1
 ·have h0 : Chg (b :: g1.toList) wr w4 := ((Chg.refl _ wr).alloc o).trans hch (fun x hx => Or.inl (by rw [k3] at hx; simp [hx]))
  exact h0.setCell (Or.inl (by simp)) _
 ·rcases hor with h | h
  ·exact Or.inl (by rw [← k3, h])
  ·exact Or.inr ⟨g2, rfl, by omega⟩
theorem wnum_calls (w : World) (b : Nat) (g : Option Nat) (L : List Nat) (n : Int) (h : WR w b g L) (hn : n < 2 ^ 63) (hl : L.length ≤ 1000000) :
  Calls Tryz.prog 28 #[.pointer (some ⟨b, 0, none⟩), .int .i64 n] w fun e w' => e = .returned (.tuple #[]) ∧ Wrote w w' b g (L ++ enc n.toNat) := by
 obtain ⟨i0, hi, hz0, hz1, hz2⟩ := info_parts Tryz.infoB; obtain ⟨N, hN⟩ : ∃ N : Nat, n.toNat = N := ⟨_, rfl⟩
 have hNl : N < 2 ^ 63 := by omega
 have hle : (enc N).length ≤ 9 := enc_len9 hNl; rw [hN]; have H := hide h; have HLE := hide hle; have HNL := hide hNl
 rcases Int.lt_or_le n 0 with hneg | hpos
 ·have HN0 : Hid (N = 0) := hide (by omega)
  clear hN h hn hle hNl
  go_enter Tryz.func28, Tryz.ntmps28
  go_wp2
  go_loopw [1, 6, 7, 8, 9, 10, 11, 12, 13, 14, 15, 16, 17, 18, 19, 20, 21] (fun n _ _ _ _ _ _ _ _ _ _ _ _ _ _ _ _ wr => ∃ (m : Nat) (L1 : List Nat), n = .int .i64 m ∧ m ≤ N ∧ L1 ++ enc m = L ++ enc N ∧ Wrote w wr b g L1) (fun n _ _ _ _ _ _ _ _ _ _ _ _ _ _ _ _ _ => (intOf n).toNat)
  case atStart => exact ⟨N, L, by first | rfl | (rw [HN0.out]; rfl), Nat.le_refl _, rfl, Wrote.refl H.out⟩
  case round =>
   obtain ⟨m, L1, rfl, hmN, he, hW⟩ := hrel; obtain ⟨g1, ⟨A, c, k1, k2, k3, k4⟩, hch, hor⟩ := hW; have c0 := k1.cell 0; simp only [List.getElem?_cons_zero] at c0; have HE := hide he; have HWR := hd2 hch hor; have K1 := hide k1; have K2 := hide k2; have K3 := hide k3; have K4 := hide k4; have HL1 := hide (show L1.length ≤ 1000010 by have := congrArg List.length HE.out; have := HLE.out; simp only [List.length_append] at *; omega); clear he hch hor k1 k2 k3 k4
   by_cases hlt : m < 128
   ·have i1 : ¬ (128 ≤ (m : Int)) := by omega
    go_wp2_with (at_builtin; refine app_law rfl _ _ 42 rfl 5 i0 _ 1 1 Tryz.underlying42 hi hz0 hz1 hz2 rfl (by decide) (.slice A L1.length c) L1.length (bys L1) rfl (K2.out.alloc _) wr.heap.size 1 1 [.int .u8 (m : Int)] rfl (Blk.new rfl) rfl ?c1 (by decide) ?c3 ?c4 ?_)
    case c1 => first | rfl | (intro u hu; simp at hu; subst hu; rfl)
    case c3 => have := HL1.out; unfold maxLen; omega
    case c4 => have := HL1.out; omega
    intro g2 cap2 w4 hown2 hch2 hor2 hlt2
    rw [owS] at hch2 hor2; have F := WR.push (y := m) K1.out K2.out K3.out K4.out (by omega) hown2 hch2 (by simpa using hor2); have c4 := F.1.cell 0; have f4 := F.1.frozen 0; simp only [List.getElem?_cons_zero] at c4
    have FW : Hid (Wrote w (w4.setCell ⟨b, 0, none⟩ (.slice (some ⟨g2, 0, none⟩) (L1.length + 1) cap2)) b g (L ++ enc N)) := hide (by
     have h1 := HE.out
     have h2 : enc m = [m] := by unfold enc; rw [dif_pos hlt]
     rw [h2] at h1; rw [← h1]
     exact Wrote.step HWR.out.1 HWR.out.2 F.2)
    clear hown2 hch2 hor2 hlt2 F c0; go_wp2
    go_end0
    exact ⟨rfl, FW.out⟩
   ·have i1 : 128 ≤ (m : Int) := by omega
    have o1 := or128 m
    go_wp2_with (at_builtin; refine app_law rfl _ _ 42 rfl 5 i0 _ 1 1 Tryz.underlying42 hi hz0 hz1 hz2 rfl (by decide) (.slice A L1.length c) L1.length (bys L1) rfl (K2.out.alloc _) wr.heap.size 1 1 [.int .u8 ((m : Int) % 128 + 128)] rfl (Blk.new rfl) rfl ?c1 (by decide) ?c3 ?c4 ?_)
    case c1 => intro u hu; simp at hu; subst hu; rfl
    case c3 => have := HL1.out; unfold maxLen; omega
    case c4 => have := HL1.out; omega
    intro g2 cap2 w4 hown2 hch2 hor2 hlt2
    rw [owS] at hch2 hor2; have F := WR.push (y := m % 128 + 128) K1.out K2.out K3.out K4.out (by omega) hown2 hch2 (by simpa using hor2); have c4 := F.1.cell 0; have f4 := F.1.frozen 0; simp only [List.getElem?_cons_zero] at c4; clear hown2 hch2 hor2 hlt2 c0
    have FW : Hid (Wrote w (w4.setCell ⟨b, 0, none⟩ (.slice (some ⟨g2, 0, none⟩) (L1.length + 1) cap2)) b g (L1 ++ [m % 128 + 128]) ∧ (L1 ++ [m % 128 + 128]) ++ enc (m / 128) = L ++ enc N) := hide ⟨Wrote.step HWR.out.1 HWR.out.2 F.2, by
     have h1 := HE.out
     have h2 : enc m = (m % 128 + 128) :: enc (m / 128) := by conv => lhs; unfold enc; rw [dif_neg hlt]
     rw [h2] at h1; rw [List.append_assoc]
     exact h1⟩
    clear F o1; go_wp2
    go_roundw
    case rel => exact ⟨m / 128, _, by go_num, by omega, FW.out.2, FW.out.1⟩
    case measure => simp [intOf]; omega
 ·obtain rfl : n = (N : Int) := by omega
  clear hN h hn hle hNl
  go_enter Tryz.func28, Tryz.ntmps28
  go_wp2
  go_loopw [1, 6, 7, 8, 9, 10, 11, 12, 13, 14, 15, 16, 17, 18, 19, 20, 21] (fun n _ _ _ _ _ _ _ _ _ _ _ _ _ _ _ _ wr => ∃ (m : Nat) (L1 : List Nat), n = .int .i64 m ∧ m ≤ N ∧ L1 ++ enc m = L ++ enc N ∧ Wrote w wr b g L1) (fun n _ _ _ _ _ _ _ _ _ _ _ _ _ _ _ _ _ => (intOf n).toNat)
  case atStart => exact ⟨N, L, by first | rfl | (rw [HN0.out]; rfl), Nat.le_refl _, rfl, Wrote.refl H.out⟩
  case round =>
   obtain ⟨m, L1, rfl, hmN, he, hW⟩ := hrel; obtain ⟨g1, ⟨A, c, k1, k2, k3, k4⟩, hch, hor⟩ := hW; have c0 := k1.cell 0; simp only [List.getElem?_cons_zero] at c0; have HE := hide he; have HWR := hd2 hch hor; have K1 := hide k1; have K2 := hide k2; have K3 := hide k3; have K4 := hide k4; have HL1 := hide (show L1.length ≤ 1000010 by have := congrArg List.length HE.out; have := HLE.out; simp only [List.length_append] at *; omega); clear he hch hor k1 k2 k3 k4
   by_cases hlt : m < 128
   ·have i1 : ¬ (128 ≤ (m : Int)) := by omega
    go_wp2_with (at_builtin; refine app_law rfl _ _ 42 rfl 5 i0 _ 1 1 Tryz.underlying42 hi hz0 hz1 hz2 rfl (by decide) (.slice A L1.length c) L1.length (bys L1) rfl (K2.out.alloc _) wr.heap.size 1 1 [.int .u8 (m : Int)] rfl (Blk.new rfl) rfl ?c1 (by decide) ?c3 ?c4 ?_)
    case c1 => first | rfl | (intro u hu; simp at hu; subst hu; rfl)
    case c3 => have := HL1.out; unfold maxLen; omega
    case c4 => have := HL1.out; omega
    intro g2 cap2 w4 hown2 hch2 hor2 hlt2
    rw [owS] at hch2 hor2; have F := WR.push (y := m) K1.out K2.out K3.out K4.out (by omega) hown2 hch2 (by simpa using hor2); have c4 := F.1.cell 0; have f4 := F.1.frozen 0; simp only [List.getElem?_cons_zero] at c4
    have FW : Hid (Wrote w (w4.setCell ⟨b, 0, none⟩ (.slice (some ⟨g2, 0, none⟩) (L1.length + 1) cap2)) b g (L ++ enc N)) := hide (by
     have h1 := HE.out
     have h2 : enc m = [m] := by unfold enc; rw [dif_pos hlt]
     rw [h2] at h1; rw [← h1]
     exact Wrote.step HWR.out.1 HWR.out.2 F.2)
    clear hown2 hch2 hor2 hlt2 F c0; go_wp2
    go_end0
    exact ⟨rfl, FW.out⟩
   ·have i1 : 128 ≤ (m : Int) := by omega
    have o1 := or128 m
    go_wp2_with (at_builtin; refine app_law rfl _ _ 42 rfl 5 i0 _ 1 1 Tryz.underlying42 hi hz0 hz1 hz2 rfl (by decide) (.slice A L1.length c) L1.length (bys L1) rfl (K2.out.alloc _) wr.heap.size 1 1 [.int .u8 ((m : Int) % 128 + 128)] rfl (Blk.new rfl) rfl ?c1 (by decide) ?c3 ?c4 ?_)
    case c1 => intro u hu; simp at hu; subst hu; rfl
    case c3 => have := HL1.out; unfold maxLen; omega
    case c4 => have := HL1.out; omega
    intro g2 cap2 w4 hown2 hch2 hor2 hlt2
    rw [owS] at hch2 hor2; have F := WR.push (y := m % 128 + 128) K1.out K2.out K3.out K4.out (by omega) hown2 hch2 (by simpa using hor2); have c4 := F.1.cell 0; have f4 := F.1.frozen 0; simp only [List.getElem?_cons_zero] at c4; clear hown2 hch2 hor2 hlt2 c0
    have FW : Hid (Wrote w (w4.setCell ⟨b, 0, none⟩ (.slice (some ⟨g2, 0, none⟩) (L1.length + 1) cap2)) b g (L1 ++ [m % 128 + 128]) ∧ (L1 ++ [m % 128 + 128]) ++ enc (m / 128) = L ++ enc N) := hide ⟨Wrote.step HWR.out.1 HWR.out.2 F.2, by
     have h1 := HE.out
     have h2 : enc m = (m % 128 + 128) :: enc (m / 128) := by conv => lhs; unfold enc; rw [dif_neg hlt]
     rw [h2] at h1; rw [List.append_assoc]
     exact h1⟩
    clear F o1; go_wp2
    go_roundw
    case rel => exact ⟨m / 128, _, by go_num, by omega, FW.out.2, FW.out.1⟩
    case measure => simp [intOf]; omega
theorem WR.rb {w : World} {b : Nat} {g : Option Nat} {L : List Nat} (h : WR w b g L) : ∃ A c, Blk w b 78 [.slice A L.length c] ∧ Rb w [b] A c L := by
 obtain ⟨A, c, h1, h2, h3, h4⟩ := h
 refine ⟨A, c, h1, ?_⟩
 obtain ⟨A2, c2, e, k1, k2, k3, k4, k5⟩ := own_view h2
 cases e
 refine ⟨k1, k5 _ (fun g hg => own_lt h2 hg), fun a ha => ?_⟩
 subst ha
 rcases h2.2 with ⟨h6, _⟩ | ⟨g, cap, cur, e2, _⟩
 ·cases h6
 ·cases e2
  refine ⟨rfl, fun hx => h4 ?_, own_lt h2 rfl⟩
  rw [← h3]
  simpa using hx
theorem wbytes_calls (w : World) (b : Nat) (g : Option Nat) (L : List Nat) (h : WR w b g L) (hl : L.length ≤ 1000000) :
  Calls Tryz.prog 35 #[.pointer (some ⟨b, 0, none⟩)] w fun e w' => ∃ A c, e = .returned (.slice A L.length c) ∧ OwnB w w' A c L ∧ Below w.heap.size w w' := by
 obtain ⟨A, c, h1, h2⟩ := h.rb; have c0 := h1.cell 0; simp only [List.getElem?_cons_zero] at c0; have H := hide (cloneB_calls A c L w (by omega) h2.rd); clear h h1 h2
 go_enter Tryz.func35, Tryz.ntmps35
 go_wp2_with fail; refine H.out.mono ?_; rintro e w' ⟨A2, c2, rfl, ho, hb⟩; have HO := hd2 ho hb; clear ho hb; go_wp2; go_ret
 exact ⟨A2, c2, rfl, HO.out.1, HO.out.2⟩

structure RD (w : World) (b : Nat) (A : Option Addr) (c : Nat) (r : Rdr) : Prop where
 blk : Blk w b 183 [.slice A r.b.length c, .int .i64 (r.e : Int)]
 rb : Rb w [b] A c r.b
 ok : ∀ x ∈ r.b, x < 256
def RO (w : World) (b : Nat) (no : List Nat) (r : Rdr) : Prop := ∃ A c, RD w b A c r ∧ ∀ a, A = some a → a.block ∉ no
theorem RO.chg {w w' : World} {b : Nat} {r : Rdr} {no no' : List Nat} (h : RO w b no r) (hc : Chg no' w w') (hb : b ∉ no') (hs : ∀ x ∈ no', x ∈ no ∨ w.heap.size ≤ x) : RO w' b no r := by
 obtain ⟨A, c, ⟨h1, h2, h3⟩, h4⟩ := h
 refine ⟨A, c, ⟨h1.chg hc hb, ?_, h3⟩, h4⟩
 have h5 : Rb w (b :: no) A c r.b := ⟨h2.le, h2.rd, fun a ha => ⟨(h2.ap a ha).1, fun hx => by
  rcases List.mem_cons.1 hx with e | hx
  ·exact (h2.ap a ha).2.1 (by simp [e])
  ·exact h4 a ha hx, (h2.ap a ha).2.2⟩⟩
 have h6 := h5.chg hc (fun x hx => (hs x hx).imp (fun h => List.mem_cons_of_mem _ h) id)
 exact ⟨h6.le, h6.rd, fun a ha => ⟨(h6.ap a ha).1, fun hx => (h6.ap a ha).2.1 (by rw [List.mem_singleton.1 hx]; exact List.mem_cons_self ..), (h6.ap a ha).2.2⟩⟩
theorem RO.below {w w' : World} {b : Nat} {no : List Nat} {r : Rdr} (h : RO w b no r) (hb : Below w.heap.size w w') : RO w' b no r := by
 obtain ⟨A, c, ⟨h1, h2, h3⟩, h4⟩ := h
 exact ⟨A, c, ⟨h1.below hb, h2.below hb, h3⟩, h4⟩
theorem RO.plus {w : World} {b : Nat} {no no' : List Nat} {r : Rdr} (h : RO w b no r) (hs : ∀ x ∈ no', x ∈ no ∨ w.heap.size ≤ x) : RO w b no' r := by
 obtain ⟨A, c, ⟨h1, h2, h3⟩, h4⟩ := h
 refine ⟨A, c, ⟨h1, h2, h3⟩, fun a ha hx => ?_⟩
 rcases hs _ hx with h | h
 ·exact h4 a ha h
 ·have := (h2.ap a ha).2.2; omega
theorem RO.lt {w : World} {b : Nat} {no : List Nat} {r : Rdr} (h : RO w b no r) : b < w.heap.size := by obtain ⟨A, c, ⟨h1, _⟩, _⟩ := h; exact h1.lt
theorem RO.ok {w : World} {b : Nat} {no : List Nat} {r : Rdr} (h : RO w b no r) : ∀ x ∈ r.b, x < 256 := by obtain ⟨A, c, ⟨_, _, h3⟩, _⟩ := h; exact h3
theorem RD.fail {w : World} {b : Nat} {A : Option Addr} {c : Nat} {l : List Nat} {x : Nat} (h : RD w b A c ⟨l, 0⟩) : RD (w.setCell ⟨b, 1, none⟩ (.int .i64 (x : Int))) b A c ⟨l, x⟩ ∧ Chg [b] w (w.setCell ⟨b, 1, none⟩ (.int .i64 (x : Int))) := by
 have hc : Chg [b] w (w.setCell ⟨b, 1, none⟩ (.int .i64 (x : Int))) := (Chg.refl _ _).setCell (Or.inl (by simp)) _
 exact ⟨⟨h.blk.set 1 _, h.rb.chg hc (fun y hy => Or.inl hy), h.ok⟩, hc⟩
theorem fail_calls (w : World) (b : Nat) (A : Option Addr) (c : Nat) (l : List Nat) (x : Nat) (h : RD w b A c ⟨l, 0⟩) :
  Calls Tryz.prog 104 #[.pointer (some ⟨b, 0, none⟩), .int .i64 (x : Int)] w fun e w' => e = .returned (.int .i64 0) ∧ RD w' b A c ⟨l, x⟩ ∧ Chg [b] w w' := by
 have c1 := h.blk.cell 1; have f1 := h.blk.frozen 1; simp only [List.getElem?_cons_succ, List.getElem?_cons_zero] at c1; have H := hide (h.fail (x := x)); clear h
 go_enter Tryz.func104, Tryz.ntmps104
 go_wp2; go_ret
 exact ⟨rfl, H.out.1, H.out.2⟩
theorem RD.below {w w' : World} {b : Nat} {A : Option Addr} {c : Nat} {r : Rdr} (h : RD w b A c r) (hb : Below w.heap.size w w') : RD w' b A c r := ⟨h.blk.below hb, h.rb.below hb, h.ok⟩
theorem fail_no (w : World) (b : Nat) (A : Option Addr) (c : Nat) (l : List Nat) (e : Nat) (x : Int) (h : RD w b A c ⟨l, e⟩) (he : e ≠ 0) :
  Calls Tryz.prog 104 #[.pointer (some ⟨b, 0, none⟩), .int .i64 x] w fun e w' => e = .returned (.int .i64 0) ∧ Below w.heap.size w w' := by
 have c1 := h.blk.cell 1; simp only [List.getElem?_cons_succ, List.getElem?_cons_zero] at c1
 have i1 : ¬ ((e : Int) = 0) := by omega
 clear h
 go_enter Tryz.func104, Tryz.ntmps104
 go_wp2; go_ret
 exact ⟨rfl, Below.refl _ _⟩
theorem rerr_calls (w : World) (b : Nat) (no : List Nat) (r : Rdr) (h : RO w b no r) :
  Calls Tryz.prog 54 #[.pointer (some ⟨b, 0, none⟩)] w fun e w' => e = .returned (.int .i64 (r.e : Int)) ∧ Below w.heap.size w w' := by
 obtain ⟨A, c, h, hno⟩ := h; have c1 := h.blk.cell 1; simp only [List.getElem?_cons_succ, List.getElem?_cons_zero] at c1; clear h
 go_enter Tryz.func54, Tryz.ntmps54
 go_wp2; go_ret
 exact ⟨rfl, Below.refl _ _⟩
theorem rread_callsB (w : World) (no : List Nat) (hno : ∀ x ∈ no, x < w.heap.size) (A : Option Addr) (c : Nat) (L : List Nat) (h : Reads w w.heap.size 1 A L.length (bys L)) (hl : L.length ≤ 140737488355328) (hb : ∀ x ∈ L, x < 256) :
  Calls Tryz.prog 50 #[.slice A L.length c] w fun e w' => ∃ b, e = .returned (.pointer (some ⟨b, 0, none⟩)) ∧ RO w' b no ⟨L, 0⟩ ∧ w.heap.size ≤ b ∧ Below w.heap.size w w' := by
 have H := hide (cloneB_calls A c L w (by omega) h); clear h
 go_enter Tryz.func50, Tryz.ntmps50
 go_wp2_with fail; refine H.out.mono ?_; rintro e w1 ⟨A2, c2, rfl, ho, hb1⟩; have HO := hd2 ho hb1; clear ho hb1; go_wp2; go_ret; have hs := HO.out.2.size
 refine ⟨w1.heap.size, rfl, ⟨A2, c2, ⟨Blk.new (cs := [.slice A2 L.length c2, .int .i64 0]) rfl, ?_, hb⟩, fun a ha hx => ?_⟩, hs, HO.out.2.alloc hs _⟩
 case refine_2 =>
  have h1 := hno _ hx; have h2 := HO.out.1.2 a.block (by rw [ha]; rfl)
  omega
 have h1 := (HO.out.1.rb (no := []) (by simp)).below ((Below.refl w1.heap.size w1).alloc (Nat.le_refl _) (.cells #[.slice A2 L.length c2, .int .i64 0] 183))
 refine ⟨h1.le, h1.rd, fun a ha => ⟨(h1.ap a ha).1, fun hx => ?_, (h1.ap a ha).2.2⟩⟩
 have := ((HO.out.1.rb (no := []) (by simp)).ap a ha).2.2
 have : a.block = w1.heap.size := by simpa using hx
 omega
theorem rread_calls (w : World) (no : List Nat) (hno : ∀ x ∈ no, x < w.heap.size) (A : Option Addr) (c : Nat) (L : List Nat) (h : Reads w w.heap.size 1 A L.length (bys L)) (hl : L.length ≤ 1000000) (hb : ∀ x ∈ L, x < 256) :
  Calls Tryz.prog 50 #[.slice A L.length c] w fun e w' => ∃ b, e = .returned (.pointer (some ⟨b, 0, none⟩)) ∧ RO w' b no ⟨L, 0⟩ ∧ w.heap.size ≤ b ∧ Below w.heap.size w w' :=
 rread_callsB w no hno A c L h (by omega) hb
theorem rend_calls (w : World) (b : Nat) (no : List Nat) (r : Rdr) (h : RO w b no r) :
  Calls Tryz.prog 55 #[.pointer (some ⟨b, 0, none⟩)] w fun e w' => e = .returned (.int .i64 (r.fin : Int)) ∧ RO w' b no ⟨r.b, r.fin⟩ ∧ Chg [b] w w' := by
 obtain ⟨A, c, h, hno⟩ := h; obtain ⟨l, e⟩ := r; have c0 := h.blk.cell 0; have c1 := h.blk.cell 1; simp only [List.getElem?_cons_succ, List.getElem?_cons_zero] at c0 c1; have H := hide h; clear h
 by_cases hl : 0 < l.length
 ·by_cases he : e = 0
  ·subst he
   have hf : Hid ((⟨l, 0⟩ : Rdr).fin = 3) := hide (by unfold Rdr.fin; rw [if_pos ⟨hl, rfl⟩]); have HF := hide (fail_calls w b A c l 3 H.out)
   go_enter Tryz.func55, Tryz.ntmps55
   go_wp2_with fail; refine HF.out.mono ?_; rintro e w2 ⟨rfl, h2, hc2⟩; have c2 := h2.blk.cell 1; simp only [List.getElem?_cons_succ, List.getElem?_cons_zero] at c2; have H2 := hd2 h2 hc2; clear h2 hc2 c0 c1 HF; go_wp2; go_ret; rw [hf.out]
   exact ⟨rfl, ⟨_, _, H2.out.1, hno⟩, H2.out.2⟩
  ·have hf : Hid ((⟨l, e⟩ : Rdr).fin = e) := hide (by unfold Rdr.fin; rw [if_neg (fun h => he h.2)])
   have HF := hide (fail_no w b A c l e 3 H.out he)
   go_enter Tryz.func55, Tryz.ntmps55
   go_wp2_with fail; refine HF.out.mono ?_; rintro e' w2 ⟨rfl, hb2⟩; have h2 := H.out.below hb2; have c2 := h2.blk.cell 1; simp only [List.getElem?_cons_succ, List.getElem?_cons_zero] at c2; have H2 := hd2 h2 hb2; clear h2 hb2 c0 c1 HF; go_wp2; go_ret; rw [hf.out]
   exact ⟨rfl, ⟨_, _, H2.out.1, hno⟩, Chg.of_below H2.out.2⟩
 ·have hf : Hid ((⟨l, e⟩ : Rdr).fin = e) := hide (by unfold Rdr.fin; rw [if_neg (fun h => hl h.1)])
  have hl0 : l.length = 0 := by omega
  go_enter Tryz.func55, Tryz.ntmps55
  go_wp2; go_ret; rw [hf.out]
  exact ⟨rfl, ⟨_, _, H.out, hno⟩, Chg.refl _ _⟩
structure Digits (l : List Nat) (i v : Nat) : Prop where
 le : i ≤ l.length
 nine : i ≤ 9
 lt : v < 2 ^ (7 * i)
 all : ∀ j (hj : j < l.length), j < i → 128 ≤ l[j]
 dc : dec l = (decF (l.drop i) i).map fun p => (v + 2 ^ (7 * i) * p.1, p.2)
theorem Digits.start (l : List Nat) : Digits l 0 0 := ⟨Nat.zero_le _, by omega, by simp, fun _ _ h => by omega, by
 unfold Go.Proofs.YtcahcjfgmdpdoaaGreat.dec; rw [List.drop_zero]
 cases decF l 0 with
 |none => rfl
 |some p => simp⟩
theorem Digits.step {l : List Nat} {i v : Nat} (h : Digits l i v) (hi : i < l.length) (h9 : i ≠ 9) (hc : 128 ≤ l[i]) : Digits l (i + 1) (v + l[i] % 128 * 2 ^ (7 * i)) := by
 have hn := h.nine
 refine ⟨by omega, by omega, ?_, fun j hj hji => ?_, ?_⟩
 ·have h1 := h.lt
  have h2 : (2 : Nat) ^ (7 * (i + 1)) = 128 * 2 ^ (7 * i) := by rw [show 7 * (i + 1) = 7 * i + 7 by omega, Nat.pow_add]; omega
  have h3 : l[i] % 128 * 2 ^ (7 * i) ≤ 127 * 2 ^ (7 * i) := Nat.mul_le_mul_right _ (by omega)
  omega
 ·by_cases e : j = i
  ·subst e; exact hc
  ·exact h.all j hj (by omega)
 ·rw [h.dc, List.drop_eq_getElem_cons hi]
  show Option.map _ (if i = 9 ∨ (l[i] = 0 ∧ 0 < i) then none else if 128 ≤ l[i] then (decF (l.drop (i + 1)) (i + 1)).map fun p => (l[i] % 128 + 128 * p.1, p.2) else some (l[i], i + 1)) = _
  rw [if_neg (by omega), if_pos hc, Option.map_map]
  congr 1
  funext p
  have h2 : (2 : Nat) ^ (7 * (i + 1)) = 128 * 2 ^ (7 * i) := by rw [show 7 * (i + 1) = 7 * i + 7 by omega, Nat.pow_add]; omega
  simp only [Function.comp_apply, Prod.mk.injEq, and_true]; rw [h2, Nat.mul_add, Nat.mul_comm (2 ^ (7 * i)) (l[i] % 128), Nat.mul_left_comm, Nat.mul_assoc, Nat.add_assoc]
theorem Digits.end_ {l : List Nat} {i v : Nat} (h : Digits l i v) (hi : i < l.length) (h9 : i ≠ 9) (h0 : ¬ (l[i] = 0 ∧ 0 < i)) (hc : l[i] < 128) : dec l = some (v + l[i] * 2 ^ (7 * i), i + 1) := by
 rw [h.dc, List.drop_eq_getElem_cons hi]
 show Option.map _ (if i = 9 ∨ (l[i] = 0 ∧ 0 < i) then none else if 128 ≤ l[i] then (decF (l.drop (i + 1)) (i + 1)).map fun p => (l[i] % 128 + 128 * p.1, p.2) else some (l[i], i + 1)) = _
 rw [if_neg (by omega), if_neg (by omega)]
 simp [Nat.mul_comm]
theorem Digits.bad {l : List Nat} {i v : Nat} (h : Digits l i v) (hi : i < l.length) (h9 : i = 9 ∨ (l[i] = 0 ∧ 0 < i)) : dec l = none ∧ decE l = 3 := by
 constructor
 ·rw [h.dc, List.drop_eq_getElem_cons hi]
  show Option.map _ (if i = 9 ∨ (l[i] = 0 ∧ 0 < i) then none else if 128 ≤ l[i] then (decF (l.drop (i + 1)) (i + 1)).map fun p => (l[i] % 128 + 128 * p.1, p.2) else some (l[i], i + 1)) = _
  rw [if_pos h9]
  rfl
 ·unfold decE
  rw [if_neg]; rintro ⟨h1, h2⟩; rw [List.all_eq_true] at h2; have := h2 l[i] (List.getElem_mem _); simp only [decide_eq_true_eq] at this
  omega
theorem Digits.out {l : List Nat} {v : Nat} (h : Digits l l.length v) : dec l = none ∧ decE l = if l.length < 9 then 2 else 3 := by
 constructor
 ·rw [h.dc, List.drop_length]
  rfl
 ·unfold decE
  have : (l.all fun c => decide (128 ≤ c)) = true := by
   rw [List.all_eq_true]
   intro x hx
   obtain ⟨j, hj, rfl⟩ := List.getElem_of_mem hx
   simpa using h.all j hj hj
  simp [this]
theorem orshl (x y i : Nat) (z : Int) (hz : z = y) (hx : x < 2 ^ (7 * i)) (hy : y < 128) (hi : i < 9) : bits BinOp.or IntKind.i64 (x : Int) (wrap64 (z * 2 ^ (7 * i))) = ((x + y * 2 ^ (7 * i) : Nat) : Int) := by
 subst hz; have h := shl7 y i hy hi; rw [IntWalk.i64_left, show ((7 : Int) * i).toNat = 7 * i by omega] at h; rw [h, or_low x y i hx hy hi]
theorem number_callsB (w : World) (b : Nat) (A : Option Addr) (c : Nat) (l : List Nat) (h : RD w b A c ⟨l, 0⟩) (hl : l.length ≤ 140737488355328) :
  Calls Tryz.prog 103 #[.pointer (some ⟨b, 0, none⟩)] w fun e w' =>
   ∃ v k : Nat, e = .returned (.tuple #[.int .i64 (v : Int), .int .i64 (k : Int)]) ∧ ((dec l = some (v, k) ∧ Below w.heap.size w w') ∨ (dec l = none ∧ v = 0 ∧ k = 0 ∧ RD w' b A c ⟨l, decE l⟩ ∧ Chg [b] w w')) := by
 have c0 := h.blk.cell 0; simp only [List.getElem?_cons_succ, List.getElem?_cons_zero] at c0; have H := hide h; clear h
 go_enter Tryz.func103, Tryz.ntmps103
 go_wp2
 go_step3
 go_wp2
 go_step3
 go_wp2
 go_loopw [2, 3, 4, 5, 11, 12, 13, 14, 15, 16, 17, 18, 19, 20, 21, 22, 23, 24, 25, 26, 27, 28, 29, 30, 31, 32, 33, 34, 35, 36, 37, 38, 39, 40, 41, 42, 43, 44, 45, 46, 47, 48, 49] (fun v n _ _ ix _ _ _ _ _ _ _ _ _ _ _ _ _ _ _ _ _ _ _ _ _ _ _ _ _ _ _ _ _ _ _ _ _ _ _ _ _ _ wr => ∃ i x : Nat, ix = .int .i64 i ∧ v = .int .i64 x ∧ n = .int .i64 i ∧ Digits l i x ∧ Below w.heap.size w wr) (fun _ _ _ _ ix _ _ _ _ _ _ _ _ _ _ _ _ _ _ _ _ _ _ _ _ _ _ _ _ _ _ _ _ _ _ _ _ _ _ _ _ _ _ _ => l.length - (intOf ix).toNat)
 case atStart => exact ⟨0, 0, rfl, rfl, rfl, Digits.start l, Below.refl _ _⟩
 case round =>
  obtain ⟨i, x, rfl, rfl, rfl, hd, hb⟩ := hrel; have HD := hide hd; have HB := hide hb; have c1 := (H.out.below hb).blk.cell 0; simp only [List.getElem?_cons_succ, List.getElem?_cons_zero] at c1; have HR := hide (H.out.below hb); clear hd hb c0
  by_cases hlt : i < l.length
  ·obtain ⟨bA, oA, rfl, hbA, _, hcell⟩ := (H.out.rb).at_ (show 0 < l.length by omega)
   have g0 := (HB.out.cell (p := ⟨bA, oA + i, none⟩) hbA).trans (hcell i hlt)
   have i1 : (i : Int) < l.length := by omega
   have hx := H.out.ok _ (List.getElem_mem hlt); obtain ⟨y, hy⟩ : ∃ y, l[i] = y := ⟨_, rfl⟩; simp only [] at hx g0; rw [hy] at hx g0; have HY := hide hy; clear hcell hy
   by_cases e9 : i = 9
   ·have HDD := hide (HD.out.bad hlt (Or.inl e9))
    have HF := hide (fail_calls wr b _ c l 3 HR.out); subst e9
    have i9 : (9 : Int) < l.length := by omega
    go_wp2_with fail; refine HF.out.mono ?_; rintro e w2 ⟨rfl, h2, hc2⟩; have H2 := hd2 h2 hc2; clear h2 hc2; go_wp2; rw [Exit.noGoto_ret]
    go_ret2
    exact ⟨0, 0, rfl, Or.inr ⟨HDD.out.1, rfl, rfl, by rw [HDD.out.2]; exact H2.out.1, (Chg.of_below HB.out).trans H2.out.2 (by simp)⟩⟩
   ·have h9 : ¬ ((i : Int) = 9) := by omega
    by_cases e0 : y = 0 ∧ 0 < i
    ·obtain ⟨rfl, h0⟩ := e0
     have h0' : 0 < (i : Int) := by omega
     have HDD := hide (HD.out.bad hlt (Or.inr ⟨HY.out, h0⟩)); have HF := hide (fail_calls wr b _ c l 3 HR.out); clear e9; go_wp2_with fail; refine HF.out.mono ?_; rintro e w2 ⟨rfl, h2, hc2⟩; have H2 := hd2 h2 hc2; clear h2 hc2; go_wp2; rw [Exit.noGoto_ret]
     go_ret2
     exact ⟨0, 0, rfl, Or.inr ⟨HDD.out.1, rfl, rfl, by rw [HDD.out.2]; exact H2.out.1, (Chg.of_below HB.out).trans H2.out.2 (by simp)⟩⟩
    ·have HY9 := hide e9
     have HY0 := hide e0; clear e9
     have e0' : (decide ((y : Int) = 0) && decide (0 < (i : Int))) = false := by
      rw [Bool.and_eq_false_iff, decide_eq_false_iff_not, decide_eq_false_iff_not]
      omega
     by_cases h128 : 128 ≤ y
     ·have g1 : 128 ≤ (y : Int) := by omega
      have g2 : ¬ ((y : Int) = 0) := by omega
      have hi9 : i < 9 := by have := HD.out.nine; have := HY9.out; omega
      have k0 : 0 ≤ 7 * (i : Int) := by omega
      have k1 : 7 * (i : Int) ≤ 64 := by omega
      have s0 := and127 y; clear e0 e0'; have hfin := HD.out.step hlt HY9.out (by rw [HY.out]; exact h128); rw [HY.out] at hfin; have HFIN := hide hfin; have HOR := hide (orshl x (y % 128) i ((y : Int) % 128) (by omega) HD.out.lt (by omega) hi9); clear hfin; go_wp2_with fail
      exact ⟨⟨i + 1, x + y % 128 * 2 ^ (7 * i), by go_num, by rw [HOR.out], by go_num, HFIN.out, HB.out⟩, by simp [intOf]; omega⟩
     ·have g1 : ¬ (128 ≤ (y : Int)) := by omega
      have hi9 : i < 9 := by have := HD.out.nine; have := HY9.out; omega
      have k0 : 0 ≤ 7 * (i : Int) := by omega
      have k1 : 7 * (i : Int) ≤ 64 := by omega
      have hfin := HD.out.end_ hlt HY9.out (by rw [HY.out]; exact HY0.out) (by rw [HY.out]; omega); rw [HY.out] at hfin; have HFIN := hide hfin; have HOR := hide (orshl x y i (y : Int) rfl HD.out.lt (by omega) hi9); clear hfin
      by_cases y0 : y = 0
      ·have hi0 : i = 0 := by have := HY0.out; omega
       subst y0; subst hi0
       have hx0 : x = 0 := by have := HD.out.lt; simp at this; exact this
       subst hx0; simp only [Nat.zero_mul, Nat.add_zero, Nat.zero_add] at HFIN; clear HOR HY0 HY9 h9 e0 e0' k0 k1 h128 hi9; have g0' : wr.cell? ⟨bA, oA, none⟩ = some (.int .u8 0) := g0
       have i1' : (0 : Int) < l.length := by omega
       clear g0 i1 g1; go_wp2_with fail; rw [Exit.noGoto_ret]
       go_ret2
       exact ⟨0, 1, by first | rfl | simp, Or.inl ⟨HFIN.out, HB.out⟩⟩
      ·have y0' : ¬ ((y : Int) = 0) := by omega
       clear e0 e0'; go_wp2_with fail
       go_ret2
       refine ⟨_, _, ?_, Or.inl ⟨HFIN.out, HB.out⟩⟩
       rw [HOR.out]
       simp
  ·have e : i = l.length := by have := HD.out.le; omega
   subst e; have HDD := hide HD.out.out; obtain ⟨n, hn⟩ : ∃ n, l.length = n := ⟨_, rfl⟩
   have hni : ¬ ((n : Int) < n) := by omega
   by_cases e9 : l.length < 9
   ·have i9 : (l.length : Int) < 9 := by omega
    rw [if_pos e9] at HDD; have HF := hide (fail_calls wr b _ c l 2 HR.out); clear e9 hn hni; go_wp2_with fail; refine HF.out.mono ?_; rintro e w2 ⟨rfl, h2, hc2⟩; have H2 := hd2 h2 hc2; clear h2 hc2; go_wp2; rw [Exit.noGoto_ret]
    go_ret2
    exact ⟨0, 0, rfl, Or.inr ⟨HDD.out.1, rfl, rfl, by rw [HDD.out.2]; exact H2.out.1, (Chg.of_below HB.out).trans H2.out.2 (by simp)⟩⟩
   ·have i9 : ¬ ((l.length : Int) < 9) := by omega
    rw [if_neg e9] at HDD; have HF := hide (fail_calls wr b _ c l 3 HR.out); clear e9 hn hni; go_wp2_with fail; refine HF.out.mono ?_; rintro e w2 ⟨rfl, h2, hc2⟩; have H2 := hd2 h2 hc2; clear h2 hc2; go_wp2; rw [Exit.noGoto_ret]
    go_ret2
    exact ⟨0, 0, rfl, Or.inr ⟨HDD.out.1, rfl, rfl, by rw [HDD.out.2]; exact H2.out.1, (Chg.of_below HB.out).trans H2.out.2 (by simp)⟩⟩
theorem rnum_callsB (w : World) (b : Nat) (no : List Nat) (r : Rdr) (most : Nat) (h : RO w b no r) (hl : r.b.length ≤ 140737488355328) (hm : most < 2 ^ 63) :
  Calls Tryz.prog 51 #[.pointer (some ⟨b, 0, none⟩), .int .i64 (most : Int)] w fun e w' => e = .returned (.int .i64 ((r.num most).1 : Int)) ∧ RO w' b no (r.num most).2 ∧ Chg [b] w w' := by
 obtain ⟨A, c, h, hno⟩ := h; obtain ⟨l, e⟩ := r; have c1 := h.blk.cell 1; simp only [List.getElem?_cons_succ, List.getElem?_cons_zero] at c1; simp only [] at hl; have H := hide h; clear h
 by_cases he : e = 0
 ·subst he
  have HN := hide (number_callsB w b A c l H.out hl); have HL := hide hl; have HM := hide hm; clear hl hm
  go_enter Tryz.func51, Tryz.ntmps51
  go_wp2_with fail; refine HN.out.mono ?_; rintro e w2 ⟨v, k, rfl, hc⟩; have HC := hide hc; clear c1 HN hc
  rcases HC.out with ⟨hd, hb⟩ | ⟨hd, rfl, rfl, hr, hch⟩
  ·obtain ⟨a1, a2, a3, a4, a5⟩ := dec_some H.out.ok hd
   simp only [] at a2
   have hk0 : ¬ ((k : Int) = 0) := by omega
   by_cases hv : most < v
   ·have HQ : Hid ((⟨l, 0⟩ : Rdr).num most = (0, ⟨l, 5⟩)) := hide (by unfold Rdr.num; simp [hd, hv])
    have i1 : (most : Int) < v := by omega
    have HF := hide (fail_calls w2 b A c l 5 (H.out.below hb)); have HB := hide hb; clear HC hd hb a1 a2 a3 a4 a5; go_wp2_with fail; refine HF.out.mono ?_; rintro e w3 ⟨rfl, h3, hc3⟩; have H3 := hd2 h3 hc3; clear h3 hc3 HF; go_wp2; go_ret; rw [HQ.out]
    exact ⟨rfl, ⟨_, _, H3.out.1, hno⟩, (Chg.of_below HB.out).trans H3.out.2 (by simp)⟩
   ·have HQ : Hid ((⟨l, 0⟩ : Rdr).num most = (v, ⟨l.drop k, 0⟩)) := hide (by unfold Rdr.num; simp [hd, hv])
    have i1 : ¬ ((most : Int) < v) := by omega
    have H2 := hide (H.out.below hb); have c2 := H2.out.blk.cell 0; have f2 := H2.out.blk.frozen 0; simp only [List.getElem?_cons_succ, List.getElem?_cons_zero] at c2; obtain ⟨A2, hA2⟩ : ∃ A2, (if c = k then A else A.map (·.add (k * 1))) = A2 := ⟨_, rfl⟩; have hsl := run_cut (P := Tryz.prog) (t := 42) Tryz.underlying42 (fun _ => by kernel_rfl) (c := c) a2 hA2
    have k1 : (k : Int) ≤ l.length := by omega
    have k2 : l.length ≤ c := H.out.rb.le; have HA2 := hide hA2
    have HNO : Hid (∀ a, A2 = some a → a.block ∉ no) := hide (by
     intro a ha
     rw [← HA2.out] at ha
     split at ha
     ·exact hno a ha
     ·cases A with
      |none => cases ha
      |some x =>
       obtain ⟨b3, o3, s3⟩ := x; obtain ⟨e1, _, _⟩ := H.out.rb.ap _ rfl; simp only at e1; subst e1; simp only [Option.map_some, Option.some.injEq] at ha; rw [add_addr] at ha; subst ha
       exact hno ⟨b3, o3, none⟩ rfl)
    have HB := hide hb; have HK := hide a2
    have HW : Hid (RD (w2.setCell ⟨b, 0, none⟩ (.slice A2 (l.length - k) (c - k))) b A2 (c - k) ⟨l.drop k, 0⟩ ∧ Chg [b] w2 (w2.setCell ⟨b, 0, none⟩ (.slice A2 (l.length - k) (c - k)))) := hide (by
     have hc : Chg [b] w2 (w2.setCell ⟨b, 0, none⟩ (.slice A2 (l.length - k) (c - k))) := (Chg.refl _ _).setCell (Or.inl (by simp)) _; have hrb := H2.out.rb.cut a2; rw [hA2] at hrb
     refine ⟨⟨?_, hrb.chg hc (fun y hy => Or.inl hy), fun x hx => H.out.ok x (List.mem_of_mem_drop hx)⟩, hc⟩
     have := H2.out.blk.set 0 (.slice A2 (l.length - k) (c - k))
     simpa using this)
    clear HC hd hb a1 a2 a3 a4 a5 hA2; go_wp2; go_ret; rw [HQ.out]
    exact ⟨rfl, ⟨_, _, HW.out.1, HNO.out⟩, (Chg.of_below HB.out).trans HW.out.2 (by simp)⟩
  ·have HQ : Hid ((⟨l, 0⟩ : Rdr).num most = (0, ⟨l, decE l⟩)) := hide (by unfold Rdr.num; simp [hd])
   have HH := hd2 hr hch; clear HC hd hr hch; go_wp2; go_ret; rw [HQ.out]
   exact ⟨rfl, ⟨_, _, HH.out.1, hno⟩, HH.out.2⟩
 ·have HQ := hide (Rdr.num_bad (r := ⟨l, e⟩) he most)
  have he' : ¬ ((e : Int) = 0) := by omega
  clear hl hm
  go_enter Tryz.func51, Tryz.ntmps51
  go_wp2; go_ret; rw [HQ.out]
  exact ⟨rfl, ⟨_, _, H.out, hno⟩, Chg.refl _ _⟩
theorem rnum_calls (w : World) (b : Nat) (no : List Nat) (r : Rdr) (most : Nat) (h : RO w b no r) (hl : r.b.length ≤ 1000000) (hm : most < 2 ^ 63) :
  Calls Tryz.prog 51 #[.pointer (some ⟨b, 0, none⟩), .int .i64 (most : Int)] w fun e w' => e = .returned (.int .i64 ((r.num most).1 : Int)) ∧ RO w' b no (r.num most).2 ∧ Chg [b] w w' :=
 rnum_callsB w b no r most h (by omega) hm

theorem same_noB {xs ys : List Nat} {k : Nat} (hx : k < xs.length) (hy : k < ys.length) (h : xs[k] ≠ ys[k]) : xs ≠ ys := by
 intro e; subst e; exact h rfl
theorem sameBytes_calls (xs ys : List Nat) (A B : Option Addr) (c d : Nat) (W : World) (hx : Reads W W.heap.size 1 A xs.length (bys xs)) (hy : Reads W W.heap.size 1 B ys.length (bys ys)) (hlx : xs.length ≤ 4611686018427387904) (hly : ys.length ≤ 4611686018427387904) :
  Calls Tryz.prog 12 #[.slice A xs.length c, .slice B ys.length d] W fun e w' => e = .returned (.bool (decide (xs = ys))) ∧ ∃ n, w' = W.drewN n := by
 by_cases hl : xs.length = ys.length
 ·have h : ((xs.length : Int) == (ys.length : Int)) = true := by rw [beq_iff_eq]; omega
  have h' : ((xs.length : Int) != (ys.length : Int)) = false := by rw [bne_eq_false_iff_eq]; omega
  have HL := hide hl; clear hl
  go_enter Tryz.func12, Tryz.ntmps12
  go_wp2
  go_loopw [5] (fun i wr => ∃ k n : Nat, k ≤ xs.length ∧ i = .int .i64 k ∧ Hid (xs.take k = ys.take k) ∧ wr = W.drewN n) (fun i _ => xs.length - (intOf i).toNat)
  case atStart => exact ⟨0, 0, by omega, rfl, hide rfl, rfl⟩
  case round =>
   obtain ⟨k, n, hk, rfl, heq, rfl⟩ := hrel
   by_cases hlt : k < xs.length
   ·have hlt2 : k < ys.length := by rw [← HL.out]; exact hlt
    obtain ⟨b1, o1, rfl, hb1, hc1⟩ := hx.at_ (by omega); obtain ⟨b2, o2, rfl, hb2, hc2⟩ := hy.at_ (by omega); have c1 : W.cell? ⟨b1, o1 + k, none⟩ = some (.int .u8 (xs[k] : Int)) := hc1 k _ (bys_get hlt); have c2 : W.cell? ⟨b2, o2 + k, none⟩ = some (.int .u8 (ys[k] : Int)) := hc2 k _ (bys_get hlt2)
    have i1 : (k : Int) < (xs.length : Int) := by omega
    have i2 : (k : Int) < (ys.length : Int) := by omega
    clear hc1 hc2
    by_cases e : xs[k] = ys[k]
    ·have hs : Hid (xs.take (k + 1) = ys.take (k + 1)) := hide (by rw [List.take_succ_eq_append_getElem hlt, List.take_succ_eq_append_getElem hlt2, heq.out, e])
     have t1 : ((xs[k] : Int) == (ys[k] : Int)) = true := beq_iff_eq.2 (by omega); have t2 : ((xs[k] : Int) != (ys[k] : Int)) = false := bne_eq_false_iff_eq.2 (by omega); clear e; go_wp2
     go_quiet (fail)
     go_wp2
     go_roundw
     case rel => exact ⟨k + 1, _, by omega, by go_num, hs, rfl⟩
     case measure => simp [intOf]; omega
    ·have hs := hide (same_noB hlt hlt2 e)
     have t1 : ((xs[k] : Int) == (ys[k] : Int)) = false := beq_eq_false_iff_ne.2 (by omega); have t2 : ((xs[k] : Int) != (ys[k] : Int)) = true := bne_iff_ne.2 (by omega); clear e; go_wp2
     go_quiet (fail)
     go_wp2; go_ret
     exact ⟨ret_bool (by symm; rw [decide_eq_false_iff_not]; exact hs.out), _, by rw [World.drewN_drewN]⟩
   ·have e : k = xs.length := by omega
    subst e; have hs : Hid (xs = ys) := hide (by have := heq.out; rw [List.take_length, HL.out, List.take_length] at this; exact this); go_wp2; go_ret
    exact ⟨ret_bool (by symm; rw [decide_eq_true_iff]; exact hs.out), _, rfl⟩
 ·have h : ((xs.length : Int) == (ys.length : Int)) = false := by rw [beq_eq_false_iff_ne]; omega
  have h' : ((xs.length : Int) != (ys.length : Int)) = true := by rw [bne_iff_ne]; omega
  have HL := hide hl; clear hl
  go_enter Tryz.func12, Tryz.ntmps12
  go_wp2; go_ret
  exact ⟨ret_bool (by symm; rw [decide_eq_false_iff_not]; intro e; exact HL.out (by rw [e])), 0, rfl⟩
theorem equalBytes_calls (xs ys : List Nat) (A B : Option Addr) (c d : Nat) (W : World) (hx : Reads W W.heap.size 1 A xs.length (bys xs)) (hy : Reads W W.heap.size 1 B ys.length (bys ys)) (hlx : xs.length ≤ 4611686018427387904) (hly : ys.length ≤ 4611686018427387904) :
  Calls Tryz.prog 56 #[.slice A xs.length c, .slice B ys.length d] W fun e w' => e = .returned (.bool (decide (xs = ys))) ∧ ∃ n, w' = W.drewN n := by
 by_cases hl : xs.length = ys.length
 ·have h : ((xs.length : Int) == (ys.length : Int)) = true := by rw [beq_iff_eq]; omega
  have h' : ((xs.length : Int) != (ys.length : Int)) = false := by rw [bne_eq_false_iff_eq]; omega
  have HL := hide hl; clear hl
  go_enter Tryz.func56, Tryz.ntmps56
  go_wp2
  go_loopw [4, 5, 13, 14, 15, 16, 17, 18, 19, 20, 21, 22, 23, 24, 25] (fun _ _ i _ _ _ _ _ _ _ _ _ _ _ _ wr => ∃ k n : Nat, k ≤ xs.length ∧ i = .int .i64 k ∧ Hid (xs.take k = ys.take k) ∧ wr = W.drewN n) (fun _ _ i _ _ _ _ _ _ _ _ _ _ _ _ _ => xs.length - (intOf i).toNat)
  case atStart => exact ⟨0, 0, by omega, rfl, hide rfl, rfl⟩
  case round =>
   obtain ⟨k, n, hk, rfl, heq, rfl⟩ := hrel
   by_cases hlt : k < xs.length
   ·have hlt2 : k < ys.length := by rw [← HL.out]; exact hlt
    obtain ⟨b1, o1, rfl, hb1, hc1⟩ := hx.at_ (by omega); obtain ⟨b2, o2, rfl, hb2, hc2⟩ := hy.at_ (by omega); have c1 : W.cell? ⟨b1, o1 + k, none⟩ = some (.int .u8 (xs[k] : Int)) := hc1 k _ (bys_get hlt); have c2 : W.cell? ⟨b2, o2 + k, none⟩ = some (.int .u8 (ys[k] : Int)) := hc2 k _ (bys_get hlt2)
    have i1 : (k : Int) < (xs.length : Int) := by omega
    have i2 : (k : Int) < (ys.length : Int) := by omega
    clear hc1 hc2
    by_cases e : xs[k] = ys[k]
    ·have hs : Hid (xs.take (k + 1) = ys.take (k + 1)) := hide (by rw [List.take_succ_eq_append_getElem hlt, List.take_succ_eq_append_getElem hlt2, heq.out, e])
     have t1 : ((xs[k] : Int) == (ys[k] : Int)) = true := beq_iff_eq.2 (by omega); have t2 : ((xs[k] : Int) != (ys[k] : Int)) = false := bne_eq_false_iff_eq.2 (by omega); clear e; go_wp2
     go_quiet (fail)
     go_wp2
     go_roundw
     case rel => exact ⟨k + 1, _, by omega, by go_num, hs, rfl⟩
     case measure => simp [intOf]; omega
    ·have hs := hide (same_noB hlt hlt2 e)
     have t1 : ((xs[k] : Int) == (ys[k] : Int)) = false := beq_eq_false_iff_ne.2 (by omega); have t2 : ((xs[k] : Int) != (ys[k] : Int)) = true := bne_iff_ne.2 (by omega); clear e; go_wp2
     go_quiet (fail)
     go_wp2; go_ret
     exact ⟨ret_bool (by symm; rw [decide_eq_false_iff_not]; exact hs.out), _, by rw [World.drewN_drewN]⟩
   ·have e : k = xs.length := by omega
    subst e; have hs : Hid (xs = ys) := hide (by have := heq.out; rw [List.take_length, HL.out, List.take_length] at this; exact this); go_wp2; go_ret
    exact ⟨ret_bool (by symm; rw [decide_eq_true_iff]; exact hs.out), _, rfl⟩
 ·have h : ((xs.length : Int) == (ys.length : Int)) = false := by rw [beq_eq_false_iff_ne]; omega
  have h' : ((xs.length : Int) != (ys.length : Int)) = true := by rw [bne_iff_ne]; omega
  have HL := hide hl; clear hl
  go_enter Tryz.func56, Tryz.ntmps56
  go_wp2; go_ret
  exact ⟨ret_bool (by symm; rw [decide_eq_false_iff_not]; intro e; exact HL.out (by rw [e])), 0, rfl⟩
end Go.Proofs.YtcahcjfgmdpdoaaGreat
