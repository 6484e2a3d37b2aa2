/- One text of: Hb. -/
import Derived.SizedLaws
import Derived.Test.YteppdlkmjgladaaGreatQOpen
import Derived.Test.YteppdlkmjgladaaGreatQGG
namespace Go.Proofs.YteppdlkmjgladaaGreat
open Go.ChangeShapes Go.WideShapes Go.ChangeAt Go.RowKit Go.Joins Go.Deep
set_option linter.unusedVariables false
set_option maxRecDepth 100000

section
variable {H : Type} {enc : TypeId × Value → H} {P : Program} {w : World} {base b0 : Nat} {spare : Nat → Bool} {held : Bool}
def WB {H : Type} (P : Program) (t : TypeId) (d : DataW H) : Prop := ∀ n ∈ d.weights P t, n ≤ reachBytes
theorem weightsAll_mem {e : TypeId} {l : List (DataW H)} {d : DataW H} (hd : d ∈ l) : ∀ n ∈ d.weights P e, n ∈ DataW.weightsAll P e l := by
 induction l with
 |nil => cases hd
 |cons y t ih =>
  intro n hn
  rw [DataW.weightsAll, List.mem_append]
  rcases List.mem_cons.1 hd with rfl | h
  ·exact Or.inl hn
  ·exact Or.inr (ih h n hn)
theorem WB.elem {t e : TypeId} {xs ys : List (DataW H)} {d : DataW H} (ht : P.underlying t = some (.slice e)) (h : WB P t (.slice xs ys)) (hd : d ∈ xs) : WB P e d := fun n hn =>
 h n (by simp only [DataW.weights, ht]; exact List.mem_cons_of_mem _ (List.mem_append_left _ (weightsAll_mem hd n hn)))
theorem WB.len {t e : TypeId} {xs ys : List (DataW H)} (ht : P.underlying t = some (.slice e)) (h : WB P t (.slice xs ys)) : (xs.length + ys.length) * P.bytesOf e ≤ reachBytes :=
 h _ (by simp only [DataW.weights, ht]; exact List.mem_cons_self ..)
theorem WB.field {t : TypeId} {fs : Array Field} {ds : List (DataW H)} {i : Nat} {f : Field} {d : DataW H} (ht : P.underlying t = some (.struct fs)) (h : WB P t (.agg ds)) (hf : fs[i]? = some f) (hd : ds[i]? = some d) : WB P f.type d := fun n hn =>
 h n (by
  simp only [DataW.weights, ht]
  exact DataW.weights_mem_each (j := i) (t := f.type) (by rw [List.getElem?_map, Array.getElem?_toList, hf]; rfl) hd n hn)
def AllW {H : Type} (enc : TypeId × Value → H) (P : Program) (w : World) (base : Nat) (spare : Nat → Bool) (held : Bool) (t : TypeId) (m : Nat) (Q : Nat → Value → Prop) : Prop :=
 ∀ (fuel : Nat) (cs : List Value) (x : DataW H × List MemPlace), DataW.trod enc P w base spare held fuel t cs = some x → WB P t x.1 → ∀ j, j < m → ∃ u, Q j u ∧ cs[j]? = some u
theorem open_rowsW {t e : TypeId} (m : Nat) {Q : Nat → Value → Prop} {cs : List Value} {fuel : Nat} {x : DataW H × List MemPlace} (ht : P.underlying t = some (.slice e)) (hC : P.cellsOf e = m) (hpos : 0 < m) (hA : AllW enc P w base spare held e m Q)
  (hf : DataW.trod enc P w base spare held fuel t cs = some x) (hw : WB P t x.1) :
  ∃ (A : Option Addr) (n c : Nat) (g : Nat → Nat → Value), cs = [.slice A n c] ∧ n ≤ c ∧ c ≤ maxLen ∧ (∀ i j, i < n → j < m → Q j (g i j)) ∧
   (0 < n → ∃ b o, A = some ⟨b, o, none⟩ ∧ b < w.heap.size ∧ ∀ i j, i < n → j < m → w.cell? ⟨b, o + (i * m + j), none⟩ = some (g i j)) := by
 rcases open_slice ht hf with ⟨h0, _⟩ | ⟨a, n, c, m', k, D, Pl, hcs, hb, hl, hm, hmm, hx, hi⟩
 ·exact ⟨none, 0, 0, fun _ _ => undef, h0, Nat.le_refl _, by unfold maxLen; omega, fun i j hi => absurd hi (by omega), fun hn => absurd hn (by omega)⟩
 ·have hnm : n ≤ m' := by rw [hmm]; split <;> omega
  have hall : ∀ i, i < n → ∃ f : Nat → Value, ∀ j, j < m → Q j (f j) ∧ w.cell? (a.add (i * m + j)) = some (f j) := by
   intro i hin
   obtain ⟨cs', hc, ht'⟩ := hi i (by omega)
   rw [hC] at hc
   obtain ⟨_, hcl, hat⟩ := World.cells?_some hc
   rw [hx] at hw
   have hwi : WB P e (D i) := WB.elem ht hw (List.mem_map.2 ⟨i, List.mem_range.2 hin, rfl⟩)
   refine ⟨fun j => (cs'[j]?).getD undef, fun j hj => ?_⟩
   obtain ⟨z, hz, hz2⟩ := hA _ _ _ ht' hwi j hj
   simp only [hz2, Option.getD_some]
   refine ⟨hz, ?_⟩
   rw [← Go.Deep.add_add, hat j hj, hz2]
  obtain ⟨g, hg⟩ := choose_lt hall
  refine ⟨some a, n, c, g, hcs, hl, hm, fun i j hi hj => (hg i hi j hj).1, fun hn => ?_⟩
  obtain ⟨b, o, spot⟩ := a
  have h00 := (hg 0 hn 0 hpos).2
  have hspot : spot = none := by simpa [Addr.add] using World.cell?_spot h00
  subst hspot
  refine ⟨b, o, rfl, ?_, fun i j hi hj => ?_⟩
  ·have := World.block_lt_of_cell? w _ h00
   simpa [Addr.add] using this
  ·rw [← Go.WideShapes.add_plain]
   exact (hg i hi j hj).2
end
section
variable {H : Type} {enc : TypeId × Value → H} {W : World} {base : Nat} {spare : Nat → Bool} {held : Bool} {fuel : Nat} {cs : List Value} {x : DataW H × List MemPlace}
theorem open_bytesW (h : DataW.trod enc Tryz.prog W base spare held fuel 39 cs = some x) (hw : WB Tryz.prog 39 x.1) : ∃ (A : Option Addr) (B : List Nat) (c : Nat), cs = [.slice A B.length c] ∧ B.length ≤ c ∧ TB W A B := by
 rcases open_ints Tryz.underlying39 Tryz.underlying5 (by kernel_rfl) h with ⟨hcs, _⟩ | ⟨a, len, cap, zs, hcs, _, hl, hm, hz, hx, hcell, hwz⟩
 ·exact ⟨none, [], 0, hcs, Nat.le_refl _, ⟨Reads.none_, by simp, by simp⟩⟩
 ·have hnz : len ≤ zs.length := by rw [hz]; split <;> omega
  have hzl : ((zs.take len).map Int.toNat).length = len := by rw [List.length_map, List.length_take]; omega
  have hbz : ∀ x ∈ zs, 0 ≤ x ∧ x ≤ 255 := fun x hx => bounds_u8 (hwz x hx)
  rw [hx] at hw
  have hwl := hw.len Tryz.underlying39
  rw [show Tryz.prog.bytesOf 5 = 1 from by kernel_rfl, Nat.mul_one] at hwl
  have hzz : (lits (H := H) .u8 (zs.take len)).length = len := by unfold lits; rw [List.length_map, List.length_take]; omega
  have hrb : reachBytes < 2 ^ 47 := reachBytes_lt
  refine ⟨some a, (zs.take len).map Int.toNat, cap, by rw [hzl]; exact hcs, by rw [hzl]; exact hl, ⟨?_, fun x hx => ?_, by rw [hzl]; omega⟩⟩
  ·rw [hzl]
   refine ⟨by unfold bys; rw [List.length_map, hzl, Nat.mul_one], fun hn => ?_⟩
   obtain ⟨b, o, rfl, hc⟩ := ints_at hcell (by omega)
   refine ⟨b, o, rfl, World.block_lt_of_cell? W _ (hc 0 (by omega)), fun q u hu => ?_⟩
   have hq : q < len := by
    have := (List.getElem?_eq_some_iff.1 hu).1
    unfold bys at this
    rw [List.length_map, hzl] at this
    exact this
   have hqz : q < zs.length := by omega
   have h8 := hbz zs[q] (List.getElem_mem _)
   unfold bys at hu
   rw [List.getElem?_map, List.getElem?_map, List.getElem?_take, if_pos hq, List.getElem?_eq_getElem hqz, Option.map_some, Option.map_some] at hu
   rw [hc q hqz, ← hu]
   simp only [List.getD_eq_getElem?_getD, List.getElem?_eq_getElem hqz, Option.getD_some]
   rw [Int.toNat_of_nonneg h8.1]
  ·obtain ⟨y, hy, rfl⟩ := List.mem_map.1 hx
   have := hbz y (List.mem_of_mem_take hy)
   omega
theorem allBytes : AllW enc Tryz.prog W base spare held 39 1 (fun _ u => ∃ A B c, u = .slice A (List.length (α := Nat) B) c ∧ TB W A B) := fun fuel cs x hx hw j hj => by
 obtain ⟨A, B, c, rfl, _, hb⟩ := open_bytesW hx hw
 obtain rfl : j = 0 := by omega
 exact ⟨_, ⟨A, B, c, rfl, hb⟩, rfl⟩
def MQ (W : World) (j : Nat) (u : Value) : Prop :=
 if j = 0 then ∃ k : Int, i64ok k ∧ u = .int .i64 k
 else if j = 1 then ∃ A N c, u = .slice A (List.length N) c ∧ Reads W W.heap.size 1 A N.length (N.map (Value.int .i64))
 else if j = 2 then ∃ A B c, u = .slice A (List.length B) c ∧ B.length ≤ c ∧ TB W A B
 else ∃ A m c, u = .slice A m c ∧ LB W A m
theorem allMsg : AllW enc Tryz.prog W base spare held 52 4 (MQ W) := by
 intro fuel cs x hx hw j hj
 obtain ⟨ys, n', hn', hy, hlen, hyl, hff⟩ := DataW.trod_struct Tryz.underlying52 hx
 rw [hy] at hw
 have hys : ys.length = 4 := hyl
 have hwf : ∀ (i : Nat) (f : Field) (hi : i < ys.length), _ → WB Tryz.prog f.type ys[i].1 := fun i f hi hf => hw.field (i := i) Tryz.underlying52 hf (by rw [List.getElem?_map, List.getElem?_eq_getElem hi]; rfl)
 have h7 : ∀ (i : Nat) u, (cs.drop i).take 1 = [u] → cs[i]? = some u := fun i u hu => by
  have h6 : ((cs.drop i).take 1)[0]? = some u := by rw [hu]; rfl
  rw [List.getElem?_take, if_pos (by omega), List.getElem?_drop, Nat.add_zero] at h6
  exact h6
 unfold MQ
 match j, hj with
 |0, _ =>
  have h5 := hff 0 _ rfl
  rw [List.getElem?_eq_getElem (by omega : 0 < ys.length)] at h5
  obtain ⟨q, e1, _, wq⟩ := DataW.trod_int Tryz.underlying3 h5
  exact ⟨_, ⟨q, bounds_i64 wq, rfl⟩, h7 _ _ e1⟩
 |1, _ =>
  have h5 := hff 1 _ rfl
  rw [List.getElem?_eq_getElem (by omega : 1 < ys.length)] at h5
  rcases open_ints Tryz.underlying22 Tryz.underlying3 (by kernel_rfl) h5 with ⟨hcs, _⟩ | ⟨a, len, cap, zs, hcs, _, hl, hm, hz, _, hcell, hwz⟩
  ·exact ⟨_, ⟨none, [], 0, rfl, Reads.none_⟩, h7 _ _ hcs⟩
  ·have hnz : len ≤ zs.length := by rw [hz]; split <;> omega
   have hzl : (zs.take len).length = len := by rw [List.length_take]; omega
   refine ⟨_, ⟨some a, zs.take len, cap, rfl, ?_⟩, by rw [hzl]; exact h7 _ _ hcs⟩
   rw [hzl]
   refine ⟨by rw [List.length_map, hzl, Nat.mul_one], fun hn => ?_⟩
   obtain ⟨b, o, rfl, hc⟩ := ints_at hcell (by omega)
   refine ⟨b, o, rfl, World.block_lt_of_cell? W _ (hc 0 (by omega)), fun q u hu => ?_⟩
   have hq : q < len := by
    have := (List.getElem?_eq_some_iff.1 hu).1
    rw [List.length_map, hzl] at this
    exact this
   have hqz : q < zs.length := by omega
   rw [List.getElem?_map, List.getElem?_take, if_pos hq, List.getElem?_eq_getElem hqz, Option.map_some] at hu
   rw [hc q hqz, ← hu]
   simp only [List.getD_eq_getElem?_getD, List.getElem?_eq_getElem hqz, Option.getD_some]
 |2, _ =>
  have h5 := hff 2 _ rfl
  rw [List.getElem?_eq_getElem (by omega : 2 < ys.length)] at h5
  obtain ⟨A, B, c, hcs, hbc, hb⟩ := open_bytesW h5 (hwf 2 _ (by omega) rfl)
  exact ⟨_, ⟨A, B, c, rfl, hbc, hb⟩, h7 _ _ hcs⟩
 |3, _ =>
  have h5 := hff 3 _ rfl
  rw [List.getElem?_eq_getElem (by omega : 3 < ys.length)] at h5
  obtain ⟨A, m, c, g, hcs, _, _, hg, hr⟩ := open_rowsW 1 Tryz.underlying50 (by kernel_rfl) (by decide) allBytes h5 (hwf 3 _ (by omega) rfl)
  refine ⟨_, ⟨A, m, c, rfl, fun hm => ?_⟩, h7 _ _ hcs⟩
  obtain ⟨b, o, rfl, hbl, hc⟩ := hr hm
  refine ⟨b, o, rfl, fun i hi => ?_⟩
  obtain ⟨A', B, c', hu, hb⟩ := hg i 0 hi (by omega)
  have hci := hc i 0 hi (by omega)
  rw [Nat.mul_one, Nat.add_zero, hu] at hci
  exact ⟨A', c', B, fun w' hbe => (hbe.cell (p := ⟨b, o + i, none⟩) hbl).trans hci, hb⟩
structure MsgAt (W : World) (b o : Nat) (k : Int) (A1 : Option Addr) (N : List Int) (c1 : Nat) (A2 : Option Addr) (B : List Nat) (c2 : Nat) (A3 : Option Addr) (m3 c3 : Nat) : Prop where
 kk : i64ok k
 nn : Reads W W.heap.size 1 A1 N.length (N.map (Value.int .i64))
 bb : TB W A2 B
 bc : B.length ≤ c2
 l : LB W A3 m3
 cells : ∀ w', Below W.heap.size W w' → w'.cell? ⟨b, o, none⟩ = some (.int .i64 k) ∧ w'.cell? ⟨b, o + 1, none⟩ = some (.slice A1 N.length c1) ∧ w'.cell? ⟨b, o + 2, none⟩ = some (.slice A2 B.length c2) ∧ w'.cell? ⟨b, o + 3, none⟩ = some (.slice A3 m3 c3)
theorem open_msgs {v : Value} {d : DataW H} {p : List MemPlace} (ok : Value.okWide Tryz.prog W .any base 47 v) (h : DataW.Trod enc Tryz.prog W 0 (fun _ => true) true 47 v d p) (hw : WB Tryz.prog 47 d) :
  ∃ (A : Option Addr) (n c : Nat), v = .slice A n c ∧ n ≤ c ∧ c ≤ maxLen ∧ (0 < n → ∃ b o, A = some ⟨b, o, none⟩ ∧ b < W.heap.size ∧ ∀ i, i < n → ∃ k A1 N c1 A2 B c2 A3 m3 c3, MsgAt W b (o + i * 4) k A1 N c1 A2 B c2 A3 m3 c3) := by
 obtain ⟨A, n, c, rfl⟩ := okWide_slice Tryz.underlying47 ok
 obtain ⟨fuel, hf⟩ := h
 obtain ⟨A', n', c', g, hcs, hn, hcm, hg, hr⟩ := open_rowsW 4 Tryz.underlying47 (by kernel_rfl) (by decide) allMsg hf hw
 have e0 : A = A' ∧ n = n' ∧ c = c' := by simpa [Value.cells] using hcs
 obtain ⟨rfl, rfl, rfl⟩ := e0
 refine ⟨A, n, c, rfl, hn, hcm, fun h0 => ?_⟩
 obtain ⟨b, o, rfl, hbl, hc⟩ := hr h0
 refine ⟨b, o, rfl, hbl, fun i hi => ?_⟩
 obtain ⟨k, hk, e0⟩ := hg i 0 hi (by omega)
 obtain ⟨A1, N, c1, e1, hN⟩ := hg i 1 hi (by omega)
 obtain ⟨A2, B, c2, e2, hbc, hB⟩ := hg i 2 hi (by omega)
 obtain ⟨A3, m3, c3, e3, hL⟩ := hg i 3 hi (by omega)
 refine ⟨k, A1, N, c1, A2, B, c2, A3, m3, c3, hk, hN, hB, hbc, hL, fun w' hbe => ?_⟩
 have hat : ∀ j, j < 4 → w'.cell? ⟨b, o + i * 4 + j, none⟩ = some (g i j) := fun j hj => by
  rw [Nat.add_assoc]
  exact (hbe.cell (p := ⟨b, o + (i * 4 + j), none⟩) hbl).trans (hc i j hi hj)
 exact ⟨e0 ▸ hat 0 (by omega), e1 ▸ hat 1 (by omega), e2 ▸ hat 2 (by omega), e3 ▸ hat 3 (by omega)⟩
end
end Go.Proofs.YteppdlkmjgladaaGreat
