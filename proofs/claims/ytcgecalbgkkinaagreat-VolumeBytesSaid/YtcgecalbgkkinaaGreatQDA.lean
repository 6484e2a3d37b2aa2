/- One text of: Ds Ds2 Ds3 Ds4. -/
import Derived.Test.YtcgecalbgkkinaaGreatQSrv
import Derived.Test.YtcgecalbgkkinaaGreatQRef
import Derived.Test.YtcgecalbgkkinaaGreatQReg4
namespace Go.Proofs.YtcgecalbgkkinaaGreat
open Go.ChangeShapes Go.WideShapes Go.ChangeAt Go.RowKit Go.Joins Go.Deep Go.Maps
set_option linter.unusedVariables false
set_option linter.unusedSimpArgs false
theorem zA33 {α : Type} (l : List α) (i : Nat) (a : α) : l.toArray.setIfInBounds i a = (l.set i a).toArray := by simp
theorem zB33 {α : Type} (x a : α) (l : List α) : (x :: l).set 0 a = a :: l := rfl
theorem zC33 {α : Type} (x a : α) (l : List α) (n : Nat) : (x :: l).set (n + 1) a = x :: l.set n a := rfl

/-- cells of things that lie behind one another, each of n cells -/
def flatC {α : Type} (f : α → List Value) : List α → List Value
  | [] => []
  | x :: t => f x ++ flatC f t
section
variable {α : Type} {f : α → List Value} {n : Nat}
theorem flatC_length (hf : ∀ x, (f x).length = n) : ∀ L : List α, (flatC f L).length = L.length * n
  | [] => by simp [flatC]
  | x :: t => by unfold flatC; rw [List.length_append, hf, flatC_length hf t, List.length_cons, Nat.add_mul]; omega
theorem flatC_get (hf : ∀ x, (f x).length = n) : ∀ (L : List α) (k j : Nat) (hk : k < L.length) (hj : j < n), (flatC f L)[k * n + j]? = (f L[k])[j]?
  | x :: t, 0, j, hk, hj => by
    unfold flatC
    rw [Nat.zero_mul, Nat.zero_add, List.getElem?_append_left (by rw [hf]; exact hj)]
    rfl
  | x :: t, k + 1, j, hk, hj => by
    unfold flatC
    rw [Nat.add_mul, List.getElem?_append_right (by rw [hf]; omega), hf, show k * n + 1 * n + j - n = k * n + j by omega]
    exact flatC_get hf t k j (by simpa using hk) hj
theorem flatC_app (L M : List α) : flatC f (L ++ M) = flatC f L ++ flatC f M := by
  induction L with
  | nil => rfl
  | cons x t ih => exact (congrArg (f x ++ ·) ih).trans (List.append_assoc ..).symm
end
theorem voLen (x : VoM) : x.cells.length = 8 := rfl
theorem ckLen (x : CkM) : x.cells.length = 5 := rfl
/-- where the document's state lies -/
structure DV where
  Ap : Option Addr
  cp : Nat
  V : List VoM
  Av : Option Addr
  cv : Nat
  C : List CkM
  Ac : Option Addr
  cc : Nat
def DV.cells (x : DV) (nx : Int) : List Value := [.slice x.Ap 16 x.cp, .slice x.Av x.V.length x.cv, .slice x.Ac x.C.length x.cc, .int .i64 nx]
def DV.val (x : DV) (nx : Int) : Value := .agg (x.cells nx).toArray
def Vst.picks (S : Vst) : List Value := (List.range 16).map fun i : Nat => .int .i64 (S.pick i)
/-- the document's state, to be read; its inner slices avoid the blocks 'no' -/
structure DM (w : World) (no : List Nat) (x : DV) (S : Vst) : Prop where
  pk : Reads w w.heap.size 1 x.Ap 16 S.picks
  vo : Reads w w.heap.size 8 x.Av x.V.length (flatC VoM.cells x.V)
  ck : Reads w w.heap.size 5 x.Ac x.C.length (flatC CkM.cells x.C)
  eV : x.V.map VoM.v = S.vs
  eC : x.C.map CkM.k = S.cs
  sV : ∀ y ∈ x.V, Sl w no y.A y.c y.v.ch
  sC : ∀ y ∈ x.C, Sl w no y.A y.c y.k.me ∧ Sl w no y.B y.d y.k.jo
section
variable {w w' : World} {no : List Nat} {x : DV} {S : Vst} {n : Nat}
theorem DM.below (h : DM w no x S) (hb : Below w.heap.size w w') : DM w' no x S :=
  ⟨(h.pk.below hb).more hb.size, (h.vo.below hb).more hb.size, (h.ck.below hb).more hb.size, h.eV, h.eC, fun y hy => (h.sV y hy).below hb, fun y hy => ⟨(h.sC y hy).1.below hb, (h.sC y hy).2.below hb⟩⟩
theorem DM.lenV (h : DM w no x S) : x.V.length = S.vs.length := by rw [← h.eV, List.length_map]
theorem DM.lenC (h : DM w no x S) : x.C.length = S.cs.length := by rw [← h.eC, List.length_map]
theorem DM.getV (h : DM w no x S) {k : Nat} (hk : k < x.V.length) : S.vs[k]'(by rw [← h.lenV]; exact hk) = x.V[k].v := by simp [← h.eV]
theorem DM.getC (h : DM w no x S) {k : Nat} (hk : k < x.C.length) : S.cs[k]'(by rw [← h.lenC]; exact hk) = x.C[k].k := by simp [← h.eC]
/-- a volume's cells in any later world -/
theorem DM.atV (h : DM w no x S) {k : Nat} (hk : k < x.V.length) : ∃ b o, x.Av = some ⟨b, o, none⟩ ∧ b < w.heap.size ∧ ∀ w', Below w.heap.size w w' → ∀ j, j < 8 → w'.cell? ⟨b, o + k * 8 + j, none⟩ = x.V[k].cells[j]? := by
  obtain ⟨b, o, e, hb, hc⟩ := h.vo.2 (by omega)
  refine ⟨b, o, e, hb, fun w' hw j hj => ?_⟩
  rw [hw.cell (p := ⟨b, o + k * 8 + j, none⟩) hb]
  have h1 := flatC_get voLen x.V k j hk hj
  have h3 : j < x.V[k].cells.length := by rw [voLen]; exact hj
  rw [List.getElem?_eq_getElem h3] at h1 ⊢
  rw [Nat.add_assoc]
  exact hc _ _ h1
theorem DM.atC (h : DM w no x S) {k : Nat} (hk : k < x.C.length) : ∃ b o, x.Ac = some ⟨b, o, none⟩ ∧ b < w.heap.size ∧ ∀ w', Below w.heap.size w w' → ∀ j, j < 5 → w'.cell? ⟨b, o + k * 5 + j, none⟩ = x.C[k].cells[j]? := by
  obtain ⟨b, o, e, hb, hc⟩ := h.ck.2 (by omega)
  refine ⟨b, o, e, hb, fun w' hw j hj => ?_⟩
  rw [hw.cell (p := ⟨b, o + k * 5 + j, none⟩) hb]
  have h1 := flatC_get ckLen x.C k j hk hj
  have h3 : j < x.C[k].cells.length := by rw [ckLen]; exact hj
  rw [List.getElem?_eq_getElem h3] at h1 ⊢
  rw [Nat.add_assoc]
  exact hc _ _ h1
theorem DM.atP (h : DM w no x S) : ∃ b o, x.Ap = some ⟨b, o, none⟩ ∧ b < w.heap.size ∧ ∀ w', Below w.heap.size w w' → ∀ j : Nat, j < 16 → w'.cell? ⟨b, o + j, none⟩ = some (.int .i64 (S.pick j)) := by
  obtain ⟨b, o, e, hb, hc⟩ := h.pk.2 (by omega)
  refine ⟨b, o, e, hb, fun w' hw j hj => ?_⟩
  rw [hw.cell (p := ⟨b, o + j, none⟩) hb]
  exact hc _ _ (by simp [Vst.picks, hj])
end
/-- the place of a key; -1: there is none -/
def AtI {α : Type} (key : α → Int) (L : List α) (id i : Int) : Prop := (fd key L id = none ∧ i = -1) ∨ ∃ k : Nat, ∃ h : k < L.length, key L[k] = id ∧ i = k
theorem AtI.none {α : Type} {key : α → Int} {L : List α} {id : Int} (h : ∀ j (hj : j < L.length), key L[j] ≠ id) : AtI key L id (-1) :=
  Or.inl ⟨fd_none.2 fun y hy => by obtain ⟨j, hj, rfl⟩ := List.getElem_of_mem hy; exact h j hj, rfl⟩
set_option maxHeartbeats 1000000 in
theorem dvol_calls (w : World) (no : List Nat) (x : DV) (S : Vst) (nx id : Int) (h : DM w no x S) (hl : x.V.length ≤ 1000000) :
    Calls Tryz.prog 46 #[x.val nx, .int .i64 id] w fun e w' => ∃ i, e = .returned (.int .i64 i) ∧ AtI Vo.id S.vs id i ∧ Below w.heap.size w w' := by
  obtain ⟨Ap, cp, V, Av, cv, C, Ac, cc⟩ := x
  unfold DV.val DV.cells
  simp only [] at hl ⊢
  obtain ⟨w0, hw0⟩ : ∃ w0, w.alloc (.cells #[.slice Ap 16 cp, .slice Av V.length cv, .slice Ac C.length cc, .int .i64 nx] 31) = w0 := ⟨_, rfl⟩
  have d0 : Blk w0 w.heap.size 31 [.slice Ap 16 cp, .slice Av V.length cv, .slice Ac C.length cc, .int .i64 nx] := hw0 ▸ Blk.new rfl
  have hb0 : Below w.heap.size w w0 := hw0 ▸ (Below.refl _ _).alloc (Nat.le_refl _) _
  have H := hide (h.below hb0)
  have HB0 := hide hb0
  have HW := hide hw0
  have cx := d0.rule 1 _ rfl
  clear h d0 hb0 hw0
  go_enter Tryz.func46, Tryz.ntmps46
  go_wp2_with fail
  rw [HW.out]
  go_loopw [5, 6, 7, 8, 9, 10, 11, 12, 13, 14, 15, 16, 17, 18, 19, 20, 21] (fun i _ _ _ _ _ _ _ _ _ _ _ _ _ _ _ _ wr => ∃ k : Nat, k ≤ V.length ∧ i = .int .i64 k ∧ Below w0.heap.size w0 wr ∧ ∀ j (hj : j < V.length), j < k → V[j].v.id ≠ id) (fun i _ _ _ _ _ _ _ _ _ _ _ _ _ _ _ _ _ => V.length - (intOf i).toNat)
  case atStart => exact ⟨0, Nat.zero_le _, rfl, Below.refl _ _, fun j _ hj => by omega⟩
  case round =>
    obtain ⟨k, hk, rfl, hb, hno⟩ := hrel
    have HB := hide hb
    have HNO := hide hno
    have c1 := cx wr hb
    clear hb hno cx
    by_cases hlt : k < V.length
    · obtain ⟨b, o, rfl, hbb, hcell⟩ := H.out.atV hlt
      have g00 := hcell wr HB.out 0 (by omega)
      rw [Nat.add_zero] at g00
      have g0 : wr.cell? ⟨b, o + k * 8, none⟩ = some (.int .i64 V[k].v.id) := g00
      clear g00
      have i1 : (k : Int) < V.length := by omega
      obtain ⟨y, hy⟩ : ∃ y, V[k].v.id = y := ⟨_, rfl⟩
      rw [hy] at g0
      have HY := hide hy
      clear hcell hy
      by_cases e : y = id
      · have HE := hide e
        subst e
        go_wp2
        go_ret
        refine ⟨_, rfl, Or.inr ⟨k, by rw [← H.out.lenV]; exact hlt, ?_, rfl⟩, HB0.out.trans (HB.out.mono HB0.out.size)⟩
        rw [H.out.getV hlt, HY.out]
      · have HE := hide e
        go_wp2
        go_roundw
        case rel => exact ⟨k + 1, by omega, by go_num, HB.out, fun j hj hjk => by
          by_cases ej : j = k
          · subst ej; rw [HY.out]; exact HE.out
          · exact HNO.out j hj (by omega)⟩
        case measure => simp [intOf]; omega
    · have e : k = V.length := by omega
      subst e
      go_wp2
      go_ret
      refine ⟨_, rfl, AtI.none fun j hj => ?_, HB0.out.trans (HB.out.mono HB0.out.size)⟩
      have hj' : j < V.length := by rw [H.out.lenV]; exact hj
      rw [H.out.getV hj']
      exact HNO.out j hj' hj'
set_option maxHeartbeats 1000000 in
theorem dchunk_calls (w : World) (no : List Nat) (x : DV) (S : Vst) (nx id : Int) (h : DM w no x S) (hl : x.C.length ≤ 1000000) :
    Calls Tryz.prog 51 #[x.val nx, .int .i64 id] w fun e w' => ∃ i, e = .returned (.int .i64 i) ∧ AtI Ck.id S.cs id i ∧ Below w.heap.size w w' := by
  obtain ⟨Ap, cp, V, Av, cv, C, Ac, cc⟩ := x
  unfold DV.val DV.cells
  simp only [] at hl ⊢
  obtain ⟨w0, hw0⟩ : ∃ w0, w.alloc (.cells #[.slice Ap 16 cp, .slice Av V.length cv, .slice Ac C.length cc, .int .i64 nx] 31) = w0 := ⟨_, rfl⟩
  have d0 : Blk w0 w.heap.size 31 [.slice Ap 16 cp, .slice Av V.length cv, .slice Ac C.length cc, .int .i64 nx] := hw0 ▸ Blk.new rfl
  have hb0 : Below w.heap.size w w0 := hw0 ▸ (Below.refl _ _).alloc (Nat.le_refl _) _
  have H := hide (h.below hb0)
  have HB0 := hide hb0
  have HW := hide hw0
  have cx := d0.rule 2 _ rfl
  clear h d0 hb0 hw0
  go_enter Tryz.func51, Tryz.ntmps51
  go_wp2_with fail
  rw [HW.out]
  go_loopw [5, 6, 7, 8, 9, 10, 11, 12, 13, 14, 15, 16, 17, 18, 19, 20, 21] (fun i _ _ _ _ _ _ _ _ _ _ _ _ _ _ _ _ wr => ∃ k : Nat, k ≤ C.length ∧ i = .int .i64 k ∧ Below w0.heap.size w0 wr ∧ ∀ j (hj : j < C.length), j < k → C[j].k.id ≠ id) (fun i _ _ _ _ _ _ _ _ _ _ _ _ _ _ _ _ _ => C.length - (intOf i).toNat)
  case atStart => exact ⟨0, Nat.zero_le _, rfl, Below.refl _ _, fun j _ hj => by omega⟩
  case round =>
    obtain ⟨k, hk, rfl, hb, hno⟩ := hrel
    have HB := hide hb
    have HNO := hide hno
    have c1 := cx wr hb
    clear hb hno cx
    by_cases hlt : k < C.length
    · obtain ⟨b, o, rfl, hbb, hcell⟩ := H.out.atC hlt
      have g00 := hcell wr HB.out 0 (by omega)
      rw [Nat.add_zero] at g00
      have g0 : wr.cell? ⟨b, o + k * 5, none⟩ = some (.int .i64 C[k].k.id) := g00
      clear g00
      have i1 : (k : Int) < C.length := by omega
      obtain ⟨y, hy⟩ : ∃ y, C[k].k.id = y := ⟨_, rfl⟩
      rw [hy] at g0
      have HY := hide hy
      clear hcell hy
      by_cases e : y = id
      · have HE := hide e
        subst e
        go_wp2
        go_ret
        refine ⟨_, rfl, Or.inr ⟨k, by rw [← H.out.lenC]; exact hlt, ?_, rfl⟩, HB0.out.trans (HB.out.mono HB0.out.size)⟩
        rw [H.out.getC hlt, HY.out]
      · have HE := hide e
        go_wp2
        go_roundw
        case rel => exact ⟨k + 1, by omega, by go_num, HB.out, fun j hj hjk => by
          by_cases ej : j = k
          · subst ej; rw [HY.out]; exact HE.out
          · exact HNO.out j hj (by omega)⟩
        case measure => simp [intOf]; omega
    · have e : k = C.length := by omega
      subst e
      go_wp2
      go_ret
      refine ⟨_, rfl, AtI.none fun j hj => ?_, HB0.out.trans (HB.out.mono HB0.out.size)⟩
      have hj' : j < C.length := by rw [H.out.lenC]; exact hj
      rw [H.out.getC hj']
      exact HNO.out j hj' hj'
end Go.Proofs.YtcgecalbgkkinaaGreat

namespace Go.Proofs.YtcgecalbgkkinaaGreat
open Go.ChangeShapes Go.WideShapes Go.ChangeAt Go.RowKit Go.Joins Go.Deep Go.Maps
set_option linter.unusedVariables false
set_option linter.unusedSimpArgs false

set_option maxHeartbeats 1000000 in
theorem dhas_calls (y : CkM) (id : Int) (no : List Nat) (w : World) (h1 : Sl w no y.A y.c y.k.me) (h2 : Sl w no y.B y.d y.k.jo) :
    Calls Tryz.prog 74 #[y.val, .int .i64 id] w fun e w' => e = .returned (.bool (y.k.has id)) ∧ Below w.heap.size w w' := by
  obtain ⟨⟨cid, vol, ep, me, jo⟩, A, c, B, d⟩ := y
  simp only [CkM.val, CkM.cells] at h1 h2 ⊢
  obtain ⟨w0, hw0⟩ : ∃ w0, w.alloc (.cells #[.int .i64 cid, .int .i64 vol, .int .i64 ep, .slice A me.length c, .slice B jo.length d] 47) = w0 := ⟨_, rfl⟩
  have d0 : Blk w0 w.heap.size 47 [.int .i64 cid, .int .i64 vol, .int .i64 ep, .slice A me.length c, .slice B jo.length d] := hw0 ▸ Blk.new rfl
  have hb0 : Below w.heap.size w w0 := hw0 ▸ (Below.refl _ _).alloc (Nat.le_refl _) _
  have H1 := hide (h1.below hb0)
  have H2 := hide (h2.below hb0)
  have HB0 := hide hb0
  have HW := hide hw0
  have c3 := d0.cell 3
  have D0 := hide d0
  simp only [List.getElem?_cons_succ, List.getElem?_cons_zero] at c3
  clear h1 h2 d0 hb0 hw0
  go_enter Tryz.func74, Tryz.ntmps74
  go_wp2_with fail
  rw [HW.out]
  refine (has15_calls A me.length c me id w0 rfl (by have := H1.out.ln; omega) H1.out.rd).mono ?_
  rintro e w1 ⟨rfl, q, rfl⟩
  have c4 : (w0.drewN q).cell? ⟨w.heap.size, 4, none⟩ = some (.slice B jo.length d) := D0.out.cell 4
  have hh : (⟨cid, vol, ep, me, jo⟩ : Ck).has id = (me.contains id || jo.contains id) := rfl
  have HH := hide hh
  obtain ⟨r, hr⟩ : ∃ r, me.contains id = r := ⟨_, rfl⟩
  rw [hr] at HH ⊢
  clear hh hr c3
  cases r with
  | true =>
    go_wp2
    go_ret
    rw [HH.out]
    exact ⟨rfl, below_drewN HB0.out q⟩
  | false =>
    go_wp2_with fail
    refine (has15_calls B jo.length d jo id (w0.drewN q) rfl (by have := H2.out.ln; omega) (H2.out.rd.drewN q)).mono ?_
    rintro e w1 ⟨rfl, q2, rfl⟩
    rw [Bool.false_or] at HH
    obtain ⟨r, hr⟩ : ∃ r, jo.contains id = r := ⟨_, rfl⟩
    rw [hr] at HH ⊢
    go_wp2
    go_ret
    rw [HH.out]
    exact ⟨rfl, below_drewN HB0.out (q + q2)⟩
/-- servers below k, counted -/
def Vst.cntP (S : Vst) (k : Nat) : Nat := ((List.range k).filter fun id => decide (0 < S.pick (id : Nat))).length
theorem Vst.cntP_succ (S : Vst) (k : Nat) : S.cntP (k + 1) = if 0 < S.pick k then S.cntP k + 1 else S.cntP k := by
  unfold Vst.cntP
  rw [List.range_succ, List.filter_append, List.length_append]
  by_cases h : 0 < S.pick k <;> simp [h]
theorem Vst.cntP_le (S : Vst) (k : Nat) : S.cntP k ≤ k := by
  unfold Vst.cntP
  have := List.length_filter_le (fun id : Nat => decide (0 < S.pick (id : Nat))) (List.range k)
  simpa using this
set_option maxHeartbeats 1000000 in
theorem dcount_calls (w : World) (no : List Nat) (x : DV) (S : Vst) (nx : Int) (h : DM w no x S) (ho : SvOk S) :
    Calls Tryz.prog 48 #[x.val nx] w fun e w' => e = .returned (.int .i64 (S.sv.length : Int)) ∧ Below w.heap.size w w' := by
  have hc : S.cntP 16 = S.sv.length := Vst.count ho
  have HC := hide hc
  clear ho hc
  obtain ⟨Ap, cp, V, Av, cv, C, Ac, cc⟩ := x
  unfold DV.val DV.cells
  simp only []
  obtain ⟨w0, hw0⟩ : ∃ w0, w.alloc (.cells #[.slice Ap 16 cp, .slice Av V.length cv, .slice Ac C.length cc, .int .i64 nx] 31) = w0 := ⟨_, rfl⟩
  have d0 : Blk w0 w.heap.size 31 [.slice Ap 16 cp, .slice Av V.length cv, .slice Ac C.length cc, .int .i64 nx] := hw0 ▸ Blk.new rfl
  have hb0 : Below w.heap.size w w0 := hw0 ▸ (Below.refl _ _).alloc (Nat.le_refl _) _
  have H := hide (h.below hb0)
  have HB0 := hide hb0
  have HW := hide hw0
  have D0 := hide d0
  clear h d0 hb0 hw0
  go_enter Tryz.func48, Tryz.ntmps48
  go_wp2_with fail
  rw [HW.out]
  go_loopw [3, 4, 5, 6, 7, 8, 9, 10, 11, 12, 13, 14, 15, 16] (fun s i _ _ _ _ _ _ _ _ _ _ _ _ wr => ∃ k : Nat, k ≤ 16 ∧ i = .int .i64 k ∧ s = .int .i64 (S.cntP k) ∧ Below w0.heap.size w0 wr) (fun s i _ _ _ _ _ _ _ _ _ _ _ _ _ => 16 - (intOf i).toNat)
  case atStart => exact ⟨0, Nat.zero_le _, rfl, rfl, Below.refl _ _⟩
  case round =>
    obtain ⟨k, hk, rfl, rfl, hb⟩ := hrel
    have HB := hide hb
    have c1 := D0.out.rule 0 _ rfl wr hb
    by_cases hlt : k < 16
    · obtain ⟨b, o, rfl, hbb, hcell⟩ := H.out.atP
      have g0 := hcell wr hb k hlt
      have i1 : (k : Int) < 16 := by omega
      have HS := hide (S.cntP_succ k)
      have HL := hide (S.cntP_le k)
      obtain ⟨q, hq⟩ : ∃ q, S.pick k = q := ⟨_, rfl⟩
      obtain ⟨z, hz⟩ : ∃ z, S.cntP k = z := ⟨_, rfl⟩
      rw [hq] at g0 HS
      rw [hz] at HS HL ⊢
      have hwr : IntKind.i64.wrap ((z : Int) + 1) = z + 1 := IntWalk.i64_in _ (by have := HL.out; omega)
      clear hcell hb hq hz
      by_cases h0 : 0 < q
      · rw [if_pos h0] at HS
        go_wp2
        go_roundw
        case rel => exact ⟨k + 1, by omega, by go_num, by rw [HS.out]; go_num, HB.out⟩
        case measure => simp [intOf]; omega
      · rw [if_neg h0] at HS
        go_wp2
        go_roundw
        case rel => exact ⟨k + 1, by omega, by go_num, by rw [HS.out], HB.out⟩
        case measure => simp [intOf]; omega
    · have e : k = 16 := by omega
      subst e
      rw [HC.out]
      clear hb
      go_wp2
      go_ret
      exact ⟨rfl, HB0.out.trans (HB.out.mono HB0.out.size)⟩
/-- what stays of the first k -/
theorem filter_take {α : Type} (p : α → Bool) (L : List α) (k : Nat) (h : k < L.length) : (L.take (k + 1)).filter p = (L.take k).filter p ++ (if p L[k] then [L[k]] else []) := by
  rw [List.take_succ_eq_append_getElem h, List.filter_append]
  congr 1
  by_cases hp : p L[k] <;> simp [hp]
theorem filter_take_le {α : Type} (p : α → Bool) (L : List α) (k : Nat) : ((L.take k).filter p).length ≤ k := Nat.le_trans (List.length_filter_le _ _) (by rw [List.length_take]; omega)
theorem Tryz.infoCk : (Tryz.prog.info? 47).map (fun i => (i.zero, i.size, i.bytes)) = some (some (.agg #[.int .i64 0, .int .i64 0, .int .i64 0, .slice none 0 0, .slice none 0 0]), 5, 72) := by kernel_rfl
theorem ckCells_one (y : CkM) : ∀ u ∈ y.cells, u.oneCell' = true := by
  intro u hu
  simp only [CkM.cells, List.mem_cons, List.mem_nil_iff, or_false] at hu
  rcases hu with rfl | rfl | rfl | rfl | rfl <;> rfl
theorem voCells_one (y : VoM) : ∀ u ∈ y.cells, u.oneCell' = true := by
  intro u hu
  simp only [VoM.cells, List.mem_cons, List.mem_nil_iff, or_false] at hu
  rcases hu with rfl | rfl | rfl | rfl | rfl | rfl | rfl | rfl <;> rfl
/-- a slice of things in a new block -/
def OwnR {α : Type} (t : TypeId) (n : Nat) (f : α → List Value) (w w' : World) (A : Option Addr) (c : Nat) (L : List α) : Prop :=
  w'.ownsRow 0 t n (.slice A L.length c) L.length (flatC f L) ∧ ∀ g, A.map Addr.block = some g → w.heap.size ≤ g
theorem OwnR.rd {α : Type} {t : TypeId} {n : Nat} {f : α → List Value} {w w' : World} {A : Option Addr} {c : Nat} {L : List α} (h : OwnR t n f w w' A c L) : Reads w' w'.heap.size n A L.length (flatC f L) := by
  obtain ⟨A2, c2, e, _, _, _, _, h5⟩ := own_view h.1
  cases e
  exact h5 _ (fun g hg => own_lt h.1 hg)
theorem OwnR.below {α : Type} {t : TypeId} {n : Nat} {f : α → List Value} {w w' w'' : World} {A : Option Addr} {c : Nat} {L : List α} (h : OwnR t n f w w' A c L) (hb : Below w'.heap.size w' w'') : OwnR t n f w w'' A c L :=
  ⟨own_chg h.1 (Chg.of_below (L := []) hb) (fun _ _ hx => by cases hx), h.2⟩
theorem OwnR.back {α : Type} {t : TypeId} {n : Nat} {f : α → List Value} {w w0 w' : World} {A : Option Addr} {c : Nat} {L : List α} (h : OwnR t n f w0 w' A c L) (hb : w.heap.size ≤ w0.heap.size) : OwnR t n f w w' A c L := ⟨h.1, fun g hg => Nat.le_trans hb (h.2 g hg)⟩
/-- one more behind -/
theorem OwnR.push {α : Type} {t : TypeId} {n : Nat} {f : α → List Value} {W w w1 w2 : World} {A : Option Addr} {c g cap : Nat} {L : List α} {y : α} (h : OwnR t n f W w A c L) (hb : Below w.heap.size w w1)
    (hown : w2.ownsRow 0 t n (.slice (some ⟨g, 0, none⟩) (L.length + 1) cap) (L.length + 1) (flatC f L ++ f y)) (hW : Below W.heap.size W w) (hch : Chg (A.map Addr.block).toList w1 w2) (hor : A.map Addr.block = some g ∨ w.heap.size ≤ g) :
    OwnR t n f W w2 (some ⟨g, 0, none⟩) cap (L ++ [y]) ∧ Below W.heap.size W w2 := by
  refine ⟨⟨?_, fun z hz => ?_⟩, Chg.onto (hW.trans (hb.mono hW.size)) (Nat.le_trans hW.size hb.size) hch (fun z hz => h.2 z (by simpa using hz))⟩
  · rw [flatC_app, List.length_append]
    simpa [flatC] using hown
  · obtain rfl : g = z := by simpa using hz
    rcases hor with h1 | h1
    · exact h.2 g h1
    · exact Nat.le_trans hW.size h1
theorem OwnR.nil {α : Type} (t : TypeId) (n : Nat) (f : α → List Value) (W w : World) : OwnR t n f W w none 0 [] := ⟨World.ownsRow_nil _ _ _ _, fun g hg => by cases hg⟩
set_option maxRecDepth 100000 in
set_option maxHeartbeats 2000000 in
theorem dout_calls (w : World) (Ac Ai : Option Addr) (cc ci : Nat) (C : List CkM) (ids : List Int) (hC : Reads w w.heap.size 5 Ac C.length (flatC CkM.cells C)) (hI : Reads w w.heap.size 1 Ai ids.length (ids.map (Value.int .i64))) (hl : C.length ≤ 1000000) (hli : ids.length ≤ 1000000) :
    Calls Tryz.prog 50 #[.slice Ac C.length cc, .slice Ai ids.length ci] w fun e w' => ∃ A c, e = .returned (.slice A (C.filter fun y => !ids.contains y.k.id).length c) ∧
      OwnR 47 5 CkM.cells w w' A c (C.filter fun y => !ids.contains y.k.id) ∧ Below w.heap.size w w' := by
  obtain ⟨i0, hi, hz0, hz1, hz2⟩ := info_parts Tryz.infoCk
  have HC := hide hC
  have HI := hide hI
  obtain ⟨p, hp⟩ : ∃ p : CkM → Bool, (fun y : CkM => !ids.contains y.k.id) = p := ⟨_, rfl⟩
  rw [hp]
  have HP := hide hp
  clear hC hI hp
  go_enter Tryz.func50, Tryz.ntmps50
  go_wp2_with fail
  go_loopw [5, 6, 7, 8, 9, 10, 11, 12, 13, 14, 15, 16, 17, 18, 19, 20, 21, 22, 23, 24, 25, 26, 27] (fun v i _ _ _ _ _ _ _ _ _ _ _ _ _ _ _ _ _ _ _ _ _ wr => ∃ (k : Nat) (A : Option Addr) (c : Nat), k ≤ C.length ∧ i = .int .i64 k ∧ v = .slice A ((C.take k).filter p).length c ∧ OwnR 47 5 CkM.cells w wr A c ((C.take k).filter p) ∧ Below w.heap.size w wr) (fun v i _ _ _ _ _ _ _ _ _ _ _ _ _ _ _ _ _ _ _ _ _ _ => C.length - (intOf i).toNat)
  case atStart => exact ⟨0, none, 0, Nat.zero_le _, rfl, by simp, by simpa using OwnR.nil _ _ _ _ _, Below.refl _ _⟩
  case round =>
    obtain ⟨k, A, c, hk, rfl, rfl, ho, hb⟩ := hrel
    have HO := hide ho
    have HB := hide hb
    clear ho hb
    by_cases hlt : k < C.length
    · have HF := hide (filter_take p C k hlt)
      have HFL := hide (filter_take_le p C k)
      obtain ⟨b, o, rfl, hbb, hc0⟩ := HC.out.2 (show 0 < C.length by omega)
      have hcell : ∀ j u, C[k].cells[j]? = some u → wr.cell? ⟨b, o + (k * 5 + j), none⟩ = some u := fun j u hu => by
        have hj : j < 5 := by have := (List.getElem?_eq_some_iff.1 hu).1; rwa [ckLen] at this
        rw [HB.out.cell (p := ⟨b, o + (k * 5 + j), none⟩) hbb]
        exact hc0 _ _ (by rw [flatC_get ckLen C k j hlt hj]; exact hu)
      have i1 : (k : Int) < C.length := by omega
      obtain ⟨F, hF⟩ : ∃ F, (C.take k).filter p = F := ⟨_, rfl⟩
      obtain ⟨y, hy⟩ : ∃ y, C[k] = y := ⟨_, rfl⟩
      rw [hF] at HF HFL HO ⊢
      rw [hy] at HF hcell
      have hpy : p y = !ids.contains y.k.id := by rw [← HP.out]
      have HPY := hide hpy
      have g0 : wr.cell? ⟨b, o + k * 5, none⟩ = some (.int .i64 y.k.id) := hcell 0 _ rfl
      have g1 : wr.cell? ⟨b, o + (k * 5 + 1), none⟩ = some (.int .i64 y.k.vol) := hcell 1 _ rfl
      have g2 : wr.cell? ⟨b, o + (k * 5 + 2), none⟩ = some (.int .i64 y.k.ep) := hcell 2 _ rfl
      have g3 : wr.cell? ⟨b, o + (k * 5 + 3), none⟩ = some (.slice y.A y.k.me.length y.c) := hcell 3 _ rfl
      have g4 : wr.cell? ⟨b, o + (k * 5 + 4), none⟩ = some (.slice y.B y.k.jo.length y.d) := hcell 4 _ rfl
      rw [← Nat.add_assoc] at g1 g2 g3 g4
      have HY := hide (And.intro hF hy)
      have HHAS := hide (has15_calls Ai ids.length ci ids y.k.id wr rfl (by omega) ((HI.out.below HB.out).more HB.out.size))
      clear hcell hc0 hpy hF hy
      go_wp2_with fail
      refine HHAS.out.mono ?_
      rintro e w1 ⟨rfl, q, rfl⟩
      obtain ⟨r, hr⟩ : ∃ r, ids.contains y.k.id = r := ⟨_, rfl⟩
      rw [hr] at HPY ⊢
      clear hr HHAS
      cases r with
      | true =>
        rw [HPY.out] at HF
        simp only [Bool.not_true, Bool.false_eq_true, if_false, List.append_nil] at HF
        go_wp2
        go_roundw
        case rel => exact ⟨k + 1, A, c, by omega, by go_num, by rw [HF.out], by rw [HF.out]; exact HO.out.below (below_drewN (Below.refl _ _) q), below_drewN HB.out q⟩
        case measure => simp [intOf]; omega
      | false =>
        rw [HPY.out] at HF
        simp only [Bool.not_false, if_true] at HF
        have q0 : ∀ a, (wr.drewN q).cell? a = wr.cell? a := fun a => rfl
        have HOB := hide (own_chg (HO.out.below (below_drewN (Below.refl _ _) q)).1 (Chg.of_below (L := []) ((Below.refl _ (wr.drewN q)).alloc (Nat.le_refl _) (.cells #[.int .i64 y.k.id, .int .i64 y.k.vol, .int .i64 y.k.ep, .slice y.A y.k.me.length y.c, .slice y.B y.k.jo.length y.d] 47))) (fun _ _ hx => by cases hx))
        go_wp2_with (at_builtin; refine app_law rfl _ _ 29 rfl 47 i0 _ 5 72 Tryz.underlying29 hi hz0 hz1 hz2 rfl (by decide) (.slice A F.length c) F.length (flatC CkM.cells F) rfl HOB.out wr.heap.size 1 1 y.cells rfl (Blk.new rfl) rfl ?c1 (by decide) ?c3 ?c4 ?_)
        case c1 => exact ckCells_one y
        case c3 => have := HFL.out; unfold maxLen; omega
        case c4 => have := HFL.out; omega
        intro g cap w4 hown2 hch hor hlt2
        rw [owS] at hch hor
        have hP := OwnR.push (y := y) (HO.out.below (below_drewN (Below.refl _ _) q)) ((Below.refl _ (wr.drewN q)).alloc (Nat.le_refl _) _) hown2 (below_drewN HB.out q) hch (hor.imp id (fun e => Nat.le_of_lt (Nat.lt_of_lt_of_eq (Nat.lt_succ_self wr.heap.size) (by simpa using e.symm))))
        rw [← HF.out] at hP
        have HP2 := hide hP
        have hfl : F.length + 1 = ((C.take (k + 1)).filter p).length := by rw [HF.out]; simp
        have HFL2 := hide hfl
        clear hown2 hch hor hlt2 hP hfl g0 g1 g2 g3 g4 q0
        go_wp2
        go_roundw
        case rel => exact ⟨k + 1, some ⟨g, 0, none⟩, cap, by omega, by go_num, by rw [HFL2.out], HP2.out.1, HP2.out.2⟩
        case measure => simp [intOf]; omega
    · have e : k = C.length := by omega
      subst e
      rw [List.take_length] at HO ⊢
      go_wp2
      go_ret
      exact ⟨A, c, rfl, HO.out, HB.out⟩
theorem OwnI.snoc {W w w1 w2 : World} {A : Option Addr} {c g cap : Nat} {L : List Int} {y : Int} (h : OwnI W w A c L) (hb : Below w.heap.size w w1)
    (hown : w2.ownsRow 0 3 1 (.slice (some ⟨g, 0, none⟩) (L.length + 1) cap) (L.length + 1) (L.map (Value.int .i64) ++ [.int .i64 y])) (hW : Below W.heap.size W w) (hch : Chg (A.map Addr.block).toList w1 w2) (hor : A.map Addr.block = some g ∨ w.heap.size ≤ g) :
    OwnI W w2 (some ⟨g, 0, none⟩) cap (L ++ [y]) ∧ Below W.heap.size W w2 := by
  refine ⟨⟨?_, fun z hz => ?_⟩, Chg.onto (hW.trans (hb.mono hW.size)) (Nat.le_trans hW.size hb.size) hch (fun z hz => h.2 z (by simpa using hz))⟩
  · rw [List.map_append, List.length_append]
    exact hown
  · obtain rfl : g = z := by simpa using hz
    rcases hor with h1 | h1
    · exact h.2 g h1
    · exact Nat.le_trans hW.size h1
theorem OwnI.nil (W w : World) : OwnI W w none 0 [] := ⟨World.ownsRow_nil _ _ _ _, fun g hg => by cases hg⟩
set_option maxRecDepth 100000 in
set_option maxHeartbeats 2000000 in
theorem dwithout_calls (w : World) (Ac : Option Addr) (cc : Nat) (C : List Int) (id : Int) (hC : Reads w w.heap.size 1 Ac C.length (C.map (Value.int .i64))) (hl : C.length ≤ 1000000) :
    Calls Tryz.prog 82 #[.slice Ac C.length cc, .int .i64 id] w fun e w' => ∃ A c, e = .returned (.slice A (wout C id).length c) ∧ OwnI w w' A c (wout C id) ∧ Below w.heap.size w w' := by
  obtain ⟨i0, hi, hz0, hz1, hz2⟩ := info_parts Tryz.infoI3
  have HC := hide hC
  unfold wout
  obtain ⟨p, hp⟩ : ∃ p : Int → Bool, (fun y : Int => y != id) = p := ⟨_, rfl⟩
  rw [hp]
  have HP := hide hp
  clear hC hp
  go_enter Tryz.func82, Tryz.ntmps82
  go_wp2_with fail
  go_loopw [5, 6, 7, 8, 9, 10, 11, 12, 13, 14, 15, 16, 17, 18, 19, 20, 21, 22, 23, 24, 25] (fun v i _ _ _ _ _ _ _ _ _ _ _ _ _ _ _ _ _ _ _ wr => ∃ (k : Nat) (A : Option Addr) (c : Nat), k ≤ C.length ∧ i = .int .i64 k ∧ v = .slice A ((C.take k).filter p).length c ∧ OwnI w wr A c ((C.take k).filter p) ∧ Below w.heap.size w wr) (fun v i _ _ _ _ _ _ _ _ _ _ _ _ _ _ _ _ _ _ _ _ => C.length - (intOf i).toNat)
  case atStart => exact ⟨0, none, 0, Nat.zero_le _, rfl, by simp, by simpa using OwnI.nil _ _, Below.refl _ _⟩
  case round =>
    obtain ⟨k, A, c, hk, rfl, rfl, ho, hb⟩ := hrel
    have HO := hide ho
    have HB := hide hb
    clear ho hb
    by_cases hlt : k < C.length
    · have HF := hide (filter_take p C k hlt)
      have HFL := hide (filter_take_le p C k)
      obtain ⟨b, o, rfl, hbb, hc0⟩ := HC.out.2 (show 0 < C.length by omega)
      have g0 : wr.cell? ⟨b, o + k, none⟩ = some (.int .i64 C[k]) := (HB.out.cell (p := ⟨b, o + k, none⟩) hbb).trans (hc0 k _ (by simp [hlt]))
      have i1 : (k : Int) < C.length := by omega
      obtain ⟨F, hF⟩ : ∃ F, (C.take k).filter p = F := ⟨_, rfl⟩
      obtain ⟨y, hy⟩ : ∃ y, C[k] = y := ⟨_, rfl⟩
      rw [hF] at HF HFL HO ⊢
      rw [hy] at HF g0
      have hpy : p y = (y != id) := by rw [← HP.out]
      have HPY := hide hpy
      clear hc0 hpy hF hy
      by_cases e : y = id
      · have t1 : (y == id) = true := beq_iff_eq.2 e
        have t2 : (y != id) = false := bne_eq_false_iff_eq.2 e
        rw [HPY.out, t2] at HF
        simp only [Bool.false_eq_true, if_false, List.append_nil] at HF
        clear e
        go_wp2
        go_roundw
        case rel => exact ⟨k + 1, A, c, by omega, by go_num, by rw [HF.out], by rw [HF.out]; exact HO.out, HB.out⟩
        case measure => simp [intOf]; omega
      · have t1 : (y == id) = false := beq_eq_false_iff_ne.2 e
        have t2 : (y != id) = true := bne_iff_ne.2 e
        rw [HPY.out, t2] at HF
        simp only [if_true] at HF
        have HOB := hide (own_chg HO.out.1 (Chg.of_below (L := []) ((Below.refl _ wr).alloc (Nat.le_refl _) (.cells #[.int .i64 y] 3))) (fun _ _ hx => by cases hx))
        clear e
        go_wp2_with (at_builtin; refine app_law rfl _ _ 27 rfl 3 i0 _ 1 8 Tryz.underlying27 hi hz0 hz1 hz2 rfl (by decide) (.slice A F.length c) F.length (F.map (Value.int .i64)) rfl HOB.out wr.heap.size 1 1 [.int .i64 y] rfl (Blk.new rfl) rfl ?c1 (by decide) ?c3 ?c4 ?_)
        case c1 => first | rfl | (intro u hu; simp at hu; subst hu; rfl)
        case c3 => have := HFL.out; unfold maxLen; omega
        case c4 => have := HFL.out; omega
        intro g cap w4 hown2 hch hor hlt2
        rw [owS] at hch hor
        have hP := OwnI.snoc (y := y) HO.out ((Below.refl _ wr).alloc (Nat.le_refl _) _) hown2 HB.out hch (hor.imp (fun h => h) (fun e => Nat.le_of_lt (Nat.lt_of_lt_of_eq (Nat.lt_succ_self wr.heap.size) (by simpa using e.symm))))
        rw [← HF.out] at hP
        have HP2 := hide hP
        have hfl : F.length + 1 = ((C.take (k + 1)).filter p).length := by rw [HF.out]; simp
        have HFL2 := hide hfl
        clear hown2 hch hor hlt2 hP hfl g0
        go_wp2
        go_roundw
        case rel => exact ⟨k + 1, some ⟨g, 0, none⟩, cap, by omega, by go_num, by rw [HFL2.out], HP2.out.1, HP2.out.2⟩
        case measure => simp [intOf]; omega
    · have e : k = C.length := by omega
      subst e
      rw [List.take_length] at HO ⊢
      go_wp2
      go_ret
      exact ⟨A, c, rfl, HO.out, HB.out⟩
end Go.Proofs.YtcgecalbgkkinaaGreat

namespace Go.Proofs.YtcgecalbgkkinaaGreat
open Go.ChangeShapes Go.WideShapes Go.ChangeAt Go.RowKit Go.Joins Go.Deep Go.Maps
set_option linter.unusedVariables false
set_option linter.unusedSimpArgs false

theorem flatC_pol (L : List Pol) : flatC Pol.cells L = polCells L := by
  induction L with
  | nil => rfl
  | cons p t ih => unfold flatC; rw [ih]; rfl
/-- of whom the server has a chunk -/
def hasV (C : List CkM) (s : Int) (y : VoM) : Bool := C.any fun c => c.k.vol == y.v.id && c.k.has s
theorem any_take {α : Type} (p : α → Bool) (L : List α) (k : Nat) (h : k < L.length) : (L.take (k + 1)).any p = ((L.take k).any p || p L[k]) := by
  rw [List.take_succ_eq_append_getElem h, List.any_append]
  simp
theorem DM.dpol {w : World} {no : List Nat} {x : DV} {S : Vst} (h : DM w no x S) (s : Int) : (x.V.filter (hasV x.C s)).map (fun y => y.v.p) = S.dpol s := by
  unfold Vst.dpol
  rw [← h.eV, List.filter_map, List.map_map]
  congr 1
  apply List.filter_congr
  intro y hy
  unfold hasV
  rw [← h.eC]
  simp only [Function.comp_apply, List.any_map]
  rfl
set_option maxHeartbeats 4000000 in
set_option maxRecDepth 100000 in
theorem dpolicies_calls (w : World) (no : List Nat) (x : DV) (S : Vst) (nx id : Int) (h : DM w no x S) (hl : x.V.length ≤ 1000000) (hlc : x.C.length ≤ 1000000) :
    Calls Tryz.prog 32 #[x.val nx, .int .i64 id] w fun e w' => ∃ A c, e = .returned (.slice A (S.dpol id).length c) ∧ OwnR 36 4 Pol.cells w w' A c (S.dpol id) ∧ Below w.heap.size w w' := by
  obtain ⟨i0, hi, hz0, hz1, hz2⟩ := info_parts Tryz.infoPol
  have HDP := hide (h.dpol id)
  obtain ⟨Ap, cp, V, Av, cv, C, Ac, cc⟩ := x
  unfold DV.val DV.cells
  simp only [] at hl hlc HDP ⊢
  obtain ⟨w0, hw0⟩ : ∃ w0, w.alloc (.cells #[.slice Ap 16 cp, .slice Av V.length cv, .slice Ac C.length cc, .int .i64 nx] 31) = w0 := ⟨_, rfl⟩
  have d0 : Blk w0 w.heap.size 31 [.slice Ap 16 cp, .slice Av V.length cv, .slice Ac C.length cc, .int .i64 nx] := hw0 ▸ Blk.new rfl
  have hb0 : Below w.heap.size w w0 := hw0 ▸ (Below.refl _ _).alloc (Nat.le_refl _) _
  have H := hide (h.below hb0)
  have HB0 := hide hb0
  have HW := hide hw0
  have D0 := hide d0
  clear h d0 hb0 hw0
  go_enter Tryz.func32, Tryz.ntmps32
  go_wp2_with fail
  rw [HW.out]
  go_loopw [5, 6, 7, 8, 9, 10, 11, 12, 13, 14, 15, 16, 17, 18, 19, 20, 21, 22, 23, 24, 25, 26, 27, 28, 29, 30, 31, 32, 33, 34, 35, 36, 37, 38, 39, 40, 41, 42, 43, 44, 45, 46, 47, 48, 49, 50, 51, 52, 53, 54, 55, 56, 57] (fun v i _ _ _ _ _ _ _ _ _ _ _ _ _ _ _ _ _ _ _ _ _ _ _ _ _ _ _ _ _ _ _ _ _ _ _ _ _ _ _ _ _ _ _ _ _ _ _ _ _ _ _ wr => ∃ (k : Nat) (A : Option Addr) (c : Nat), k ≤ V.length ∧ i = .int .i64 k ∧ v = .slice A (((V.take k).filter (hasV C id)).map (fun y => y.v.p)).length c ∧ OwnR 36 4 Pol.cells w0 wr A c (((V.take k).filter (hasV C id)).map (fun y => y.v.p)) ∧ Below w0.heap.size w0 wr) (fun v i _ _ _ _ _ _ _ _ _ _ _ _ _ _ _ _ _ _ _ _ _ _ _ _ _ _ _ _ _ _ _ _ _ _ _ _ _ _ _ _ _ _ _ _ _ _ _ _ _ _ _ _ => V.length - (intOf i).toNat)
  case atStart => exact ⟨0, none, 0, Nat.zero_le _, rfl, by simp, by simpa using OwnR.nil _ _ _ _ _, Below.refl _ _⟩
  case round =>
    obtain ⟨k, A, c, hk, rfl, rfl, ho, hb⟩ := hrel
    have HO := hide ho
    have HB := hide hb
    have c1 := D0.out.rule 1 _ rfl wr hb
    clear ho hb
    by_cases hlt : k < V.length
    · have HF := hide (filter_take (hasV C id) V k hlt)
      have HFL := hide (filter_take_le (hasV C id) V k)
      obtain ⟨b, o, rfl, hbb, hcell⟩ := H.out.atV hlt
      have i1 : (k : Int) < V.length := by omega
      obtain ⟨F, hF⟩ : ∃ F, (V.take k).filter (hasV C id) = F := ⟨_, rfl⟩
      obtain ⟨y, hy⟩ : ∃ y, V[k] = y := ⟨_, rfl⟩
      rw [hF] at HF HFL HO ⊢
      obtain ⟨G, hG⟩ : ∃ G, F.map (fun y => y.v.p) = G := ⟨_, rfl⟩
      have hGl : G.length = F.length := by rw [← hG, List.length_map]
      rw [hG] at HO ⊢
      have HG := hide hG
      have hGk : Hid (G.length ≤ k) := hide (by rw [hGl]; exact HFL.out)
      clear hG hGl
      simp only [] at hcell
      rw [hy] at HF hcell
      have HCELL := hide hcell
      have HY := hide (And.intro hF hy)
      clear hcell hF hy
      go_wp2_with fail
      obtain ⟨wo, rfl⟩ : ∃ wo, wo = wr := ⟨_, rfl⟩
      go_loopw [7, 8, 16, 17, 18, 19, 20, 21, 22, 23, 24, 25, 26, 27, 28, 29, 30, 31, 32, 33, 34, 35, 36, 37, 38, 39, 40, 41, 42, 43, 44, 45, 46, 47] (fun r j _ _ _ _ _ _ _ _ _ _ _ _ _ _ _ _ _ _ _ _ _ _ _ _ _ _ _ _ _ _ _ _ wq => ∃ m : Nat, m ≤ C.length ∧ j = .int .i64 m ∧ r = .bool ((C.take m).any fun c => c.k.vol == y.v.id && c.k.has id) ∧ Below wo.heap.size wo wq) (fun _ j _ _ _ _ _ _ _ _ _ _ _ _ _ _ _ _ _ _ _ _ _ _ _ _ _ _ _ _ _ _ _ _ _ => C.length - (intOf j).toNat)
      case atStart => exact ⟨0, Nat.zero_le _, rfl, by simp, Below.refl _ _⟩
      case round =>
        obtain ⟨m, hm, rfl, rfl, hbq⟩ := hrel
        have hq0 : Below w0.heap.size w0 wr := HB.out.trans (hbq.mono HB.out.size)
        have HBQ := hide hbq
        have HQ0 := hide hq0
        have d1 := D0.out.rule 1 _ rfl wr hq0
        have d2 := D0.out.rule 2 _ rfl wr hq0
        clear hbq hq0 c1
        by_cases hlm : m < C.length
        · have j1 : (m : Int) < C.length := by omega
          have HA := hide (any_take (fun c => c.k.vol == y.v.id && c.k.has id) C m hlm)
          obtain ⟨b2, o2, rfl, hb2, hc2⟩ := H.out.atC hlm
          have rq := (Below.refl wr.heap.size wr).drew
          simp only [] at hc2
          obtain ⟨z, hz⟩ : ∃ z, C[m] = z := ⟨_, rfl⟩
          have hsl := H.out.sC z (by rw [← hz]; exact List.getElem_mem hlm)
          rw [hz] at HA hc2
          obtain ⟨r, hr⟩ : ∃ r, ((C.take m).any fun c => c.k.vol == y.v.id && c.k.has id) = r := ⟨_, rfl⟩
          rw [hr] at HA ⊢
          have x0 : ∀ w', Below wr.heap.size wr w' → w'.cell? ⟨b2, o2 + m * 5, none⟩ = some (.int .i64 z.k.id) := fun w' hb => hc2 w' (HQ0.out.trans (hb.mono HQ0.out.size)) 0 (by omega)
          have x1 : ∀ w', Below wr.heap.size wr w' → w'.cell? ⟨b2, o2 + m * 5 + 1, none⟩ = some (.int .i64 z.k.vol) := fun w' hb => hc2 w' (HQ0.out.trans (hb.mono HQ0.out.size)) 1 (by omega)
          have x2 : ∀ w', Below wr.heap.size wr w' → w'.cell? ⟨b2, o2 + m * 5 + 2, none⟩ = some (.int .i64 z.k.ep) := fun w' hb => hc2 w' (HQ0.out.trans (hb.mono HQ0.out.size)) 2 (by omega)
          have x3 : ∀ w', Below wr.heap.size wr w' → w'.cell? ⟨b2, o2 + m * 5 + 3, none⟩ = some (.slice z.A z.k.me.length z.c) := fun w' hb => hc2 w' (HQ0.out.trans (hb.mono HQ0.out.size)) 3 (by omega)
          have x4 : ∀ w', Below wr.heap.size wr w' → w'.cell? ⟨b2, o2 + m * 5 + 4, none⟩ = some (.slice z.B z.k.jo.length z.d) := fun w' hb => hc2 w' (HQ0.out.trans (hb.mono HQ0.out.size)) 4 (by omega)
          have y0 : ∀ w', Below wr.heap.size wr w' → w'.cell? ⟨b, o + k * 8, none⟩ = some (.int .i64 y.v.id) := fun w' hb => HCELL.out w' (HQ0.out.trans (hb.mono HQ0.out.size)) 0 (by omega)
          have e1 : ∀ w', Below wr.heap.size wr w' → w'.cell? ⟨w.heap.size, 1, none⟩ = some (.slice (some ⟨b, o, none⟩) V.length cv) := fun w' hb => D0.out.rule 1 _ rfl w' (HQ0.out.trans (hb.mono HQ0.out.size))
          have e2 : ∀ w', Below wr.heap.size wr w' → w'.cell? ⟨w.heap.size, 2, none⟩ = some (.slice (some ⟨b2, o2, none⟩) C.length cc) := fun w' hb => D0.out.rule 2 _ rfl w' (HQ0.out.trans (hb.mono HQ0.out.size))
          have HHAS := hide (fun w' (hb : Below wr.heap.size wr w') => dhas_calls z id no w' (hsl.1.below (HQ0.out.trans (hb.mono HQ0.out.size))) (hsl.2.below (HQ0.out.trans (hb.mono HQ0.out.size))))
          unfold CkM.val CkM.cells at HHAS
          clear hc2 hsl hz hr
          cases r with
          | true =>
            rw [Bool.true_or] at HA
            go_wp2_with fail
            clear d1 d2
            refine region_lq (fun w' => Below wr.heap.size wr w') [(2, 0), (2, 1), (2, 2), (0, 3), (2, 4), (2, 5), (2, 6), (0, 7), (2, 8), (0, 9), (2, 10), (2, 11), (2, 12), (0, 13), (2, 14), (2, 15), (2, 16), (0, 17), (2, 18), (2, 19), (0, 20), (2, 21), (1, 22), (2, 23), (2, 24), (2, 25)] #[true, true, true, true, true, true, true, true, true, true, true, true, true, true, true, true, true, true, true, true, true, true, true, true, true, true] (by kernel_rfl) (by kernel_rfl) (by kernel_rfl) (by kernel_rfl) (by kernel_rfl) (by kernel_rfl) (fun _ _ _ _ _ h => h) (by (exact rq)) (hL := rfl) ?_
            (iterate 2 ((apply lq_pure (by rfl); (focus (intro w; go_simp; (try with_reducible rfl); done)); intro K hK; simp only [Act.put, zA33, zB33, zC33]; refine hK _ ?_; clear hK K))); (refine lq_skipP (by kernel_rfl) ?_; intro K hK; simp only [Act.put, zA33, zB33, zC33]; refine hK _ ?_; clear hK K); (refine lq_skip (by kernel_rfl) ?_; intro K hK; simp only [Act.put, zA33, zB33, zC33]; refine hK _ ?_; clear hK K); (iterate 3 ((refine lq_skipP (by kernel_rfl) ?_; intro K hK; simp only [Act.put, zA33, zB33, zC33]; refine hK _ ?_; clear hK K))); (refine lq_skip (by kernel_rfl) ?_; intro K hK; simp only [Act.put, zA33, zB33, zC33]; refine hK _ ?_; clear hK K); (refine lq_skipP (by kernel_rfl) ?_; intro K hK; simp only [Act.put, zA33, zB33, zC33]; refine hK _ ?_; clear hK K); (refine lq_skip (by kernel_rfl) ?_; intro K hK; simp only [Act.put, zA33, zB33, zC33]; refine hK _ ?_; clear hK K); (iterate 3 ((refine lq_skipP (by kernel_rfl) ?_; intro K hK; simp only [Act.put, zA33, zB33, zC33]; refine hK _ ?_; clear hK K))); (refine lq_skip (by kernel_rfl) ?_; intro K hK; simp only [Act.put, zA33, zB33, zC33]; refine hK _ ?_; clear hK K); (iterate 3 ((refine lq_skipP (by kernel_rfl) ?_; intro K hK; simp only [Act.put, zA33, zB33, zC33]; refine hK _ ?_; clear hK K))); (refine lq_skip (by kernel_rfl) ?_; intro K hK; simp only [Act.put, zA33, zB33, zC33]; refine hK _ ?_; clear hK K); (iterate 2 ((refine lq_skipP (by kernel_rfl) ?_; intro K hK; simp only [Act.put, zA33, zB33, zC33]; refine hK _ ?_; clear hK K))); (refine lq_skip (by kernel_rfl) ?_; intro K hK; simp only [Act.put, zA33, zB33, zC33]; refine hK _ ?_; clear hK K); (refine lq_skipP (by kernel_rfl) ?_; intro K hK; simp only [Act.put, zA33, zB33, zC33]; refine hK _ ?_; clear hK K); (refine lq_effskip (by kernel_rfl) (by (exact rq)) ?_; intro K hK; simp only [Act.put, zA33, zB33, zC33]; refine hK _ ?_; clear hK K); (refine lq_skipP (by kernel_rfl) ?_; intro K hK; simp only [Act.put, zA33, zB33, zC33]; refine hK _ ?_; clear hK K)
            (iterate 2 ((apply lq_pure (by rfl); (focus (intro w; go_simp; (try with_reducible rfl); done)); intro K hK; simp only [Act.put, zA33, zB33, zC33]; refine hK _ ?_; clear hK K)))
            refine lq_nil ?_
            intro hS9
            have HBN := hide (HBQ.out.trans (hS9.mono HBQ.out.size))
            clear hS9
            go_wp2
            go_roundw
            case rel => exact ⟨m + 1, by omega, by go_num, by rw [HA.out], HBN.out⟩
            case measure => simp [intOf]; omega
          | false =>
            rw [Bool.false_or] at HA
            by_cases he : z.k.vol = y.v.id
            · have t1 : (z.k.vol == y.v.id) = true := beq_iff_eq.2 he
              rw [t1, Bool.true_and] at HA
              obtain ⟨q, hq⟩ : ∃ q, z.k.has id = q := ⟨_, rfl⟩
              rw [hq] at HA HHAS
              clear he hq
              go_wp2_with fail
              clear d1 d2
              refine region_lq (fun w' => Below wr.heap.size wr w') [(2, 0), (2, 1), (2, 2), (0, 3), (2, 4), (2, 5), (2, 6), (0, 7), (2, 8), (0, 9), (2, 10), (2, 11), (2, 12), (0, 13), (2, 14), (2, 15), (2, 16), (0, 17), (2, 18), (2, 19), (0, 20), (2, 21), (1, 22), (2, 23), (2, 24), (2, 25)] #[true, true, true, true, true, true, true, true, true, true, true, true, true, true, true, true, true, true, true, true, true, true, true, true, true, true] (by kernel_rfl) (by kernel_rfl) (by kernel_rfl) (by kernel_rfl) (by kernel_rfl) (by kernel_rfl) (fun _ _ _ _ _ h => h) (by (exact rq)) (hL := rfl) ?_
              (iterate 2 ((apply lq_pure (by rfl); (focus (intro w; go_simp; (try with_reducible rfl); done)); intro K hK; simp only [Act.put, zA33, zB33, zC33]; refine hK _ ?_; clear hK K))); (apply lq_pure (by kernel_rfl); (focus (intro w; go_simp; (try with_reducible rfl); done)); intro K hK; simp only [Act.put, zA33, zB33, zC33]; refine hK _ ?_; clear hK K); (apply lq_take (by kernel_rfl); (focus (intro w hw; (try dsimp only at hw); go_simp; (try with_reducible rfl); done)); intro K hK; simp only [Act.put, zA33, zB33, zC33]; refine hK _ ?_; clear hK K); (iterate 3 ((apply lq_pure (by kernel_rfl); (focus (intro w; go_simp; (try with_reducible rfl); done)); intro K hK; simp only [Act.put, zA33, zB33, zC33]; refine hK _ ?_; clear hK K))); (apply lq_take (by kernel_rfl); (focus (intro w hw; (try dsimp only at hw); go_simp; (try with_reducible rfl); done)); intro K hK; simp only [Act.put, zA33, zB33, zC33]; refine hK _ ?_; clear hK K); (apply lq_pure (by kernel_rfl); (focus (intro w; go_simp; (try with_reducible rfl); done)); intro K hK; simp only [Act.put, zA33, zB33, zC33]; refine hK _ ?_; clear hK K); (apply lq_take (by kernel_rfl); (focus (intro w hw; (try dsimp only at hw); go_simp; (try with_reducible rfl); done)); intro K hK; simp only [Act.put, zA33, zB33, zC33]; refine hK _ ?_; clear hK K); (iterate 3 ((apply lq_pure (by kernel_rfl); (focus (intro w; go_simp; (try with_reducible rfl); done)); intro K hK; simp only [Act.put, zA33, zB33, zC33]; refine hK _ ?_; clear hK K))); (apply lq_take (by kernel_rfl); (focus (intro w hw; (try dsimp only at hw); go_simp; (try with_reducible rfl); done)); intro K hK; simp only [Act.put, zA33, zB33, zC33]; refine hK _ ?_; clear hK K); (iterate 3 ((apply lq_pure (by kernel_rfl); (focus (intro w; go_simp; (try with_reducible rfl); done)); intro K hK; simp only [Act.put, zA33, zB33, zC33]; refine hK _ ?_; clear hK K))); (apply lq_take (by kernel_rfl); (focus (intro w hw; (try dsimp only at hw); go_simp; (try with_reducible rfl); done)); intro K hK; simp only [Act.put, zA33, zB33, zC33]; refine hK _ ?_; clear hK K); (iterate 2 ((apply lq_pure (by kernel_rfl); (focus (intro w; go_simp; (try with_reducible rfl); done)); intro K hK; simp only [Act.put, zA33, zB33, zC33]; refine hK _ ?_; clear hK K)))
              (apply lq_take (by kernel_rfl); (focus (intro w hw; (try dsimp only at hw); go_simp; (try with_reducible rfl); done)); intro K hK; simp only [Act.put, zA33, zB33, zC33]; refine hK _ ?_; clear hK K); (apply lq_pure (by kernel_rfl); (focus (intro w; go_simp; (try with_reducible rfl); done)); intro K hK; simp only [Act.put, zA33, zB33, zC33]; refine hK _ ?_; clear hK K)
              refine lq_eff (by kernel_rfl) ?_
              intro K Q1 hQ1 hK; clear hQ1; go_simp; (go_at_call 74; refine (HHAS.out _ rq).mono ?_; rintro e w5 ⟨rfl, hb5⟩; have hS9 := rq.trans (hb5.mono rq.size)); (try simp only [Act.put, zA33, zB33, zC33]); refine hK _ _ hS9 ?_; clear hK K Q1 hS9
              (apply lq_pure (by kernel_rfl); (focus (intro w; go_simp; (try with_reducible rfl); done)); intro K hK; simp only [Act.put, zA33, zB33, zC33]; refine hK _ ?_; clear hK K); (iterate 2 ((apply lq_pure (by rfl); (focus (intro w; go_simp; (try with_reducible rfl); done)); intro K hK; simp only [Act.put, zA33, zB33, zC33]; refine hK _ ?_; clear hK K)))
              refine lq_nil ?_
              intro hS9
              have HBN := hide (HBQ.out.trans (hS9.mono HBQ.out.size))
              clear hS9
              go_wp2
              go_roundw
              case rel => exact ⟨m + 1, by omega, by go_num, by rw [HA.out], HBN.out⟩
              case measure => simp [intOf]; omega
            · have t1 : (z.k.vol == y.v.id) = false := beq_eq_false_iff_ne.2 he
              rw [t1, Bool.false_and] at HA
              clear he
              go_wp2_with fail
              clear d1 d2
              refine region_lq (fun w' => Below wr.heap.size wr w') [(2, 0), (2, 1), (2, 2), (0, 3), (2, 4), (2, 5), (2, 6), (0, 7), (2, 8), (0, 9), (2, 10), (2, 11), (2, 12), (0, 13), (2, 14), (2, 15), (2, 16), (0, 17), (2, 18), (2, 19), (0, 20), (2, 21), (1, 22), (2, 23), (2, 24), (2, 25)] #[true, true, true, true, true, true, true, true, true, true, true, true, true, true, true, true, true, true, true, true, true, true, true, true, true, true] (by kernel_rfl) (by kernel_rfl) (by kernel_rfl) (by kernel_rfl) (by kernel_rfl) (by kernel_rfl) (fun _ _ _ _ _ h => h) (by (exact rq)) (hL := rfl) ?_
              (iterate 2 ((apply lq_pure (by rfl); (focus (intro w; go_simp; (try with_reducible rfl); done)); intro K hK; simp only [Act.put, zA33, zB33, zC33]; refine hK _ ?_; clear hK K))); (apply lq_pure (by kernel_rfl); (focus (intro w; go_simp; (try with_reducible rfl); done)); intro K hK; simp only [Act.put, zA33, zB33, zC33]; refine hK _ ?_; clear hK K); (apply lq_take (by kernel_rfl); (focus (intro w hw; (try dsimp only at hw); go_simp; (try with_reducible rfl); done)); intro K hK; simp only [Act.put, zA33, zB33, zC33]; refine hK _ ?_; clear hK K); (iterate 3 ((apply lq_pure (by kernel_rfl); (focus (intro w; go_simp; (try with_reducible rfl); done)); intro K hK; simp only [Act.put, zA33, zB33, zC33]; refine hK _ ?_; clear hK K))); (apply lq_take (by kernel_rfl); (focus (intro w hw; (try dsimp only at hw); go_simp; (try with_reducible rfl); done)); intro K hK; simp only [Act.put, zA33, zB33, zC33]; refine hK _ ?_; clear hK K); (apply lq_pure (by kernel_rfl); (focus (intro w; go_simp; (try with_reducible rfl); done)); intro K hK; simp only [Act.put, zA33, zB33, zC33]; refine hK _ ?_; clear hK K); (apply lq_take (by kernel_rfl); (focus (intro w hw; (try dsimp only at hw); go_simp; (try with_reducible rfl); done)); intro K hK; simp only [Act.put, zA33, zB33, zC33]; refine hK _ ?_; clear hK K); (iterate 3 ((apply lq_pure (by kernel_rfl); (focus (intro w; go_simp; (try with_reducible rfl); done)); intro K hK; simp only [Act.put, zA33, zB33, zC33]; refine hK _ ?_; clear hK K))); (apply lq_take (by kernel_rfl); (focus (intro w hw; (try dsimp only at hw); go_simp; (try with_reducible rfl); done)); intro K hK; simp only [Act.put, zA33, zB33, zC33]; refine hK _ ?_; clear hK K); (iterate 2 ((apply lq_pure (by kernel_rfl); (focus (intro w; go_simp; (try with_reducible rfl); done)); intro K hK; simp only [Act.put, zA33, zB33, zC33]; refine hK _ ?_; clear hK K))); (refine lq_skipP (by kernel_rfl) ?_; intro K hK; simp only [Act.put, zA33, zB33, zC33]; refine hK _ ?_; clear hK K); (refine lq_skip (by kernel_rfl) ?_; intro K hK; simp only [Act.put, zA33, zB33, zC33]; refine hK _ ?_; clear hK K); (iterate 2 ((refine lq_skipP (by kernel_rfl) ?_; intro K hK; simp only [Act.put, zA33, zB33, zC33]; refine hK _ ?_; clear hK K)))
              (refine lq_skip (by kernel_rfl) ?_; intro K hK; simp only [Act.put, zA33, zB33, zC33]; refine hK _ ?_; clear hK K); (refine lq_skipP (by kernel_rfl) ?_; intro K hK; simp only [Act.put, zA33, zB33, zC33]; refine hK _ ?_; clear hK K); (refine lq_effskip (by kernel_rfl) (by (exact rq)) ?_; intro K hK; simp only [Act.put, zA33, zB33, zC33]; refine hK _ ?_; clear hK K); (apply lq_pure (by kernel_rfl); (focus (intro w; go_simp; (try with_reducible rfl); done)); intro K hK; simp only [Act.put, zA33, zB33, zC33]; refine hK _ ?_; clear hK K); (iterate 2 ((apply lq_pure (by rfl); (focus (intro w; go_simp; (try with_reducible rfl); done)); intro K hK; simp only [Act.put, zA33, zB33, zC33]; refine hK _ ?_; clear hK K)))
              refine lq_nil ?_
              intro hS9
              have HBN := hide (HBQ.out.trans (hS9.mono HBQ.out.size))
              clear hS9
              go_wp2
              go_roundw
              case rel => exact ⟨m + 1, by omega, by go_num, by rw [HA.out], HBN.out⟩
              case measure => simp [intOf]; omega
        · have e : m = C.length := by omega
          subst e
          rw [List.take_length]
          obtain ⟨r, hr⟩ : ∃ r, hasV C id y = r := ⟨_, rfl⟩
          have hr' : (C.any fun c => c.k.vol == y.v.id && c.k.has id) = r := hr
          rw [hr']
          rw [hr] at HF
          have y0 : wr.cell? ⟨b, o + k * 8, none⟩ = some (.int .i64 y.v.id) := HCELL.out wr HQ0.out 0 (by omega)
          have y2 : wr.cell? ⟨b, o + k * 8 + 2, none⟩ = some (.int .i64 y.v.p.r) := HCELL.out wr HQ0.out 2 (by omega)
          have y3 : wr.cell? ⟨b, o + k * 8 + 3, none⟩ = some (.int .i64 y.v.p.w) := HCELL.out wr HQ0.out 3 (by omega)
          have y4 : wr.cell? ⟨b, o + k * 8 + 4, none⟩ = some (.int .i64 y.v.p.l) := HCELL.out wr HQ0.out 4 (by omega)
          have y5 : wr.cell? ⟨b, o + k * 8 + 5, none⟩ = some (.int .i64 y.v.p.b) := HCELL.out wr HQ0.out 5 (by omega)
          have HO2 := hide (HO.out.below HBQ.out)
          clear hr hr'
          cases r with
          | false =>
            simp only [Bool.false_eq_true, if_false, List.append_nil] at HF
            go_wp2
            go_roundw
            case rel => exact ⟨k + 1, A, c, by omega, by go_num, by rw [HF.out, HG.out], by rw [HF.out, HG.out]; exact HO2.out, HQ0.out⟩
            case measure => simp [intOf]; omega
          | true =>
            simp only [if_true] at HF
            have HFG : Hid (((V.take (k + 1)).filter (hasV C id)).map (fun y => y.v.p) = G ++ [y.v.p]) := hide (by rw [HF.out, List.map_append, HG.out]; rfl)
            have HOB := hide (own_chg HO2.out.1 (Chg.of_below (L := []) ((Below.refl _ wr).alloc (Nat.le_refl _) (.cells #[.int .i64 y.v.p.r, .int .i64 y.v.p.w, .int .i64 y.v.p.l, .int .i64 y.v.p.b] 36))) (fun _ _ hx => by cases hx))
            go_wp2_with (at_builtin; refine app_law rfl _ _ 77 rfl 36 i0 _ 4 32 Tryz.underlying77 hi hz0 hz1 hz2 rfl (by decide) (.slice A G.length c) G.length (flatC Pol.cells G) rfl HOB.out wr.heap.size 1 1 [.int .i64 y.v.p.r, .int .i64 y.v.p.w, .int .i64 y.v.p.l, .int .i64 y.v.p.b] rfl (Blk.new rfl) rfl ?c1 (by decide) ?c3 ?c4 ?_)
            case c1 => intro u hu; simp at hu; rcases hu with rfl | rfl | rfl | rfl <;> rfl
            case c3 => have := hGk.out; unfold maxLen; omega
            case c4 => have := hGk.out; omega
            intro g cap w4 hown2 hch hor hlt2
            rw [owS] at hch hor
            have hP := OwnR.push (y := y.v.p) HO2.out ((Below.refl _ wr).alloc (Nat.le_refl _) _) hown2 HQ0.out hch (hor.imp (fun h => h) (fun e => Nat.le_of_lt (Nat.lt_of_lt_of_eq (Nat.lt_succ_self wr.heap.size) (by simpa using e.symm))))
            rw [← HFG.out] at hP
            have HP2 := hide hP
            have hfl : G.length + 1 = (((V.take (k + 1)).filter (hasV C id)).map (fun y => y.v.p)).length := by rw [HFG.out]; simp
            have HFL2 := hide hfl
            clear hown2 hch hor hlt2 hP hfl y0 y2 y3 y4 y5
            go_wp2
            go_roundw
            case rel => exact ⟨k + 1, some ⟨g, 0, none⟩, cap, by omega, by go_num, by rw [HFL2.out], HP2.out.1, HP2.out.2⟩
            case measure => simp [intOf]; omega
    · have e : k = V.length := by omega
      subst e
      rw [List.take_length, HDP.out] at HO ⊢
      go_wp2
      go_ret
      exact ⟨A, c, rfl, HO.out.back HB0.out.size, HB0.out.trans (HB.out.mono HB0.out.size)⟩
set_option maxHeartbeats 4000000 in
set_option maxRecDepth 100000 in
theorem dadmits_calls (w : World) (no : List Nat) (x : DV) (S : Vst) (n : Nat) (nx : Int) (h : DM w no x S) (hi : VIn S) (ho : VOk S n) (hl : x.V.length ≤ 1000) (hlc : x.C.length ≤ 1000000) :
    Calls Tryz.prog 22 #[x.val nx] w fun e w' => e = .returned (.bool S.admits) ∧ Below w.heap.size w w' := by
  have HAD := hide (Vst.dadmits hi ho)
  have HDL : Hid (∀ s, (S.dpol s).length ≤ 1000) := hide (fun s => by
    rw [← h.dpol s, List.length_map]
    exact Nat.le_trans (List.length_filter_le _ _) hl)
  have HM := hide (fun w' (hb : Below w.heap.size w w') s => dpolicies_calls w' no x S nx s (h.below hb) (by omega) hlc)
  obtain ⟨Ap, cp, V, Av, cv, C, Ac, cc⟩ := x
  unfold DV.val DV.cells at HM ⊢
  simp only [] at hl hlc HM ⊢
  obtain ⟨w0, hw0⟩ : ∃ w0, w.alloc (.cells #[.slice Ap 16 cp, .slice Av V.length cv, .slice Ac C.length cc, .int .i64 nx] 31) = w0 := ⟨_, rfl⟩
  have d0 : Blk w0 w.heap.size 31 [.slice Ap 16 cp, .slice Av V.length cv, .slice Ac C.length cc, .int .i64 nx] := hw0 ▸ Blk.new rfl
  have hb0 : Below w.heap.size w w0 := hw0 ▸ (Below.refl _ _).alloc (Nat.le_refl _) _
  have H := hide (h.below hb0)
  have HB0 := hide hb0
  have HW := hide hw0
  have D0 := hide d0
  clear h d0 hb0 hw0 hi ho
  go_enter Tryz.func22, Tryz.ntmps22
  go_wp2_with fail
  rw [HW.out]
  go_loopw [2, 3, 4, 5, 6, 7, 8, 9, 10, 11, 12, 13, 14, 15, 16, 17, 18, 19, 20, 21, 22, 23, 24, 25] (fun _ i _ _ _ _ _ _ _ _ _ _ _ _ _ _ _ _ _ _ _ _ _ _ wr => ∃ k : Nat, k ≤ 16 ∧ i = .int .i64 k ∧ Below w0.heap.size w0 wr ∧ ∀ j : Nat, j < k → 0 < S.pick j → Go.Proofs.YtcgecalbgkkinaaGreat.admits (S.pick j) (S.dpol j) = true) (fun _ i _ _ _ _ _ _ _ _ _ _ _ _ _ _ _ _ _ _ _ _ _ _ _ => 16 - (intOf i).toNat)
  case atStart => exact ⟨0, Nat.zero_le _, rfl, Below.refl _ _, fun j hj => by omega⟩
  case round =>
    obtain ⟨k, hk, rfl, hb, hall⟩ := hrel
    have HB := hide hb
    have HALL := hide hall
    clear hb hall
    by_cases hlt : k < 16
    · obtain ⟨b, o, rfl, hbb, hcell⟩ := H.out.atP
      have i1 : (k : Int) < 16 := by omega
      have g0 : ∀ w', Below wr.heap.size wr w' → w'.cell? ⟨b, o + k, none⟩ = some (.int .i64 (S.pick k)) := fun w' hb => hcell w' (HB.out.trans (hb.mono HB.out.size)) k hlt
      have e0 : ∀ w', Below wr.heap.size wr w' → w'.cell? ⟨w.heap.size, 0, none⟩ = some (.slice (some ⟨b, o, none⟩) 16 cp) := fun w' hb => D0.out.rule 0 _ rfl w' (HB.out.trans (hb.mono HB.out.size))
      have e1 : ∀ w', Below wr.heap.size wr w' → w'.cell? ⟨w.heap.size, 1, none⟩ = some (.slice Av V.length cv) := fun w' hb => D0.out.rule 1 _ rfl w' (HB.out.trans (hb.mono HB.out.size))
      have e2 : ∀ w', Below wr.heap.size wr w' → w'.cell? ⟨w.heap.size, 2, none⟩ = some (.slice Ac C.length cc) := fun w' hb => D0.out.rule 2 _ rfl w' (HB.out.trans (hb.mono HB.out.size))
      have e3 : ∀ w', Below wr.heap.size wr w' → w'.cell? ⟨w.heap.size, 3, none⟩ = some (.int .i64 nx) := fun w' hb => D0.out.rule 3 _ rfl w' (HB.out.trans (hb.mono HB.out.size))
      have rq := (Below.refl wr.heap.size wr).drew
      have HPO := hide (fun w' (hb : Below wr.heap.size wr w') => HM.out w' (HB0.out.trans ((HB.out.trans (hb.mono HB.out.size)).mono HB0.out.size)) k)
      obtain ⟨q, hq⟩ : ∃ q, S.pick k = q := ⟨_, rfl⟩
      obtain ⟨ps, hps⟩ : ∃ ps, S.dpol k = ps := ⟨_, rfl⟩
      have hpl := HDL.out k
      obtain ⟨r, hr⟩ : ∃ r, Go.Proofs.YtcgecalbgkkinaaGreat.admits q ps = r := ⟨_, rfl⟩
      rw [hq] at g0
      rw [hps] at HPO hpl
      have HQ := hide (And.intro hq (And.intro hps hr))
      have HPL := hide hpl
      clear hcell hq hps hr hpl
      by_cases h0 : 0 < q
      · have t0 : decide (0 < q) = true := decide_eq_true h0
        have H0 := hide h0
        clear h0
        go_wp2_with fail
        refine lxR (fun w' => Below wr.heap.size wr w') [] 0 [(2, 0), (0, 1), (2, 2), (2, 3), (0, 4), (2, 5), (2, 6), (2, 7), (0, 8), (2, 9), (2, 10), (0, 11), (0, 12), (2, 13), (1, 14), (1, 15), (2, 16), (2, 17)] #[true, true, true, true, true, true, true, true, true, true, true, true, true, true, true, true, true, true] (by kernel_rfl) (by kernel_rfl) (by decide) (by kernel_rfl) (by kernel_rfl) (fun _ _ _ _ _ h => h) (by (first | exact rq | assumption)) (fun hS0 => ?_)
        simp only [List.map_cons, List.map_nil, List.getElem?_toArray, List.getElem?_cons_succ, List.getElem?_cons_zero]
        (apply lxP (by rfl); (focus (intro w; go_simp; (try with_reducible rfl); done)); simp only [Act.put, zA33, zB33, zC33]); (apply lxT (by rfl); (focus (intro w hw; (try dsimp only at hw); go_simp; (try with_reducible rfl); done)); simp only [Act.put, zA33, zB33, zC33]); (iterate 2 ((apply lxP (by rfl); (focus (intro w; go_simp; (try with_reducible rfl); done)); simp only [Act.put, zA33, zB33, zC33]))); (apply lxT (by rfl); (focus (intro w hw; (try dsimp only at hw); go_simp; (try with_reducible rfl); done)); simp only [Act.put, zA33, zB33, zC33]); (iterate 2 ((apply lxP (by rfl); (focus (intro w; go_simp; (try with_reducible rfl); done)); simp only [Act.put, zA33, zB33, zC33]))); (first | (apply lxP (by rfl); (focus (intro w; go_simp; (try with_reducible rfl); done)); simp only [Act.put, zA33, zB33, zC33]) | (refine lxQ (by rfl) ?_; simp only [Act.put, zA33, zB33, zC33])); (first | (apply lxT (by rfl); (focus (intro w hw; (try dsimp only at hw); go_simp; (try with_reducible rfl); done)); simp only [Act.put, zA33, zB33, zC33]) | (refine lxS (by rfl) ?_; simp only [Act.put, zA33, zB33, zC33])); (iterate 2 (first | (apply lxP (by rfl); (focus (intro w; go_simp; (try with_reducible rfl); done)); simp only [Act.put, zA33, zB33, zC33]) | (refine lxQ (by rfl) ?_; simp only [Act.put, zA33, zB33, zC33]))); (iterate 2 (first | (apply lxT (by rfl); (focus (intro w hw; (try dsimp only at hw); go_simp; (try with_reducible rfl); done)); simp only [Act.put, zA33, zB33, zC33]) | (refine lxS (by rfl) ?_; simp only [Act.put, zA33, zB33, zC33]))); (first | (apply lxP (by rfl); (focus (intro w; go_simp; (try with_reducible rfl); done)); simp only [Act.put, zA33, zB33, zC33]) | (refine lxQ (by rfl) ?_; simp only [Act.put, zA33, zB33, zC33]))
        first | (refine lxE (by rfl) ?_; go_simp; (first
                        | (go_at_call 32; refine (HPO.out _ rq).mono ?_; rintro e w5 ⟨A5, c5, rfl, ho5, hb5⟩; have hr5 := ho5.rd; rw [flatC_pol] at hr5; have HR5 := hide hr5; have hb5' : Below wr.heap.size wr w5 := rq.trans (hb5.mono rq.size); clear hr5 ho5 hb5)
                        | (go_at_call 53; refine (rAdmits_calls q ps A5 c5 _ HR5.out).mono ?_; rintro e w6 ⟨rfl, hb6⟩; rw [HQ.out.2.2]; have hb6' : Below wr.heap.size wr w6 := hb5'.trans (hb6.mono hb5'.size); clear hb6)); refine lxB (by (first | exact rq | assumption)) (fun hS1 => ?_)) | (refine lxK (by rfl) (by assumption) ?_; simp only [Act.put, zA33, zB33, zC33])
        first | (refine lxE (by rfl) ?_; go_simp; (first
                        | (go_at_call 32; refine (HPO.out _ rq).mono ?_; rintro e w5 ⟨A5, c5, rfl, ho5, hb5⟩; have hr5 := ho5.rd; rw [flatC_pol] at hr5; have HR5 := hide hr5; have hb5' : Below wr.heap.size wr w5 := rq.trans (hb5.mono rq.size); clear hr5 ho5 hb5)
                        | (go_at_call 53; refine (rAdmits_calls q ps A5 c5 _ HR5.out).mono ?_; rintro e w6 ⟨rfl, hb6⟩; rw [HQ.out.2.2]; have hb6' : Below wr.heap.size wr w6 := hb5'.trans (hb6.mono hb5'.size); clear hb6)); refine lxB (by (first | exact rq | assumption)) (fun hS1 => ?_)) | (refine lxK (by rfl) (by assumption) ?_; simp only [Act.put, zA33, zB33, zC33])
        (first | (apply lxP (by rfl); (focus (intro w; go_simp; (try with_reducible rfl); done)); simp only [Act.put, zA33, zB33, zC33]) | (refine lxQ (by rfl) ?_; simp only [Act.put, zA33, zB33, zC33])); (apply lxP (by rfl); (focus (intro w; go_simp; (try with_reducible rfl); done)); simp only [Act.put, zA33, zB33, zC33])
        refine lxN (fun _ => wqD (by kernel_rfl) ?_ _)
        have HBN := hide (HB.out.trans (hb6'.mono HB.out.size))
        clear hb5' hb6' g0 e0 e1 e2 e3
        cases r with
        | true =>
          go_wp2
          go_roundw
          case rel => exact ⟨k + 1, by omega, by go_num, HBN.out, fun j hj hp => by
            by_cases ej : j = k
            · subst ej; rw [HQ.out.1, HQ.out.2.1]; exact HQ.out.2.2
            · exact HALL.out j (by omega) hp⟩
          case measure => simp [intOf]; omega
        | false =>
          have hno : S.admits = false := by
            cases hs : S.admits with
            | false => rfl
            | true =>
              have := (HAD.out.1 hs) k hlt (by rw [HQ.out.1]; exact H0.out)
              rw [HQ.out.1, HQ.out.2.1, HQ.out.2.2] at this
              cases this
          go_wp2
          go_ret
          rw [hno]
          exact ⟨rfl, HB0.out.trans (HBN.out.mono HB0.out.size)⟩
      · have t0 : decide (0 < q) = false := decide_eq_false h0
        have H0 := hide h0
        clear h0
        go_wp2_with fail
        refine region_lq (fun w' => Below wr.heap.size wr w') [(2, 0), (0, 1), (2, 2), (2, 3), (0, 4), (2, 5), (2, 6), (2, 7), (0, 8), (2, 9), (2, 10), (0, 11), (0, 12), (2, 13), (1, 14), (1, 15), (2, 16), (2, 17)] #[true, true, true, true, true, true, true, true, true, true, true, true, true, true, true, true, true, true] (by kernel_rfl) (by kernel_rfl) (by kernel_rfl) (by kernel_rfl) (by kernel_rfl) (by kernel_rfl) (fun _ _ _ _ _ h => h) (by (exact rq)) (hL := rfl) ?_
        (apply lq_pure (by rfl); (focus (intro w; go_simp; (try with_reducible rfl); done)); intro K hK; simp only [Act.put, zA33, zB33, zC33]; refine hK _ ?_; clear hK K); (apply lq_take (by rfl); (focus (intro w hw; (try dsimp only at hw); go_simp; (try with_reducible rfl); done)); intro K hK; simp only [Act.put, zA33, zB33, zC33]; refine hK _ ?_; clear hK K); (iterate 2 ((apply lq_pure (by rfl); (focus (intro w; go_simp; (try with_reducible rfl); done)); intro K hK; simp only [Act.put, zA33, zB33, zC33]; refine hK _ ?_; clear hK K))); (apply lq_take (by rfl); (focus (intro w hw; (try dsimp only at hw); go_simp; (try with_reducible rfl); done)); intro K hK; simp only [Act.put, zA33, zB33, zC33]; refine hK _ ?_; clear hK K); (iterate 2 ((apply lq_pure (by rfl); (focus (intro w; go_simp; (try with_reducible rfl); done)); intro K hK; simp only [Act.put, zA33, zB33, zC33]; refine hK _ ?_; clear hK K))); (refine lq_skipP (by kernel_rfl) ?_; intro K hK; simp only [Act.put, zA33, zB33, zC33]; refine hK _ ?_; clear hK K); (refine lq_skip (by kernel_rfl) ?_; intro K hK; simp only [Act.put, zA33, zB33, zC33]; refine hK _ ?_; clear hK K); (iterate 2 ((refine lq_skipP (by kernel_rfl) ?_; intro K hK; simp only [Act.put, zA33, zB33, zC33]; refine hK _ ?_; clear hK K))); (iterate 2 ((refine lq_skip (by kernel_rfl) ?_; intro K hK; simp only [Act.put, zA33, zB33, zC33]; refine hK _ ?_; clear hK K))); (refine lq_skipP (by kernel_rfl) ?_; intro K hK; simp only [Act.put, zA33, zB33, zC33]; refine hK _ ?_; clear hK K); (iterate 2 ((refine lq_effskip (by kernel_rfl) (by (exact rq)) ?_; intro K hK; simp only [Act.put, zA33, zB33, zC33]; refine hK _ ?_; clear hK K))); (refine lq_skipP (by kernel_rfl) ?_; intro K hK; simp only [Act.put, zA33, zB33, zC33]; refine hK _ ?_; clear hK K); (apply lq_pure (by rfl); (focus (intro w; go_simp; (try with_reducible rfl); done)); intro K hK; simp only [Act.put, zA33, zB33, zC33]; refine hK _ ?_; clear hK K)
        refine lq_nil ?_
        intro hS9
        have HBN := hide (HB.out.trans (hS9.mono HB.out.size))
        clear hS9 g0 e0 e1 e2 e3
        go_wp2
        go_roundw
        case rel => exact ⟨k + 1, by omega, by go_num, HBN.out, fun j hj hp => by
          by_cases ej : j = k
          · subst ej; rw [HQ.out.1] at hp; have := H0.out; omega
          · exact HALL.out j (by omega) hp⟩
        case measure => simp [intOf]; omega
    · have e : k = 16 := by omega
      subst e
      have hyes : S.admits = true := HAD.out.2 fun id hid hp => HALL.out id hid hp
      go_wp2
      go_ret
      rw [hyes]
      exact ⟨rfl, HB0.out.trans (HB.out.mono HB0.out.size)⟩
end Go.Proofs.YtcgecalbgkkinaaGreat

namespace Go.Proofs.YtcgecalbgkkinaaGreat
open Go.ChangeShapes Go.WideShapes Go.ChangeAt Go.RowKit Go.Joins Go.Deep Go.Maps
set_option linter.unusedVariables false
set_option linter.unusedSimpArgs false

/-- there is one that is not chosen yet -/
theorem chosen_more {X : List Ld} (hn : (X.map Ld.id).Nodup) {k : Nat} (hk : k < X.length) : ∃ x ∈ X, x.id ∉ chosen X k := by
  have hp : (sortLd X).Perm X := List.mergeSort_perm ..
  have hks : k < (sortLd X).length := by rw [hp.length_eq]; exact hk
  have hnd : ((sortLd X).map Ld.id).Nodup := (hp.map Ld.id).nodup_iff.2 hn
  have hd : (sortLd X).drop k = (sortLd X)[k] :: (sortLd X).drop (k + 1) := List.drop_eq_getElem_cons hks
  refine ⟨(sortLd X)[k], hp.subset (List.getElem_mem hks), ?_⟩
  unfold chosen
  rw [Int.toNat_natCast, ← List.map_take]
  intro h
  rw [← List.take_append_drop k (sortLd X), List.map_append, List.nodup_append] at hnd
  exact hnd.2.2 _ h _ (List.mem_map.2 ⟨_, by rw [hd]; exact List.mem_cons_self .., rfl⟩) rfl
theorem ids_inj : ∀ {X : List Ld}, (X.map Ld.id).Nodup → ∀ {y z : Ld}, y ∈ X → z ∈ X → y.id = z.id → y = z
  | [], _, y, z, hy, _, _ => by cases hy
  | a :: t, hn, y, z, hy, hz, e => by
    rw [List.map_cons, List.nodup_cons] at hn
    rcases List.mem_cons.1 hy with rfl | hy'
    · rcases List.mem_cons.1 hz with rfl | hz'
      · rfl
      · exact absurd (List.mem_map.2 ⟨z, hz', e.symm⟩) hn.1
    · rcases List.mem_cons.1 hz with rfl | hz'
      · exact absurd (List.mem_map.2 ⟨y, hy', e⟩) hn.1
      · exact ids_inj hn.2 hy' hz' e
theorem chosen_len2 {X : List Ld} {k : Nat} (hk : k ≤ X.length) : (chosen X k).length = k := by
  rw [chosen_len]
  omega
/-- the best below m that is not chosen -/
def BestOf (X : List Ld) (out : List Int) (m bb ll : Int) : Prop :=
  (bb = -1 ∧ ∀ y ∈ X, y.id < m → y.id ∈ out) ∨ ∃ x ∈ X, x.id = bb ∧ x.n = ll ∧ 0 ≤ bb ∧ x.id < m ∧ x.id ∉ out ∧ ∀ y ∈ X, y.id < m → y.id ∉ out → ldLt y x = false
theorem BestOf.start {X : List Ld} {out : List Int} (h0 : ∀ y ∈ X, 0 ≤ y.id) : BestOf X out 0 (-1) 0 := Or.inl ⟨rfl, fun y hy h => by have := h0 y hy; omega⟩
/-- one that is none, or is chosen -/
theorem BestOf.skip {X : List Ld} {out : List Int} {m bb ll : Int} (h : BestOf X out m bb ll) (hs : ∀ y ∈ X, y.id = m → y.id ∈ out) : BestOf X out (m + 1) bb ll := by
  rcases h with ⟨h1, h2⟩ | ⟨x, hx, h1, h2, h3, h4, h5, h6⟩
  · exact Or.inl ⟨h1, fun y hy hm => by
      by_cases e : y.id = m
      · exact hs y hy e
      · exact h2 y hy (by omega)⟩
  · exact Or.inr ⟨x, hx, h1, h2, h3, by omega, h5, fun y hy hm ho => by
      by_cases e : y.id = m
      · exact absurd (hs y hy e) ho
      · exact h6 y hy (by omega) ho⟩
theorem BestOf.take {X : List Ld} {out : List Int} {m bb ll : Int} (h : BestOf X out m bb ll) (hn : (X.map Ld.id).Nodup) {z : Ld} (hz : z ∈ X) (hm : z.id = m) (h0 : 0 ≤ m) (ho : z.id ∉ out) (hb : bb < 0 ∨ z.n < ll) : BestOf X out (m + 1) m z.n := by
  have huniq : ∀ y ∈ X, y.id = m → y = z := fun y hy e => by
    exact ids_inj hn hy hz (by rw [e, hm])
  refine Or.inr ⟨z, hz, hm, rfl, h0, by omega, ho, fun y hy hym hyo => ?_⟩
  by_cases e : y.id = m
  · rw [huniq y hy e, ldLt_no]
    omega
  · rcases h with ⟨h1, h2⟩ | ⟨x, hx, h1, h2, h3, h4, h5, h6⟩
    · exact absurd (h2 y hy (by omega)) hyo
    · have := h6 y hy (by omega) hyo
      rw [ldLt_no] at this ⊢
      omega
theorem BestOf.leave {X : List Ld} {out : List Int} {m bb ll : Int} (h : BestOf X out m bb ll) (hn : (X.map Ld.id).Nodup) {z : Ld} (hz : z ∈ X) (hm : z.id = m) (hb : ¬ (bb < 0 ∨ z.n < ll)) : BestOf X out (m + 1) bb ll := by
  have huniq : ∀ y ∈ X, y.id = m → y = z := fun y hy e => by
    exact ids_inj hn hy hz (by rw [e, hm])
  rcases h with ⟨h1, h2⟩ | ⟨x, hx, h1, h2, h3, h4, h5, h6⟩
  · omega
  · refine Or.inr ⟨x, hx, h1, h2, h3, by omega, h5, fun y hy hym hyo => ?_⟩
    by_cases e : y.id = m
    · rw [huniq y hy e, ldLt_no]
      omega
    · exact h6 y hy (by omega) hyo
/-- the next choice -/
theorem BestOf.next {X : List Ld} {k : Nat} {m bb ll : Int} (h : BestOf X (chosen X k) m bb ll) (hn : (X.map Ld.id).Nodup) (hk : k < X.length) (hm : ∀ y ∈ X, y.id < m) : chosen X ((k + 1 : Nat) : Int) = chosen X k ++ [bb] := by
  rcases h with ⟨h1, h2⟩ | ⟨x, hx, h1, h2, h3, h4, h5, h6⟩
  · obtain ⟨y, hy, hy2⟩ := chosen_more hn hk
    exact absurd (h2 y hy (hm y hy)) hy2
  · rw [← h1]
    exact chosen_next hn hk hx h5 fun y hy ho => h6 y hy (hm y hy) ho
theorem cnt_take {C : List CkM} (s : Int) (k : Nat) (h : k < C.length) : ((C.take (k + 1)).filter fun c => c.k.has s).length = if C[k].k.has s then ((C.take k).filter fun c => c.k.has s).length + 1 else ((C.take k).filter fun c => c.k.has s).length := by
  rw [filter_take (fun c : CkM => c.k.has s) C k h, List.length_append]
  split <;> simp
theorem DM.cnt {w : World} {no : List Nat} {x : DV} {S : Vst} (h : DM w no x S) (s : Int) : (x.C.filter fun c => c.k.has s).length = S.cnt s := by
  unfold Vst.cnt
  rw [← h.eC, List.filter_map, List.length_map]
  rfl
theorem Vst.loads_of {S : Vst} (ho : SvOk S) (m : Int) : (S.pick m = 0 → ∀ y ∈ S.loads, y.id ≠ m) ∧ (S.pick m ≠ 0 → (⟨m, S.cnt m⟩ : Ld) ∈ S.loads) := by
  refine ⟨fun h y hy e => ?_, fun h => ?_⟩
  · unfold Vst.loads at hy
    obtain ⟨x, hx, rfl⟩ := List.mem_map.1 hy
    rw [Vst.pick_zero ho, ← e] at h
    have := fd_mem ho.svr hx
    simp only [] at h
    rw [h] at this
    cases this
  · have h1 : (fd Prod.fst S.sv m).isSome := by
      cases hf : fd Prod.fst S.sv m with
      | none => exact absurd ((Vst.pick_zero ho m).2 hf) h
      | some x => rfl
    obtain ⟨x, hx⟩ := Option.isSome_iff_exists.1 h1
    exact List.mem_map.2 ⟨x, (fd_some hx).1, by rw [(fd_some hx).2]⟩
theorem Vst.loads_ok {S : Vst} (ho : SvOk S) : (S.loads.map Ld.id).Nodup ∧ (∀ y ∈ S.loads, 0 ≤ y.id ∧ y.id < 16) ∧ S.loads.length = S.sv.length := by
  refine ⟨?_, fun y hy => ?_, by simp [Vst.loads]⟩
  · have e : S.loads.map Ld.id = S.sv.map Prod.fst := by unfold Vst.loads; rw [List.map_map]; rfl
    rw [e]
    have p2 : (S.sv.map Prod.fst).Pairwise (· < ·) := by
      rw [List.pairwise_map]
      exact ho.svr
    exact p2.imp (fun h => by omega)
  · unfold Vst.loads at hy
    obtain ⟨x, hx, rfl⟩ := List.mem_map.1 hy
    have := ho.sva x hx
    simp only []
    omega
set_option maxHeartbeats 4000000 in
set_option maxRecDepth 100000 in
theorem dchoose_calls (w : World) (no : List Nat) (x : DV) (S : Vst) (nx : Int) (cp0 : Nat) (h : DM w no x S) (ho : SvOk S) (hcp : cp0 ≤ S.sv.length) (hl : x.C.length ≤ 1000000) :
    Calls Tryz.prog 80 #[x.val nx, .int .i64 cp0] w fun e w' => ∃ A c, e = .returned (.slice A cp0 c) ∧ OwnI w w' A c (chosen S.loads cp0) ∧ Below w.heap.size w w' := by
  obtain ⟨i0, hi, hz0, hz1, hz2⟩ := info_parts Tryz.infoI3
  obtain ⟨L1, L2, L3⟩ := Vst.loads_ok ho
  have HOK := hide ho
  have HL := hide (And.intro L1 (And.intro L2 L3))
  have HCNT := hide (fun s => h.cnt s)
  have HSV := hide (show S.sv.length ≤ 16 by have := rise_len (a := 0) (b := 16) ho.svr (fun x hx => by have := ho.sva x hx; omega); simpa using this)
  clear ho L1 L2 L3
  obtain ⟨Ap, cp, V, Av, cv, C, Ac, cc⟩ := x
  obtain ⟨w0, hw0⟩ : ∃ w0, w.alloc (.cells #[.slice Ap 16 cp, .slice Av V.length cv, .slice Ac C.length cc, .int .i64 nx] 31) = w0 := ⟨_, rfl⟩
  have d0 : Blk w0 w.heap.size 31 [.slice Ap 16 cp, .slice Av V.length cv, .slice Ac C.length cc, .int .i64 nx] := hw0 ▸ Blk.new rfl
  have hb0 : Below w.heap.size w w0 := hw0 ▸ (Below.refl _ _).alloc (Nat.le_refl _) _
  have H := hide (h.below hb0)
  have HB0 := hide hb0
  have HW := hide hw0
  have D0 := hide d0
  clear h d0 hb0 hw0
  unfold DV.val DV.cells
  simp only [] at hl HCNT ⊢
  go_enter Tryz.func80, Tryz.ntmps80
  go_wp2_with fail
  rw [HW.out]
  go_loopw [5, 6, 7, 8, 9, 10, 11, 12, 13, 14, 15, 16, 17, 18, 19, 20, 21, 22, 23, 24, 25, 26, 27, 28, 29, 30, 31, 32, 33, 34, 35, 36, 37, 38, 39, 40, 41, 42, 43, 44, 45, 46, 47, 48, 49, 50, 51, 52, 53, 54, 55, 56, 57, 58] (fun v _ _ _ _ _ _ _ _ _ _ _ _ _ _ _ _ _ _ _ _ _ _ _ _ _ _ _ _ _ _ _ _ _ _ _ _ _ _ _ _ _ _ _ _ _ _ _ _ _ _ _ _ _ wr => ∃ (k : Nat) (A : Option Addr) (c : Nat), k ≤ cp0 ∧ v = .slice A k c ∧ OwnI w0 wr A c (chosen S.loads k) ∧ Below w0.heap.size w0 wr) (fun v _ _ _ _ _ _ _ _ _ _ _ _ _ _ _ _ _ _ _ _ _ _ _ _ _ _ _ _ _ _ _ _ _ _ _ _ _ _ _ _ _ _ _ _ _ _ _ _ _ _ _ _ _ _ => cp0 - (match v with | .slice _ l _ => l | _ => 0))
  case atStart => exact ⟨0, none, 0, Nat.zero_le _, rfl, by simpa [chosen] using OwnI.nil _ _, Below.refl _ _⟩
  case round =>
    obtain ⟨k, A, c, hk, rfl, hown, hb⟩ := hrel
    have HO := hide hown
    have HB := hide hb
    clear hown hb
    by_cases hlt : k < cp0
    · have i1 : (k : Int) < cp0 := by omega
      have hkl : k < S.loads.length := by have := HL.out.2.2; omega
      have HKL := hide (And.intro hkl (chosen_len2 (X := S.loads) (k := k) (by omega)))
      clear hkl
      go_wp2_with fail
      obtain ⟨wo, rfl⟩ : ∃ wo, wo = wr := ⟨_, rfl⟩
      obtain ⟨out, hout⟩ : ∃ out, chosen S.loads k = out := ⟨_, rfl⟩
      rw [hout] at HO HKL
      have HOUT := hide hout
      clear hout
      go_loopw [6, 7, 8, 9, 10, 15, 16, 17, 18, 19, 20, 21, 22, 23, 24, 25, 26, 27, 28, 29, 30, 31, 32, 33, 34, 35, 36, 37, 38, 39, 40, 41, 42, 43, 44, 45, 46, 47, 48, 49, 50, 51, 52, 53, 54] (fun bb ll id _ _ _ _ _ _ _ _ _ _ _ _ _ _ _ _ _ _ _ _ _ _ _ _ _ _ _ _ _ _ _ _ _ _ _ _ _ _ _ _ _ _ wq => ∃ (m : Nat) (zb zl : Int), m ≤ 16 ∧ id = .int .i64 m ∧ bb = .int .i64 zb ∧ ll = .int .i64 zl ∧ BestOf S.loads out m zb zl ∧ Below wo.heap.size wo wq) (fun _ _ id _ _ _ _ _ _ _ _ _ _ _ _ _ _ _ _ _ _ _ _ _ _ _ _ _ _ _ _ _ _ _ _ _ _ _ _ _ _ _ _ _ _ _ => 16 - (intOf id).toNat)
      case atStart => exact ⟨0, -1, 0, Nat.zero_le _, rfl, rfl, rfl, BestOf.start (fun y hy => (HL.out.2.1 y hy).1), Below.refl _ _⟩
      case round =>
        obtain ⟨m, zb, zl, hm, rfl, rfl, rfl, hbest, hbq⟩ := hrel
        have HBE := hide hbest
        have HBQ := hide hbq
        have HQ0 := hide (HB.out.trans (hbq.mono HB.out.size))
        clear hbest hbq
        by_cases hlm : m < 16
        · have j1 : (m : Int) < 16 := by omega
          obtain ⟨bP, oP, rfl, hbP, hcP⟩ := H.out.atP
          have g0 := hcP wr HQ0.out m hlm
          have e0 := D0.out.rule 0 _ rfl wr HQ0.out
          have HLO := hide (Vst.loads_of HOK.out (m : Int))
          obtain ⟨q, hq⟩ : ∃ q, S.pick m = q := ⟨_, rfl⟩
          rw [hq] at g0 HLO
          clear hcP hq
          by_cases h0 : q = 0
          · subst h0
            have HSK := hide (HBE.out.skip (fun y hy e => absurd e (HLO.out.1 rfl y hy)))
            go_wp2
            go_roundw
            case rel => exact ⟨m + 1, zb, zl, by omega, by go_num, rfl, rfl, HSK.out, HBQ.out⟩
            case measure => simp [intOf]; omega
          · have t0 : (q == 0) = false := beq_eq_false_iff_ne.2 h0
            have HZ := hide (HLO.out.2 h0)
            have hoi := (HO.out.below HBQ.out).made
            have HHAS := hide (has15_calls A out.length c out m wr rfl (by have := HKL.out; have := HL.out.2.2; have := HSV.out; omega) hoi.rd)
            rw [HKL.out.2] at HHAS
            have h0' : ¬ (q = 0) := h0
            clear hoi h0
            go_wp2_with fail
            refine HHAS.out.mono ?_
            rintro e w5 ⟨rfl, n5, rfl⟩
            obtain ⟨r, hr⟩ : ∃ r, out.contains (m : Int) = r := ⟨_, rfl⟩
            have HR := hide hr
            rw [hr]
            clear hr HHAS
            have HBQ5 := hide (below_drewN HBQ.out n5)
            have HQ5 := hide (below_drewN HQ0.out n5)
            cases r with
            | true =>
              have HSK := hide (HBE.out.skip (fun y hy e => by rw [e]; exact List.contains_iff_mem.1 HR.out))
              go_wp2
              go_roundw
              case rel => exact ⟨m + 1, zb, zl, by omega, by go_num, rfl, rfl, HSK.out, HBQ5.out⟩
              case measure => simp [intOf]; omega
            | false =>
              have HNI : Hid ((m : Int) ∉ out) := hide (fun hx => by have := List.contains_iff_mem.2 hx; rw [HR.out] at this; cases this)
              go_wp2_with fail
              obtain ⟨w6, hw6⟩ : ∃ w6, wr.drewN n5 = w6 := ⟨_, rfl⟩
              rw [hw6] at HBQ5 HQ5
              rw [hw6]
              clear hw6 g0 e0
              obtain ⟨wp, rfl⟩ : ∃ wp, wp = w6 := ⟨_, rfl⟩
              go_loopw [9, 10, 30, 31, 32, 33, 34, 35, 36, 37, 38, 39, 40, 41, 42, 43, 44, 45] (fun nn kk _ _ _ _ _ _ _ _ _ _ _ _ _ _ _ _ wz => ∃ j : Nat, j ≤ C.length ∧ kk = .int .i64 j ∧ nn = .int .i64 ((C.take j).filter fun c => c.k.has m).length ∧ Below wp.heap.size wp wz) (fun _ kk _ _ _ _ _ _ _ _ _ _ _ _ _ _ _ _ _ => C.length - (intOf kk).toNat)
              case atStart => exact ⟨0, Nat.zero_le _, rfl, by simp, Below.refl _ _⟩
              case round =>
                obtain ⟨j, hj, rfl, rfl, hbz⟩ := hrel
                have HBZ := hide hbz
                have HZ0 := hide (HQ5.out.trans (hbz.mono HQ5.out.size))
                have e2 := D0.out.rule 2 _ rfl wr HZ0.out
                clear hbz
                by_cases hlj : j < C.length
                · have k1 : (j : Int) < C.length := by omega
                  have HCT := hide (cnt_take (m : Int) j hlj)
                  obtain ⟨b2, o2, rfl, hb2, hc2⟩ := H.out.atC hlj
                  simp only [] at hc2
                  obtain ⟨z, hz⟩ : ∃ z, C[j] = z := ⟨_, rfl⟩
                  have hsl := H.out.sC z (by rw [← hz]; exact List.getElem_mem hlj)
                  rw [hz] at HCT hc2
                  have x0 : wr.cell? ⟨b2, o2 + j * 5, none⟩ = some (.int .i64 z.k.id) := hc2 wr HZ0.out 0 (by omega)
                  have x1 : wr.cell? ⟨b2, o2 + j * 5 + 1, none⟩ = some (.int .i64 z.k.vol) := hc2 wr HZ0.out 1 (by omega)
                  have x2 : wr.cell? ⟨b2, o2 + j * 5 + 2, none⟩ = some (.int .i64 z.k.ep) := hc2 wr HZ0.out 2 (by omega)
                  have x3 : wr.cell? ⟨b2, o2 + j * 5 + 3, none⟩ = some (.slice z.A z.k.me.length z.c) := hc2 wr HZ0.out 3 (by omega)
                  have x4 : wr.cell? ⟨b2, o2 + j * 5 + 4, none⟩ = some (.slice z.B z.k.jo.length z.d) := hc2 wr HZ0.out 4 (by omega)
                  have HHAS := hide (dhas_calls z m no wr (hsl.1.below HZ0.out) (hsl.2.below HZ0.out))
                  unfold CkM.val CkM.cells at HHAS
                  have hle := List.length_filter_le (fun c : CkM => c.k.has m) (C.take j)
                  have HLE := hide (show ((C.take j).filter fun c => c.k.has m).length ≤ 1000000 by rw [List.length_take] at hle; omega)
                  obtain ⟨a, ha⟩ : ∃ a, ((C.take j).filter fun c => c.k.has m).length = a := ⟨_, rfl⟩
                  rw [ha] at HCT HLE ⊢
                  clear hc2 hsl hz hle ha
                  have hwr : IntKind.i64.wrap ((a : Int) + 1) = a + 1 := IntWalk.i64_in _ (by have := HLE.out; omega)
                  go_wp2_with fail
                  refine HHAS.out.mono ?_
                  rintro e w7 ⟨rfl, hb7⟩
                  obtain ⟨r, hr⟩ : ∃ r, z.k.has m = r := ⟨_, rfl⟩
                  rw [hr] at HCT ⊢
                  have HB7 := hide (HBZ.out.trans (hb7.mono HBZ.out.size))
                  clear hr HHAS hb7 x0 x1 x2 x3 x4 e2
                  cases r with
                  | true =>
                    rw [if_pos rfl] at HCT
                    go_wp2
                    go_roundw
                    case rel => exact ⟨j + 1, by omega, by go_num, by rw [HCT.out]; go_num, HB7.out⟩
                    case measure => simp [intOf]; omega
                  | false =>
                    rw [if_neg (by simp)] at HCT
                    go_wp2
                    go_roundw
                    case rel => exact ⟨j + 1, by omega, by go_num, by rw [HCT.out], HB7.out⟩
                    case measure => simp [intOf]; omega
                · have e : j = C.length := by omega
                  subst e
                  rw [List.take_length, HCNT.out (m : Int)]
                  have HBN := hide (HBQ5.out.trans (HBZ.out.mono HBQ5.out.size))
                  obtain ⟨ct, hct⟩ : ∃ ct : Int, ((S.cnt (m : Int) : Nat) : Int) = ct := ⟨_, rfl⟩
                  rw [hct] at HZ ⊢
                  clear hct
                  by_cases hz0 : zb < 0
                  · have HTK := hide (BestOf.take HBE.out HL.out.1 HZ.out rfl (by omega) HNI.out (Or.inl hz0))
                    go_wp2
                    go_roundw
                    case rel => exact ⟨m + 1, m, ct, by omega, by go_num, rfl, rfl, HTK.out, HBN.out⟩
                    case measure => simp [intOf]; omega
                  · by_cases hz1 : ct < zl
                    · have HTK := hide (BestOf.take HBE.out HL.out.1 HZ.out rfl (by omega) HNI.out (Or.inr hz1))
                      go_wp2
                      go_roundw
                      case rel => exact ⟨m + 1, m, ct, by omega, by go_num, rfl, rfl, HTK.out, HBN.out⟩
                      case measure => simp [intOf]; omega
                    · have HTK := hide (BestOf.leave HBE.out HL.out.1 HZ.out rfl (by intro h; simp only [] at h; omega))
                      go_wp2
                      go_roundw
                      case rel => exact ⟨m + 1, zb, zl, by omega, by go_num, rfl, rfl, HTK.out, HBN.out⟩
                      case measure => simp [intOf]; omega
        · have e : m = 16 := by omega
          subst e
          have HNX := hide (BestOf.next (k := k) (by rw [HOUT.out]; exact HBE.out) HL.out.1 HKL.out.1 (fun y hy => (HL.out.2.1 y hy).2))
          have HO2 := hide (HO.out.below HBQ.out)
          have HOB := hide (own_chg HO2.out.1 (Chg.of_below (L := []) ((Below.refl _ wr).alloc (Nat.le_refl _) (.cells #[.int .i64 zb] 3))) (fun _ _ hx => by cases hx))
          rw [HOUT.out] at HNX
          have HK2 := hide (show k ≤ 16 by have := HKL.out.1; have := HL.out.2.2; have := HSV.out; omega)
          have hol := HKL.out.2
          go_wp2_with (at_builtin; refine app_law rfl _ _ 27 rfl 3 i0 _ 1 8 Tryz.underlying27 hi hz0 hz1 hz2 rfl (by decide) (.slice A k c) k (out.map (Value.int .i64)) rfl (by rw [← hol]; exact HOB.out) wr.heap.size 1 1 [.int .i64 zb] rfl (Blk.new rfl) rfl ?c1 (by decide) ?c3 ?c4 ?_)
          case c1 => first | rfl | (intro u hu; simp at hu; subst hu; rfl)
          case c3 => have := HK2.out; unfold maxLen; omega
          case c4 => have := HK2.out; omega
          intro g cap w4 hown2 hch hor hlt2
          rw [owS] at hch hor
          rw [← hol] at hown2
          have hP := OwnI.snoc (y := zb) HO2.out ((Below.refl _ wr).alloc (Nat.le_refl _) _) hown2 HQ0.out hch (hor.imp (fun h => h) (fun e => Nat.le_of_lt (Nat.lt_of_lt_of_eq (Nat.lt_succ_self wr.heap.size) (by simpa using e.symm))))
          rw [← HNX.out] at hP
          have HP2 := hide hP
          clear hown2 hch hor hlt2 hP hol
          go_wp2
          go_roundw
          case rel => exact ⟨k + 1, some ⟨g, 0, none⟩, cap, by omega, rfl, HP2.out.1, HP2.out.2⟩
          case measure => simp; omega
    · have e : k = cp0 := by omega
      subst e
      go_wp2
      go_ret
      exact ⟨A, c, rfl, ⟨HO.out.1, fun g hg => Nat.le_trans HB0.out.size (HO.out.2 g hg)⟩, HB0.out.trans (HB.out.mono HB0.out.size)⟩
end Go.Proofs.YtcgecalbgkkinaaGreat
