/- One text of: Rlog3 Rlog4. -/
import Derived.Test.YtcahcjfgmdpdoaaGreatQLA
set_option maxHeartbeats 4000000
namespace Go.Proofs.YtcahcjfgmdpdoaaGreat
open Go.RowKit

def Ent.con (e : Ent) : Int × Int × List Int := (e.t, e.k, e.b)
def cons (es : List Ent) : List (Int × Int × List Int) := es.map Ent.con
theorem Ent.is.con {x y : Ent} (h : x.is y) : x.con = y.con := by
 obtain ⟨h1, h2, h3⟩ := h
 simp [Ent.con, h1, h2, h3]
def Few (es : List Ent) : Prop := ∀ e ∈ es, e.b.length ≤ 1048576
theorem idx_facts {base : Int} {k : Nat} (h0 : 0 ≤ base) (h1 : base ≤ 4611686018427387904) (hk : k < 1048576) :
  IntKind.i64.wrap (base + k + 1 - base) = k + 1 ∧ IntKind.i64.wrap ((k : Int) + 1 - 1) = k ∧ -4611686018427387904 ≤ base + k + 1 := by
 refine ⟨?_, ?_, by omega⟩
 ·rw [IntWalk.i64_in _ (by omega)]; omega
 ·rw [IntWalk.i64_in _ (by omega)]; omega
theorem get_calls (p : Nat) (A : Option Addr) (cap : Nat) (base term : Int) (es : List Ent) (k : Nat) (hk : k < es.length) (w : World) (h : LogAt w p A cap base term es) (hf : Few es) (h0 : 0 ≤ base) (h1 : base ≤ 4611686018426339328) (hn : es.length ≤ 1048576) :
  Calls Tryz.prog 134 #[.pointer (some ⟨p, 0, none⟩), .int .i64 (base + k + 1)] w fun e w' => ∃ A' c', e = .returned (.tuple #[.agg #[.int .i64 es[k].t, .int .i64 es[k].k, .slice A' es[k].b.length c'], .bool true]) ∧ EntOk w' ⟨es[k].t, es[k].k, A', c', es[k].b⟩ ∧ Below w.heap.size w w' := by
 have L0 := h.below ((Below.refl _ _).alloc (Nat.le_refl _) (.cells #[.int .i64 0, .int .i64 0, .slice none 0 0] 157)); have B0 := Blk.new (w := w) (cs := [.int .i64 0, .int .i64 0, .slice none 0 0]) (t := 157) rfl; have R0 : Below w.heap.size w (w.alloc (.cells #[.int .i64 0, .int .i64 0, .slice none 0 0] 157)) := (Below.refl _ _).alloc (Nat.le_refl _) _; have hh : hasL base es.length (base + k + 1) = true := hasL_iff.2 ⟨by omega, by omega⟩; obtain ⟨e1, e2, e4⟩ := idx_facts h0 (by omega) (show k < 1048576 by omega)
 have e3 : (k : Int) < es.length := by omega
 have e5 : IntKind.i64.wrap (k : Int) = k := IntWalk.i64_in _ (by omega); have HH := hide hh; clear hh
 go_enter Tryz.func134, Tryz.ntmps134
 go_wp2_with fail
 with_reducible refine (has_calls _ _ _ _ _ _ _ _ L0 h0 (by omega) e4 (by omega)).mono ?_
 rintro e w1 ⟨rfl, n, rfl⟩; rw [HH.out]; go_wp2; obtain ⟨w0, hw0⟩ : ∃ w0, (w.alloc (.cells #[.int .i64 0, .int .i64 0, .slice none 0 0] 157)).drewN n = w0 := ⟨_, rfl⟩; rw [hw0]
 replace L0 : LogAt w0 p A cap base term es := hw0 ▸ L0.drewN n
 replace B0 : Blk w0 w.heap.size 157 [.int .i64 0, .int .i64 0, .slice none 0 0] := hw0 ▸ B0
 replace R0 : Below w.heap.size w w0 := hw0 ▸ below_drewN R0 n
 clear hw0; obtain ⟨b, o, rfl, hbB, hcell⟩ := L0.reads.at_ (by omega); have c0 := L0.blk.rule 0 _ rfl; have c2 := L0.blk.rule 2 _ rfl; have r0 := Below.refl w0.heap.size w0
 have g0 : ∀ w', Below w0.heap.size w0 w' → w'.cell? ⟨b, o + k * 3, none⟩ = some (.int .i64 es[k].t) := fun w' hb => (hb.cell (p := ⟨b, o + k * 3, none⟩) hbB).trans (hcell _ _ (entCells_get es k 0 hk (by omega)))
 have g1 : ∀ w', Below w0.heap.size w0 w' → w'.cell? ⟨b, o + k * 3 + 1, none⟩ = some (.int .i64 es[k].k) := fun w' hb => (hb.cell (p := ⟨b, o + k * 3 + 1, none⟩) hbB).trans (hcell _ _ (entCells_get es k 1 hk (by omega)))
 have g2 : ∀ w', Below w0.heap.size w0 w' → w'.cell? ⟨b, o + k * 3 + 2, none⟩ = some (.slice es[k].A es[k].b.length es[k].c) := fun w' hb => (hb.cell (p := ⟨b, o + k * 3 + 2, none⟩) hbB).trans (hcell _ _ (entCells_get es k 2 hk (by omega)))
 have ok := L0.ok es[k] (List.getElem_mem hk); have fw := hf es[k] (List.getElem_mem hk); obtain ⟨x, hx⟩ : ∃ x, es[k] = x := ⟨_, rfl⟩; rw [hx] at g0 g1 g2 ok fw; have HX := hide hx; clear hx hcell
 refine region_lx (fun w' => Below w0.heap.size w0 w') [14] [2, 2, 2, 0, 2, 2, 2, 2, 0, 2, 2, 2, 0, 1, 3, 2] (by (first | exact r0.drew | exact hb1)) (fun hS0 => ?_)
 (iterate 13 (first | refine lxt ?_ | refine lxp ?_))
 (refine lxe ?_; go_simp; ((go_at_call 133; (with_reducible refine (own_calls2 x _ (ok.below r0.drew) (by omega)).mono ?_); rintro e w1 ⟨A', c', rfl, hy, hb⟩; have hb1 : Below w0.heap.size w0 w1 := r0.drew.trans hb; clear hb; have B1 := B0.below hb1; have d0 := B1.cell 0; have d1 := B1.cell 1; have d2 := B1.cell 2; have f0 := B1.frozen 0; have f1 := B1.frozen 1; have f2 := B1.frozen 2)); refine lxB (by (first | exact r0.drew | exact hb1)) (fun hS1 => ?_))
 (refine lxn ?_; go_simp)
 refine lxp ?_
 refine lxN ?_
 have CH : Chg [w.heap.size] w1 (((w1.setCell ⟨w.heap.size, 0, none⟩ (.int .i64 x.t)).setCell ⟨w.heap.size, 1, none⟩ (.int .i64 x.k)).setCell ⟨w.heap.size, 2, none⟩ (.slice A' x.b.length c')) :=
  (((Chg.refl _ w1).setCell (Or.inl (by simp)) _).setCell (Or.inl (by simp)) _).setCell (Or.inl (by simp)) _
 have hyf := hy.chg CH (by simpa using B1.notByte (by decide)); have R1 : Below w.heap.size w w1 := R0.trans (hb1.mono R0.size); have RF := Chg.onto R1 R1.size CH (by intro z hz; simp at hz; omega); have B3 := ((B1.set 0 (.int .i64 x.t)).set 1 (.int .i64 x.k)).set 2 (.slice A' x.b.length c'); have k0 := B3.cell 0; have k1 := B3.cell 1; have k2 := B3.cell 2; simp only [List.set_cons_succ, List.set_cons_zero, List.getElem?_cons_zero, List.getElem?_cons_succ] at k0 k1 k2
 generalize hw3 : ((w1.setCell ⟨w.heap.size, 0, none⟩ (.int .i64 x.t)).setCell ⟨w.heap.size, 1, none⟩ (.int .i64 x.k)).setCell ⟨w.heap.size, 2, none⟩ (.slice A' x.b.length c') = w3 at *
 clear hw3 CH B3 hy R1 B1 d0 d1 d2 f0 f1 f2 hb1 hS1 hS0 c0 c2 g0 g1 g2 r0 R0 B0 L0; go_wp2
 exact bodyPost_ret (v := .tuple #[.agg #[.int .i64 x.t, .int .i64 x.k, .slice A' x.b.length c'], .bool true]) (by simp [results, Tryz.results134, go_sem, *]) rfl ⟨A', c', by rw [HX.out], by rw [HX.out]; exact hyf, RF⟩

theorem cons_length (es : List Ent) : (cons es).length = es.length := by simp [cons]
theorem cons_step (es : List Ent) (k j : Nat) (h : k + j < es.length) : ((cons es).drop k).take (j + 1) = ((cons es).drop k).take j ++ [es[k + j].con] := by
 rw [List.take_succ_eq_append_getElem (by rw [List.length_drop, cons_length]; omega)]
 congr 2
 simp [cons]
theorem from_none (p : Nat) (A : Option Addr) (cap : Nat) (base term : Int) (es : List Ent) (i most : Int) (w : World) (h : LogAt w p A cap base term es) (h0 : 0 ≤ base) (h1 : base ≤ 4611686018426339328) (i0 : -4611686018427387904 ≤ i) (i1 : i ≤ 4611686018427387904) (hh : hasL base es.length i = false) :
  Calls Tryz.prog 135 #[.pointer (some ⟨p, 0, none⟩), .int .i64 i, .int .i64 most] w fun e w' => e = .returned (.slice none 0 0) ∧ Below w.heap.size w w' := by
 have HH := hide hh; clear hh
 go_enter Tryz.func135, Tryz.ntmps135
 go_wp2_with fail
 with_reducible refine (has_calls _ _ _ _ _ _ _ _ h h0 (by omega) i0 i1).mono ?_
 rintro e w1 ⟨rfl, n, rfl⟩; rw [HH.out]; go_wp2; go_ret
 exact ⟨rfl, below_drewN (Below.refl _ _) _⟩
def FromOut (w w' : World) (e : Ending) (L : List (Int × Int × List Int)) : Prop :=
 ∃ A' cap' ys, e = .returned (.slice A' ys.length cap') ∧ cons ys = L ∧ w'.ownsRow 0 157 3 (.slice A' ys.length cap') ys.length (entCells ys) ∧ (∀ y ∈ ys, EntOk w' y) ∧ (∀ g, A'.map Addr.block = some g → w.heap.size ≤ g) ∧ Below w.heap.size w w'
def FromInv (w : World) (L : List (Int × Int × List Int)) (v i : Value) (wr : World) (ys : List Ent) : Prop :=
 ∃ A' cap', v = .slice A' ys.length cap' ∧ i = .int .i64 ys.length ∧ cons ys = L.take ys.length ∧ wr.ownsRow 0 157 3 (.slice A' ys.length cap') ys.length (entCells ys) ∧ (∀ y ∈ ys, EntOk wr y) ∧ (∀ g, A'.map Addr.block = some g → w.heap.size ≤ g) ∧ Below w.heap.size w wr
theorem FromInv.start (w wr : World) (L : List (Int × Int × List Int)) (h : Below w.heap.size w wr) : FromInv w L (.slice none 0 0) (.int .i64 0) wr [] :=
 ⟨none, 0, rfl, rfl, rfl, ⟨rfl, Or.inl ⟨rfl, rfl⟩⟩, (fun y hy => by cases hy), (fun g hg => by cases hg), h⟩
theorem FromInv.below {w wr wr' : World} {L : List (Int × Int × List Int)} {v i : Value} {ys : List Ent} (h : FromInv w L v i wr ys) (hb : Below wr.heap.size wr wr') : FromInv w L v i wr' ys := by
 obtain ⟨A', cap', hv, hi, hc, ho, hok, hg, hbw⟩ := h
 exact ⟨A', cap', hv, hi, hc, own_chg ho (Chg.of_below (L := []) hb) (fun _ _ hx => by cases hx), fun y hy => (hok y hy).below hb, hg, hbw.trans (hb.mono hbw.size)⟩
theorem FromInv.push {w w1 w2 : World} {L : List (Int × Int × List Int)} {A' : Option Addr} {n cap' : Nat} {i : Value} {ys : List Ent} {y : Ent} {g cap2 : Nat} (h : FromInv w L (.slice A' ys.length cap') i w1 ys) (hy : EntOk w1 y)
  (hst : L.take (ys.length + 1) = L.take ys.length ++ [y.con]) (hn : ys.length + 1 = n)
  (hown2 : w2.ownsRow 0 157 3 (.slice (some ⟨g, 0, none⟩) n cap2) n (entCells ys ++ y.cells)) (hch : Chg (A'.map Addr.block).toList w1 w2) (hor : A'.map Addr.block = some g ∨ w1.heap.size ≤ g) {z : Int} (hz : z = n) :
  FromInv w L (.slice (some ⟨g, 0, none⟩) n cap2) (.int .i64 z) w2 (ys ++ [y]) := by
 subst hz; obtain ⟨B', c', hv, hi, hc, ho, hok, hg, hbw⟩ := h
 cases hv
 have hl : (ys ++ [y]).length = n := by rw [← hn]; simp
 have hnb : ∀ z ∈ (A'.map Addr.block).toList, ¬ ByteBlk w1 z := by
  intro z hz
  obtain ⟨cs, hcs⟩ := rowBlk ho (g := z) (by simpa using hz); rintro ⟨cs', fr, h'⟩; have := hcs.symm.trans h'
  simp at this
 refine ⟨some ⟨g, 0, none⟩, cap2, by rw [hl], by rw [hl], ?_, by rw [hl, ← entCells_snoc]; exact hown2, ?_, ?_, ?_⟩
 ·rw [hl, ← hn, hst, ← hc]; simp [cons]
 ·intro e he
  rcases List.mem_append.1 he with he | he
  ·exact (hok e he).chg hch hnb
  ·obtain rfl : e = y := by simpa using he
   exact hy.chg hch hnb
 ·intro z hz
  obtain rfl : g = z := by simpa using hz
  rcases hor with hor | hor
  ·exact hg g hor
  ·exact Nat.le_trans hbw.size hor
 ·exact Chg.onto hbw hbw.size hch fun z hz => hg z (by simpa using hz)
theorem FromInv.out {w wr : World} {L : List (Int × Int × List Int)} {v i : Value} {ys : List Ent} {most : Int} (h : FromInv w L v i wr ys) (h2 : (ys.length : Int) ≤ max most 0) (h3 : most ≤ ys.length ∨ L.length ≤ ys.length) : FromOut w wr (.returned v) (L.take most.toNat) := by
 obtain ⟨A', cap', rfl, _, hc, ho, hok, hg, hb⟩ := h
 refine ⟨A', cap', ys, rfl, ?_, ho, hok, hg, hb⟩
 rw [hc]
 rcases h3 with h3 | h3
 ·rw [show most.toNat = ys.length by omega]
 ·rw [List.take_of_length_le h3, List.take_of_length_le (by omega)]
theorem entry_at {w wr : World} {es : List Ent} {b o k j : Nat} (hc : ∀ (j : Nat) (u : Value), (entCells es)[j]? = some u → w.cell? ⟨b, o + j, none⟩ = some u) (hb : Below w.heap.size w wr) (hbB : b < w.heap.size) (hj : k + j < es.length) :
  wr.cell? ⟨b, o + k * 3 + j * 3, none⟩ = some (.int .i64 es[k + j].t) ∧ wr.cell? ⟨b, o + k * 3 + j * 3 + 1, none⟩ = some (.int .i64 es[k + j].k) ∧ wr.cell? ⟨b, o + k * 3 + j * 3 + 2, none⟩ = some (.slice es[k + j].A es[k + j].b.length es[k + j].c) := by
 have g : ∀ q u, q < 3 → es[k + j].cells[q]? = some u → wr.cell? ⟨b, o + k * 3 + j * 3 + q, none⟩ = some u := fun q u hq hu => by
  rw [show o + k * 3 + j * 3 + q = o + ((k + j) * 3 + q) by omega]
  exact (hb.cell (p := ⟨b, o + ((k + j) * 3 + q), none⟩) hbB).trans (hc _ _ ((entCells_get es (k + j) q hj hq).trans hu))
 exact ⟨g 0 _ (by omega) rfl, g 1 _ (by omega) rfl, g 2 _ (by omega) rfl⟩
theorem from_calls (p : Nat) (A : Option Addr) (cap : Nat) (base term : Int) (es : List Ent) (k : Nat) (hk : k < es.length) (most : Int) (w : World) (h : LogAt w p A cap base term es) (hf : Few es) (h0 : 0 ≤ base) (h1 : base ≤ 4611686018426339328) (hn : es.length ≤ 1048576) :
  Calls Tryz.prog 135 #[.pointer (some ⟨p, 0, none⟩), .int .i64 (base + k + 1), .int .i64 most] w fun e w' => FromOut w w' e (((cons es).drop k).take most.toNat) := by
 obtain ⟨i0, hi, hz0, hz1, hz2⟩ := info_parts Tryz.infoEnt; have hh : hasL base es.length (base + k + 1) = true := hasL_iff.2 ⟨by omega, by omega⟩; obtain ⟨e1, e2, e4⟩ := idx_facts h0 (by omega) (show k < 1048576 by omega)
 have e3 : (k : Int) < es.length := by omega
 have e5 : IntKind.i64.wrap (k : Int) = k := IntWalk.i64_in _ (by omega); have cg := h.cap_ge.1; have HH := hide hh; clear hh
 go_enter Tryz.func135, Tryz.ntmps135
 go_wp2_with fail
 with_reducible refine (has_calls _ _ _ _ _ _ _ _ h h0 (by omega) e4 (by omega)).mono ?_
 rintro e w1 ⟨rfl, n, rfl⟩; rw [HH.out]; have c0 : w.cell? ⟨p, 0, none⟩ = some (.int .i64 base) := h.blk.cell 0; have c2 : w.cell? ⟨p, 2, none⟩ = some (.slice A es.length cap) := h.blk.cell 2; obtain ⟨b, o, rfl, hbB, hcell⟩ := h.reads.at_ (by omega); have H := hide h; clear h; have HC := hide hcell; clear hcell; go_wp2
 go_quiet (fail)
 go_wp2; obtain ⟨m, hm⟩ : ∃ m, es.length - k = m := ⟨_, rfl⟩; rw [hm]
 have hm2 : m + k = es.length := by omega
 have HM := hide hm; clear hm; obtain ⟨L, hL⟩ : ∃ L, (cons es).drop k = L := ⟨_, rfl⟩
 have hLl : L.length = m := by rw [← hL, List.length_drop, cons_length]; omega
 have HL := hide hL; have HLl := hide hLl; have HM2 := hide hm2
 have mb : m ≤ 1048576 := by omega
 clear hL hLl hm2 e1 e2 e5
 go_loopw [7, 27] (fun v i wr => ∃ ys : List Ent, ys.length ≤ m ∧ (ys.length : Int) ≤ max most 0 ∧ FromInv w L v i wr ys) (fun _ i _ => m - (intOf i).toNat)
 case atStart => exact ⟨[], Nat.zero_le _, by simp; omega, FromInv.start _ _ _ (below_drewN (below_drewN (Below.refl _ _) _) _)⟩
 case round =>
  obtain ⟨ys, hyl, hym, hinv⟩ := hrel; have HI := hide hinv; obtain ⟨A', cap', rfl, rfl, hcon, hown, hok, hgb, hb⟩ := hinv
  by_cases hlt : ys.length < m
  ·have hkj : k + ys.length < es.length := by have := HM2.out; omega
   obtain ⟨g0, g1, g2⟩ := entry_at HC.out hb hbB hkj; have okx : EntOk wr es[k + ys.length] := ((H.out).ok _ (List.getElem_mem hkj)).below hb; have fw := hf es[k + ys.length] (List.getElem_mem hkj); have hst := cons_step es k ys.length hkj; rw [HL.out] at hst; obtain ⟨x, hx⟩ : ∃ x, es[k + ys.length] = x := ⟨_, rfl⟩; rw [hx] at g0 g1 g2 okx fw hst; have HST := hide hst; have HO := hide hown; have HK := hide hok; have HG := hide hgb; have HCN := hide hcon; clear hx hst hown hok hgb hcon
   by_cases hmo : most ≤ (ys.length : Int)
   ·go_wp2
    go_ret; rw [HL.out]
    exact (HI.out.below ((Below.refl _ _).alloc (Nat.le_refl _) _)).out hym (Or.inl hmo)
   ·go_wp2_with fail
    have I0 := HI.out.below ((Below.refl _ _).alloc (Nat.le_refl _) (.cells #[.int .i64 x.t, .int .i64 x.k, .slice x.A x.b.length x.c] 157))
    with_reducible refine (own_calls2 x _ (okx.below ((Below.refl _ _).alloc (Nat.le_refl _) _)) (by omega)).mono ?_
    rintro e w1 ⟨A2, c2', rfl, hy, hb1⟩; have I1 := I0.below hb1; have O1 := HO.out
    replace O1 := own_chg (own_chg O1 (Chg.of_below (L := []) ((Below.refl _ _).alloc (Nat.le_refl _) (.cells #[.int .i64 x.t, .int .i64 x.k, .slice x.A x.b.length x.c] 157))) (fun _ _ hx => by cases hx)) (Chg.of_below (L := []) hb1) (fun _ _ hx => by cases hx)
    have HI1 := hide I1; have HO1 := hide O1; have HY := hide hy; clear I0 I1 O1 hb1 hb hy
    go_wp2_with (at_builtin; refine app_law rfl _ _ 211 rfl 157 i0 _ 3 40 Tryz.underlying211 hi hz0 hz1 hz2 rfl (by decide) (.slice A' ys.length cap') ys.length (entCells ys) rfl (HO1.out.alloc _) w1.heap.size 1 1 (Ent.cells ⟨x.t, x.k, A2, c2', x.b⟩) rfl (Blk.new rfl) rfl ?c1 (by decide) ?c3 ?c4 ?_)
    case c1 => intro u hu; simp [Ent.cells] at hu; rcases hu with rfl | rfl | rfl <;> rfl
    case c3 => unfold maxLen; omega
    case c4 => omega
    intro g cap2 w2 hown2 hch hor hlt2
    rw [owS] at hch hor; have F := FromInv.push (n := ys.length + 1) (HI1.out.below ((Below.refl _ _).alloc (Nat.le_refl _) (.cells (Ent.cells ⟨x.t, x.k, A2, c2', x.b⟩).toArray 157))) (HY.out.below ((Below.refl _ _).alloc (Nat.le_refl _) _)) HST.out rfl hown2 hch (hor.imp id (fun e => by simp; omega)) (z := (ys.length : Int) + 1) (by omega); clear hown2 hch hor hlt2 g0 g1 g2; go_wp2
    go_roundw
    case rel => exact ⟨ys ++ [⟨x.t, x.k, A2, c2', x.b⟩], by simp; omega, by simp; omega, F⟩
    case measure => simp [intOf]; omega
  ·have e : ys.length = m := by omega
   have HE := hide e; clear e; go_wp2; go_ret; rw [HL.out]
   exact HI.out.out hym (Or.inr (by rw [HLl.out, HE.out]; exact Nat.le_refl _))

abbrev Con := Int × Int × List Int
theorem own_take {w : World} {e : TypeId} {size n k c : Nat} {A : Option Addr} {xs : List Value} (h : w.ownsRow 0 e size (.slice A n c) n xs) (hk : k ≤ n) : w.ownsRow 0 e size (.slice A k c) k (xs.take (k * size)) := by
 refine ⟨by rw [List.length_take, h.1]; exact Nat.min_eq_left (Nat.mul_le_mul_right _ hk), ?_⟩
 rcases h.2 with ⟨hv, h0⟩ | ⟨g, cap, cur, hv, hb, hh, hn, hc, hs, ht⟩
 ·cases hv
  obtain rfl : k = 0 := by omega
  exact Or.inl ⟨rfl, rfl⟩
 ·cases hv
  refine Or.inr ⟨g, c, cur, rfl, hb, hh, by omega, hc, hs, ?_⟩
  rw [← ht, List.take_take, Nat.min_eq_left (Nat.mul_le_mul_right _ hk)]
theorem LogAt.take {w : World} {p : Nat} {A : Option Addr} {cap : Nat} {base term : Int} {es : List Ent} {k : Nat} (h : LogAt w p A cap base term es) (hk : k ≤ es.length) :
  w.ownsRow 0 157 3 (.slice A k cap) (es.take k).length (entCells (es.take k)) := by
 have := own_take h.own hk; rw [entCells_take] at this; rw [show (es.take k).length = k by rw [List.length_take]; omega]
 exact this
end Go.Proofs.YtcahcjfgmdpdoaaGreat
