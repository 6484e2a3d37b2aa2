/- The document of layer 12: with. -/
import Derived.Test.YtjdkafamaoeifaaDoc
namespace Go.Proofs.Ytjdkafamaoeifaa
open Go.RowKit Go.Proofs Go.Maps
set_option linter.unusedVariables false
set_option linter.unusedSimpArgs false
theorem Try.infoFl : (Try.prog.info? 74).map (fun i => (i.zero, i.size, i.bytes)) = some (some (.agg #[.int .i64 0, .int .i64 0, .int .i64 0, .int .i64 0, .int .i64 0, .int .i64 0, .int .i64 0, .int .i64 0, .int .i64 0, .slice none 0 0]), 10, 96) := by kernel_rfl
theorem Doc.more {w : World} {G G' : List Nat} {v : Value} {D : List Dl} (h : Doc w G v D) (h1 : ∀ z ∈ G, z ∈ G') (h2 : ∀ z ∈ G', z < w.heap.size) : Doc w G' v D :=
  ⟨h.row, fun g hg => h1 g (h.rg g hg), fun d hd => ⟨(h.q d hd).1, (h.q d hd).2.1, fun b o e => h1 b ((h.q d hd).2.2 b o e)⟩, h2⟩
/-- a queue that is read, within the blocks G -/
def Qr (w : World) (G : List Nat) (d : Dl) : Prop := Reads w w.heap.size 3 d.A d.f.q.length (itCells d.f.q) ∧ d.f.q.length ≤ d.c ∧ ∀ b o, d.A = some ⟨b, o, none⟩ → b ∈ G
/-- what a call of the document gives -/
def DocOut (w : World) (G : List Nat) (n : Nat) (D : List Dl) (v : Value) (w' : World) : Prop := ∃ A c G', v = .slice A n c ∧ D.length = n ∧ Doc w' G' (.slice A n c) D ∧ (∀ z ∈ G', z ∈ G ∨ w.heap.size ≤ z) ∧ Below w.heap.size w w'
theorem Que.setCell {w : World} {e : TypeId} {size n g o c : Nat} {xs : List Value} (h : Que w e size (.slice (some ⟨g, o, none⟩) n c) n xs) (q : Nat) (u : Value) : Que (w.setCell ⟨g, o + q, none⟩ u) e size (.slice (some ⟨g, o, none⟩) n c) n (xs.set q u) := by
  refine ⟨by rw [List.length_set]; exact h.1, ?_⟩
  rcases h.2 with ⟨e0, _⟩ | ⟨g', o2, cap2, cur, e0, hgg, hcc, hm, hs, ht⟩
  · cases e0
  · cases e0
    refine .inr ⟨g, o, c, cur.setIfInBounds (o + q) u, rfl, ?_, hcc, hm, by simpa using hs, ?_⟩
    · have B : Blk w g e cur.toList := by
        show w.heap[g]? = some (.cells cur.toList.toArray e (0, 0))
        simpa using hgg
      have := B.set (o + q) u
      unfold Blk at this
      rw [this, ← Array.toList_setIfInBounds]
    · rw [Array.toList_setIfInBounds, List.drop_set, if_neg (by omega), List.take_set, ht, Nat.add_sub_cancel_left]
def setFrom (l : List Value) (b : Nat) : List Value → List Value
  | [] => l
  | c :: cs => setFrom (l.set b c) (b + 1) cs
theorem setFrom_length (cs : List Value) : ∀ (l : List Value) (b : Nat), (setFrom l b cs).length = l.length := by
  induction cs with
  | nil => intro l b; rfl
  | cons c cs ih => intro l b; rw [setFrom, ih, List.length_set]
theorem setFrom_get (cs : List Value) : ∀ (l : List Value) (b q : Nat), (setFrom l b cs)[q]? = if b ≤ q ∧ q < b + cs.length ∧ q < l.length then cs[q - b]? else l[q]? := by
  induction cs with
  | nil => intro l b q; rw [setFrom, if_neg (by simp; omega)]
  | cons c cs ih =>
    intro l b q
    rw [setFrom, ih, List.length_set, List.length_cons]
    by_cases h1 : b + 1 ≤ q ∧ q < b + 1 + cs.length ∧ q < l.length
    · rw [if_pos h1, if_pos (by omega), show q - b = (q - (b + 1)) + 1 by omega, List.getElem?_cons_succ]
    · rw [if_neg h1, List.getElem?_set]
      by_cases h2 : b = q
      · subst h2
        rw [if_pos rfl]
        by_cases h3 : b < l.length
        · rw [if_pos h3, if_pos (by omega), Nat.sub_self]
          rfl
        · rw [if_neg h3, if_neg (by omega), List.getElem?_eq_none (by omega)]
      · rw [if_neg h2, if_neg (by omega)]
theorem dlCells_set (D : List Dl) {i : Nat} (hi : i < D.length) (d : Dl) : setFrom (dlCells D) (i * 10) d.cells = dlCells (D.set i d) := by
  refine List.ext_getElem? fun q => ?_
  have hdc : d.cells.length = 10 := rfl
  rw [setFrom_get, hdc, dlCells_length]
  by_cases hq : q < D.length * 10
  · have e : q = q / 10 * 10 + q % 10 := by omega
    have hk : q / 10 < D.length := by omega
    have hj : q % 10 < 10 := by omega
    have h1 : (dlCells (D.set i d))[q]? = ((D.set i d)[q / 10]'(by rw [List.length_set]; exact hk)).cells[q % 10]? := by
      rw [← dlCells_get _ _ _ (by rw [List.length_set]; exact hk) hj, ← e]
    have h2 : (dlCells D)[q]? = D[q / 10].cells[q % 10]? := by
      rw [← dlCells_get _ _ _ hk hj, ← e]
    rw [h1, h2, List.getElem_set]
    by_cases hc : i = q / 10
    · rw [if_pos (by omega), if_pos hc, show q - i * 10 = q % 10 by omega]
    · rw [if_neg (by omega), if_neg hc]
  · rw [if_neg (by omega), List.getElem?_eq_none (by rw [dlCells_length]; omega), List.getElem?_eq_none (by rw [dlCells_length, List.length_set]; omega)]
theorem Que.put10 {w : World} {n g o c i : Nat} {D : List Dl} (h : Que w 74 10 (.slice (some ⟨g, o, none⟩) n c) n (dlCells D)) (hi : i < D.length) (d : Dl) :
    Que ((((((((((w.setCell ⟨g, o + i * 10, none⟩ (.int .i64 d.f.id)).setCell ⟨g, o + i * 10 + 1, none⟩ (.int .i64 d.f.ver)).setCell ⟨g, o + i * 10 + 2, none⟩ (.int .i64 d.f.p.r)).setCell ⟨g, o + i * 10 + 3, none⟩ (.int .i64 d.f.p.w)).setCell ⟨g, o + i * 10 + 4, none⟩ (.int .i64 d.f.p.l)).setCell ⟨g, o + i * 10 + 5, none⟩ (.int .i64 d.f.p.b)).setCell ⟨g, o + i * 10 + 6, none⟩ (.int .i64 d.f.c.r)).setCell ⟨g, o + i * 10 + 7, none⟩ (.int .i64 d.f.c.p)).setCell ⟨g, o + i * 10 + 8, none⟩ (.int .i64 d.f.c.l)).setCell ⟨g, o + i * 10 + 9, none⟩ (.slice d.A d.f.q.length d.c)) 74 10 (.slice (some ⟨g, o, none⟩) n c) n (dlCells (D.set i d)) := by
  rw [← dlCells_set D hi d]
  exact (((((((((h.setCell (i * 10) _).setCell (i * 10 + 1) _).setCell (i * 10 + 2) _).setCell (i * 10 + 3) _).setCell (i * 10 + 4) _).setCell (i * 10 + 5) _).setCell (i * 10 + 6) _).setCell (i * 10 + 7) _).setCell (i * 10 + 8) _).setCell (i * 10 + 9) _
theorem Que.frozen {w : World} {e : TypeId} {size n : Nat} {g o c : Nat} {xs : List Value} (h : Que w e size (.slice (some ⟨g, o, none⟩) n c) n xs) (q : Nat) : w.frozen? ⟨g, q, none⟩ = false := by
  obtain ⟨cs, hb⟩ := h.blk (g := g) rfl
  have B : Blk w g e cs.toList := by
    show w.heap[g]? = some (.cells cs.toList.toArray e (0, 0))
    simpa using hb
  exact B.frozen q
set_option maxHeartbeats 4000000 in
set_option maxRecDepth 100000 in
theorem with12_calls {w : World} {G : List Nat} {A : Option Addr} {n c : Nat} {D : List Dl} (i : Nat) (d : Dl) (h : Doc w G (.slice A n c) D) (hn : D.length = n) (hnn : n ≤ 1000000) (hi : i < n) (hq : Qr w G d) :
    Calls Try.prog 47 #[.slice A n c, .int .i64 i, .agg #[.int .i64 d.f.id, .int .i64 d.f.ver, .int .i64 d.f.p.r, .int .i64 d.f.p.w, .int .i64 d.f.p.l, .int .i64 d.f.p.b, .int .i64 d.f.c.r, .int .i64 d.f.c.p, .int .i64 d.f.c.l, .slice d.A d.f.q.length d.c]] w fun e w' => ∃ v, e = .returned v ∧ DocOut w G n (D.set i d) v w' := by
  obtain ⟨i0, hi0, hz0, hz1, hz2⟩ := info_parts Try.infoFl
  obtain ⟨w1, hw1⟩ : ∃ w1, (w.alloc (.cells #[.int .i64 d.f.id, .int .i64 d.f.ver, .int .i64 d.f.p.r, .int .i64 d.f.p.w, .int .i64 d.f.p.l, .int .i64 d.f.p.b, .int .i64 d.f.c.r, .int .i64 d.f.c.p, .int .i64 d.f.c.l, .slice d.A d.f.q.length d.c] 74)) = w1 := ⟨_, rfl⟩
  have hb1 : Below w.heap.size w w1 := by rw [← hw1]; exact (Below.refl _ w).alloc (Nat.le_refl _) _
  have B1 : Blk w1 w.heap.size 74 d.cells := by rw [← hw1]; exact Blk.new rfl
  have hd1 := h.below hb1
  have hb2 : Below w.heap.size w (w1.alloc (.cells #[] 74)) := hb1.alloc hb1.size _
  obtain ⟨A', c', hv, hc1, hc2⟩ := hd1.row.form
  injection hv with e1 e2 e3
  subst e1 e3
  have hrd : Reads (w1.alloc (.cells #[] 74)) w1.heap.size 10 A D.length (dlCells D) := by
    refine Reads.alloc ?_ (Nat.le_refl _) _
    refine ⟨dlCells_length D, fun h0 => ?_⟩
    obtain ⟨b, o, cc, e, _, _, hb, hcell⟩ := hd1.row.at_ h0
    injection e with e _ _
    exact ⟨b, o, e, hb, hcell⟩
  rw [hn] at hrd
  have HRD := hide hrd
  have HB2 := hide hb2
  have HB1 := hide B1
  have hs1 : w1.heap.size = w.heap.size + 1 := by rw [← hw1]; simp
  have HQR := hide hq
  have HDOC := hide h
  have HN := hide hn
  clear hq h
  have hq : Que (w1.alloc (.cells #[] 74)) 74 10 (.slice (some ⟨w.heap.size + 1, 0, none⟩) 0 0) 0 [] := by
    rw [← hs1]
    exact Que.fresh w1 _ 10
  have HQ := hide hq
  have HS1 := hide hs1
  have HW1 := hide hw1
  clear hrd hb2 hd1 B1 hq hs1 hw1 e2
  go_enter Try.func47, Try.ntmps47
  go_wp2_with (at_builtin; rw [HW1.out]; refine wpl_append_src _ rfl _ _ 62 rfl 74 i0 _ 10 96 Try.underlying62 hi0 hz0 hz1 hz2 rfl (by decide) _ 0 [] rfl HQ.out A n c w1.heap.size (dlCells D) rfl HRD.out (dlCells_one D) ?c3 ?c4 ?_)
  case c3 => unfold maxLen; omega
  case c4 => omega
  intro A2 cap w2 q2 ch2 or2
  obtain ⟨g, o, cc, e, hcn, hcm, hgb, hcell⟩ := q2.at_ (by omega)
  injection e with e1 _ e3
  subst e1 e3
  have hg : w.heap.size < g := by
    rcases or2 _ rfl with h | h
    · have : w.heap.size + 1 = g := by simpa [Value.ownBlock] using h
      omega
    · have : g = w1.heap.size + 1 := h
      have := HS1.out
      omega
  have B2 : Blk w2 w.heap.size 74 d.cells := (HB1.out.alloc _).chg ch2 (by simp [Value.ownBlock])
  have b0 : w2.cell? ⟨w.heap.size, 0, none⟩ = some (.int .i64 d.f.id) := B2.cell 0
  have b1 : w2.cell? ⟨w.heap.size, 1, none⟩ = some (.int .i64 d.f.ver) := B2.cell 1
  have b2 : w2.cell? ⟨w.heap.size, 2, none⟩ = some (.int .i64 d.f.p.r) := B2.cell 2
  have b3 : w2.cell? ⟨w.heap.size, 3, none⟩ = some (.int .i64 d.f.p.w) := B2.cell 3
  have b4 : w2.cell? ⟨w.heap.size, 4, none⟩ = some (.int .i64 d.f.p.l) := B2.cell 4
  have b5 : w2.cell? ⟨w.heap.size, 5, none⟩ = some (.int .i64 d.f.p.b) := B2.cell 5
  have b6 : w2.cell? ⟨w.heap.size, 6, none⟩ = some (.int .i64 d.f.c.r) := B2.cell 6
  have b7 : w2.cell? ⟨w.heap.size, 7, none⟩ = some (.int .i64 d.f.c.p) := B2.cell 7
  have b8 : w2.cell? ⟨w.heap.size, 8, none⟩ = some (.int .i64 d.f.c.l) := B2.cell 8
  have b9 : w2.cell? ⟨w.heap.size, 9, none⟩ = some (.slice d.A d.f.q.length d.c) := B2.cell 9
  have hil : i * 10 + 9 < (dlCells D).length := by rw [dlCells_length]; omega
  obtain ⟨v0, k0⟩ : ∃ v, w2.cell? ⟨g, o + i * 10, none⟩ = some v := ⟨_, by rw [show o + i * 10 = o + (i * 10) from rfl]; exact hcell (i * 10) _ (List.getElem?_eq_getElem (by omega))⟩
  obtain ⟨v1, k1⟩ : ∃ v, w2.cell? ⟨g, o + i * 10 + 1, none⟩ = some v := ⟨_, by rw [Nat.add_assoc]; exact hcell (i * 10 + 1) _ (List.getElem?_eq_getElem (by omega))⟩
  obtain ⟨v2, k2⟩ : ∃ v, w2.cell? ⟨g, o + i * 10 + 2, none⟩ = some v := ⟨_, by rw [Nat.add_assoc]; exact hcell (i * 10 + 2) _ (List.getElem?_eq_getElem (by omega))⟩
  obtain ⟨v3, k3⟩ : ∃ v, w2.cell? ⟨g, o + i * 10 + 3, none⟩ = some v := ⟨_, by rw [Nat.add_assoc]; exact hcell (i * 10 + 3) _ (List.getElem?_eq_getElem (by omega))⟩
  obtain ⟨v4, k4⟩ : ∃ v, w2.cell? ⟨g, o + i * 10 + 4, none⟩ = some v := ⟨_, by rw [Nat.add_assoc]; exact hcell (i * 10 + 4) _ (List.getElem?_eq_getElem (by omega))⟩
  obtain ⟨v5, k5⟩ : ∃ v, w2.cell? ⟨g, o + i * 10 + 5, none⟩ = some v := ⟨_, by rw [Nat.add_assoc]; exact hcell (i * 10 + 5) _ (List.getElem?_eq_getElem (by omega))⟩
  obtain ⟨v6, k6⟩ : ∃ v, w2.cell? ⟨g, o + i * 10 + 6, none⟩ = some v := ⟨_, by rw [Nat.add_assoc]; exact hcell (i * 10 + 6) _ (List.getElem?_eq_getElem (by omega))⟩
  obtain ⟨v7, k7⟩ : ∃ v, w2.cell? ⟨g, o + i * 10 + 7, none⟩ = some v := ⟨_, by rw [Nat.add_assoc]; exact hcell (i * 10 + 7) _ (List.getElem?_eq_getElem (by omega))⟩
  obtain ⟨v8, k8⟩ : ∃ v, w2.cell? ⟨g, o + i * 10 + 8, none⟩ = some v := ⟨_, by rw [Nat.add_assoc]; exact hcell (i * 10 + 8) _ (List.getElem?_eq_getElem (by omega))⟩
  obtain ⟨v9, k9⟩ : ∃ v, w2.cell? ⟨g, o + i * 10 + 9, none⟩ = some v := ⟨_, by rw [Nat.add_assoc]; exact hcell (i * 10 + 9) _ (List.getElem?_eq_getElem (by omega))⟩
  have y0 := q2.frozen (o + (i * 10))
  have y1 := q2.frozen (o + (i * 10 + 1))
  have y2 := q2.frozen (o + (i * 10 + 2))
  have y3 := q2.frozen (o + (i * 10 + 3))
  have y4 := q2.frozen (o + (i * 10 + 4))
  have y5 := q2.frozen (o + (i * 10 + 5))
  have y6 := q2.frozen (o + (i * 10 + 6))
  have y7 := q2.frozen (o + (i * 10 + 7))
  have y8 := q2.frozen (o + (i * 10 + 8))
  have y9 := q2.frozen (o + (i * 10 + 9))
  rw [← Nat.add_assoc] at y1 y2 y3 y4 y5 y6 y7 y8 y9
  have i1 : (i : Int) < n := by omega
  have Q2 := hide q2
  have hB2 : Below w.heap.size w w2 := Chg.onto HB2.out (by have := HS1.out; simp; omega) ch2 (fun z hz => by
    have : z = w.heap.size + 1 := by simpa [Value.ownBlock] using hz
    omega)
  have hle : ∀ q, w.heap.size ≤ (⟨g, q, none⟩ : Addr).block := fun q => Nat.le_of_lt hg
  have HFIN := hide ((((((((((hB2.setCell (hle (o + i * 10)) (.int .i64 d.f.id)).setCell (hle (o + i * 10 + 1)) (.int .i64 d.f.ver)).setCell (hle (o + i * 10 + 2)) (.int .i64 d.f.p.r)).setCell (hle (o + i * 10 + 3)) (.int .i64 d.f.p.w)).setCell (hle (o + i * 10 + 4)) (.int .i64 d.f.p.l)).setCell (hle (o + i * 10 + 5)) (.int .i64 d.f.p.b)).setCell (hle (o + i * 10 + 6)) (.int .i64 d.f.c.r)).setCell (hle (o + i * 10 + 7)) (.int .i64 d.f.c.p)).setCell (hle (o + i * 10 + 8)) (.int .i64 d.f.c.l)).setCell (hle (o + i * 10 + 9)) (.slice d.A d.f.q.length d.c))
  clear q2 ch2 or2 hcell B2 hil hn hB2 hle
  go_wp2
  go_ret
  refine ⟨_, rfl, _, _, g :: G, rfl, by rw [List.length_set]; exact HN.out, ⟨?_, fun z hz => ?_, fun x hx => ?_, fun z hz => ?_⟩, fun z hz => ?_, ?_⟩
  · rw [List.length_set, HN.out]
    exact Q2.out.put10 (by rw [HN.out]; exact hi) d
  · have : g = z := by simpa [Value.ownBlock] using hz
    rw [← this]; exact List.mem_cons_self ..
  · have hr : Qr w G x := by
      rcases List.mem_or_eq_of_mem_set hx with h | h
      · exact HDOC.out.q x h
      · rw [h]; exact HQR.out
    exact ⟨(hr.1.below HFIN.out).more HFIN.out.size, hr.2.1, fun b o e => List.mem_cons_of_mem _ (hr.2.2 b o e)⟩
  · rcases List.mem_cons.1 hz with rfl | hz
    · simp only [World.setCell, Array.size_modify]
      exact hgb
    · exact Nat.lt_of_lt_of_le (HDOC.out.lt z hz) HFIN.out.size
  · rcases List.mem_cons.1 hz with rfl | hz
    · exact Or.inr (by omega)
    · exact Or.inl hz
  · exact HFIN.out
end Go.Proofs.Ytjdkafamaoeifaa
