/- One text of: No. -/
import Derived.Test.YteppdlkmjgladaaGreatQNn
namespace Go.Proofs.YteppdlkmjgladaaGreat
open Go.RowKit Go.Proofs Go.Maps
set_option linter.unusedVariables false
set_option linter.unusedSimpArgs false
theorem zA30 {α : Type} (l : List α) (i : Nat) (a : α) : l.toArray.setIfInBounds i a = (l.set i a).toArray := by simp
theorem zB30 {α : Type} (x a : α) (l : List α) : (x :: l).set 0 a = a :: l := rfl
theorem zC30 {α : Type} (x a : α) (l : List α) (n : Nat) : (x :: l).set (n + 1) a = x :: l.set n a := rfl

structure Ap where
 i : Int
 e : Ent
def Ap.cells (x : Ap) : List Value := [.int .i64 x.i, .int .i64 x.e.t, .int .i64 x.e.k, .slice x.e.A x.e.b.length x.e.c]
def apCells (X : List Ap) : List Value := X.flatMap Ap.cells
def Ap.con (x : Ap) : Int × Con := (x.i, x.e.con)
theorem Tryz.infoAp : (Tryz.prog.info? 75).map (fun i => (i.zero, i.size, i.bytes)) = some (some (.agg #[.int .i64 0, .int .i64 0, .int .i64 0, .slice none 0 0]), 4, 48) := by kernel_rfl
def ApT (w w' : World) (A : Option Addr) (c : Nat) (X : List Ap) : Prop := w'.ownsRow 0 75 4 (.slice A X.length c) X.length (apCells X) ∧ (∀ x ∈ X, EntOk w' x.e) ∧ ∀ g, A.map Addr.block = some g → w.heap.size ≤ g
def Nd.tell (N : Nd) (k : Int) : Nd := { N with told := k }
theorem VltM.not {w : World} {v d x : Nat} {F : List Nat} {V : Vlt} {t : TypeId} {cs : List Value} (h : VltM w v d F V) (hb : Blk w x t cs) (h1 : t ≠ 83) (h2 : t ≠ 190) (h3 : t ≠ 232) (h4 : t ≠ 79) (h5 : t ≠ 179) (h6 : t ≠ 181) : x ∉ F := by
 obtain ⟨jp, mb, Fj, Fd, k1, ⟨X, k2, _⟩, k3, k4, rfl⟩ := h.ex
 intro hx
 simp only [List.mem_cons, List.mem_append] at hx
 rcases hx with rfl | rfl | hx | hx
 ·exact h1 (hb.one k1).2
 ·exact k2.gm.noBlk hb
 ·rcases k3 with ⟨j, _, k3⟩ | ⟨_, rfl⟩
  ·exact k3.ne hb h2 h3 hx
  ·cases hx
 ·exact k4.ne hb h4 h5 h6 hx
theorem NP.row {w w' : World} {nb : Nat} {p : Pl} {Fl Fv : List Nat} {N : Nd} {G : List Nat} (h : NP w nb p Fl Fv N) (hc : Chg G w w') (hG : ∀ z ∈ G, ∃ cs, Blk w z 75 cs) : NP w' nb p Fl Fv N := by
 have hh : HardL w G := fun z hz => by obtain ⟨cs, hb⟩ := hG z hz; exact hb.hard (by decide) (by decide)
 have hblk : ∀ {x : Nat} {t : TypeId} {cs : List Value}, Blk w x t cs → t ≠ 75 → x ∉ G := fun hb ht hx => by
  obtain ⟨cs', hb'⟩ := hG _ hx
  exact ht (hb.one hb').2
 have him : ∀ {x n : Nat} {f : Int → Option Int}, IM w x n f → x ∉ G := fun hi hx => by
  obtain ⟨cs', hb'⟩ := hG _ hx
  obtain ⟨D, ⟨es, clock, hb, _⟩, _⟩ := hi
  have := hb'.symm.trans hb
  simp at this
 refine ⟨h.blk.chg hc (hblk h.blk (by decide)), ?_, ?_, h.sm.chg hc hh, h.vo.chg hc hh, h.nx.chg hc (him h.nx), h.mx.chg hc (him h.mx), h.sep⟩
 ·refine h.vlt.chg hc (fun x hx hx' => ?_) hh.nob
  obtain ⟨cs', hb'⟩ := hG _ hx'
  exact h.vlt.not hb' (by decide) (by decide) (by decide) (by decide) (by decide) (by decide) hx
 ·refine h.log.keep hc (fun x hx hx' => ?_) (fun x hx => (hh x hx).notByte)
  obtain ⟨cs', hb'⟩ := hG _ hx'
  obtain ⟨A, cap, es, hl, _, rfl⟩ := h.log
  unfold foot at hx
  rcases List.mem_cons.1 hx with rfl | hx
  ·exact absurd (hb'.one hl.blk).2 (by decide)
  ·exact absurd (own_typed hl.own (by simpa using hx) hb') (by decide)
section
variable {w w' : World} {nb : Nat} {p : Pl} {Fl Fv : List Nat} {N : Nd}
set_option maxHeartbeats 4000000 in
set_option maxRecDepth 100000 in
theorem napplied_calls (h : NP w nb p Fl Fv N) (hf : FewC N.L) (hl : N.L.length ≤ 1000) {tn cn : Nat} (ht : N.told = tn) (hc : N.commit = cn) (htc : tn ≤ cn) (hcl : cn ≤ N.L.length) :
  Calls Tryz.prog 17 #[.pointer (some ⟨nb, 0, none⟩)] w fun e w' => ∃ A c X, e = .returned (.slice A X.length c) ∧ ApT w w' A c X ∧ X.length = cn - tn ∧ (∀ j (hj : j < X.length), ∃ hL : tn + j < N.L.length, X[j].con = (((tn + j + 1 : Nat) : Int), N.L[tn + j])) ∧ NP w' nb p Fl Fv (N.tell cn) ∧ Chg [nb] w w' := by
 have r0 := Below.refl w.heap.size w
 obtain ⟨m, hm⟩ : ∃ m, cn - tn = m := ⟨_, rfl⟩
 rw [hm]
 have h0 : N.tell tn = N := by unfold Nd.tell; rw [← ht]
 have HA0 : Hid (ApT w w none 0 []) := hide ⟨ownsRow_nil _ _ _, by simp, fun g hg => by cases hg⟩
 have HN0 : Hid (NP w nb p Fl Fv (N.tell tn)) := hide (by rw [h0]; exact h)
 have H := hide (And.intro hf (And.intro hl (And.intro hc (And.intro htc (And.intro hcl hm)))))
 have hmn : tn + m = cn := by omega
 have hcn : cn ≤ 1000 := by omega
 clear h hf ht hc h0 hm
 go_enter Tryz.func17, Tryz.ntmps17
 go_wp2
 go_loopw [3, 4, 5, 6, 7, 8, 9, 10, 11, 12, 13, 14, 15, 16, 17, 18, 19, 20, 21, 22, 23, 24, 25, 26, 27, 28, 29, 30, 31, 32, 33, 34, 35, 36, 37, 38, 39, 40, 41, 42, 43, 44, 45] (fun ov _ _ _ _ _ _ _ _ _ _ _ _ _ _ _ _ _ _ _ _ _ _ _ _ _ _ _ _ _ _ _ _ _ _ _ _ _ _ _ _ _ _ wr => ∃ (k : Nat) (X : List Ap) (A : Option Addr) (c : Nat), k ≤ m ∧ ov = .slice A X.length c ∧ Hid (X.length = k ∧ ∀ j (hj : j < X.length), ∃ hL : tn + j < N.L.length, X[j].con = (((tn + j + 1 : Nat) : Int), N.L[tn + j])) ∧ Hid (ApT w wr A c X ∧ NP wr nb p Fl Fv (N.tell ((tn + k : Nat) : Int)) ∧ Chg [nb] w wr)) (fun ov _ _ _ _ _ _ _ _ _ _ _ _ _ _ _ _ _ _ _ _ _ _ _ _ _ _ _ _ _ _ _ _ _ _ _ _ _ _ _ _ _ _ _ => m - (match ov with | .slice _ n _ => n | _ => 0))
 case atStart => exact ⟨0, [], none, 0, Nat.zero_le _, rfl, hide ⟨rfl, fun j hj => absurd hj (by simp)⟩, hide ⟨HA0.out, HN0.out, Chg.refl _ _⟩⟩
 case round =>
  obtain ⟨k, X, A, c, hk, rfl, hX, hO⟩ := hrel
  have rr := Below.refl wr.heap.size wr
  have y11 := hO.out.2.1.blk.rule 11 _ rfl
  have y10 := hO.out.2.1.blk.rule 10 _ rfl
  have hX2 := hX
  obtain ⟨q, hq⟩ : ∃ q, tn + k = q := ⟨_, rfl⟩
  have hO2 := hO.out
  rw [hq] at hO2
  rw [show (N.tell ((tn + k : Nat) : Int)).told = ((tn + k : Nat) : Int) from rfl, hq] at y11
  rw [show (N.tell ((tn + k : Nat) : Int)).commit = (cn : Int) from H.out.2.2.1] at y10
  have y9 := hO2.2.1.blk.rule 9 _ rfl
  have HO := hide hO2
  clear hO hO2 hX2
  by_cases hlt : k < m
  ·have d1 : decide (q < cn) = true := decide_eq_true (by omega)
   obtain ⟨q1, hq1⟩ : ∃ q1, q + 1 = q1 := ⟨_, rfl⟩
   have c1 : IntKind.i64.wrap ((q : Int) + 1) = (q1 : Int) := by rw [IntWalk.i64_in _ (by omega)]; omega
   have hqL : q < N.L.length := by omega
   have HG : Hid (∀ w', Below wr.heap.size wr w' → Calls Tryz.prog 50 #[.pointer (some ⟨p.lb, 0, none⟩), .int .i64 (q1 : Int)] w' fun e w'' => ∃ x : Ent, e = .returned (.tuple #[.agg #[.int .i64 x.t, .int .i64 x.k, .slice x.A x.b.length x.c], .bool true]) ∧ x.con = N.L[q] ∧ EntOk w'' x ∧ Below w'.heap.size w' w'') := hide (fun w' hb => lg_get q (HO.out.2.1.below hb).log hqL H.out.1 (Int.le_refl _) (by omega) (show N.L.length ≤ 1000000 by omega) (by omega))
   go_upto_region 2 with fail
   refine lxR (fun w' => Below wr.heap.size wr w') [] 0 [(2, 0), (2, 1), (2, 2), (0, 3), (2, 4), (2, 5), (2, 6), (0, 7), (2, 8)] #[true, true, true, true, true, true, true, true, true] (by kernel_rfl) (by kernel_rfl) (by decide) (by kernel_rfl) (by kernel_rfl) (fun _ _ _ _ _ h => h) (by (exact rr.drew)) (fun hS0 => ?_)
   simp only [List.map_cons, List.map_nil, List.getElem?_toArray, List.getElem?_cons_succ, List.getElem?_cons_zero]
   (iterate 3 ((apply lxP (by rfl); (focus (intro w; go_simp; (try with_reducible rfl); done)); simp only [Act.put, zA30, zB30, zC30]))); (apply lxT (by rfl); (focus (intro w hw; (try dsimp only at hw); go_simp; (try with_reducible rfl); done)); simp only [Act.put, zA30, zB30, zC30]); (iterate 3 ((apply lxP (by rfl); (focus (intro w; go_simp; (try with_reducible rfl); done)); simp only [Act.put, zA30, zB30, zC30]))); (apply lxT (by rfl); (focus (intro w hw; (try dsimp only at hw); go_simp; (try with_reducible rfl); done)); simp only [Act.put, zA30, zB30, zC30]); (apply lxP (by rfl); (focus (intro w; go_simp; (try with_reducible rfl); done)); simp only [Act.put, zA30, zB30, zC30])
   refine lxN (fun _ => wqD (by kernel_rfl) ?_ _)
   have r3 : Below wr.heap.size wr (wr.alloc (.cells #[.int .i64 0, .int .i64 0, .slice none 0 0] 73)).drew.drew := (belowL rr _).drew.drew
   have HR3 := hide r3
   clear r3
   have bz : Blk (wr.alloc (.cells #[.int .i64 0, .int .i64 0, .slice none 0 0] 73)).drew.drew wr.heap.size 73 [.int .i64 0, .int .i64 0, .slice none 0 0] := (show Blk (wr.alloc (.cells #[.int .i64 0, .int .i64 0, .slice none 0 0] 73)) wr.heap.size 73 [.int .i64 0, .int .i64 0, .slice none 0 0] from Blk.new rfl).drewT.drewT
   go_upto_region 3 with fail
   refine lxR (fun w' => Below wr.heap.size wr w') [14] 7 [(2, 0), (2, 1), (2, 2), (0, 3), (2, 4), (2, 5), (2, 6), (0, 7), (2, 8)] #[true, true, true, true, true, true, true, true, true, false, false, false, false, false, false, false] (by kernel_rfl) (by kernel_rfl) (by decide) (by kernel_rfl) (by kernel_rfl) (fun _ _ _ _ _ h => h) (by (first | exact rr.drew.drew | exact HR3.out | exact hb2' | exact HbW.out)) (fun hS0 => ?_)
   simp only [List.map_cons, List.map_nil, List.getElem?_toArray, List.getElem?_cons_succ, List.getElem?_cons_zero]
   (iterate 3 ((apply lxP (by rfl); (focus (intro w; go_simp; (try with_reducible rfl); done)); simp only [Act.put, zA30, zB30, zC30]))); (apply lxT (by rfl); (focus (intro w hw; (try dsimp only at hw); go_simp; (try with_reducible rfl); done)); simp only [Act.put, zA30, zB30, zC30]); (iterate 3 ((apply lxP (by rfl); (focus (intro w; go_simp; (try with_reducible rfl); done)); simp only [Act.put, zA30, zB30, zC30]))); (apply lxT (by rfl); (focus (intro w hw; (try dsimp only at hw); go_simp; (try with_reducible rfl); done)); simp only [Act.put, zA30, zB30, zC30]); (apply lxP (by rfl); (focus (intro w; go_simp; (try with_reducible rfl); done)); simp only [Act.put, zA30, zB30, zC30])
   refine lxN (fun hS2 => ?_)
   refine lexg_fork2 (i := 9) (j := 13) (by kernel_rfl) (by kernel_rfl : _ = #[true, true, true, true, true, true, true, true, true, true, false, false, false, false, false, false]) (by kernel_rfl : _ = #[true, true, true, true, true, true, true, true, true, false, false, false, false, true, false, false]) ?_ ?_
   focus
    apply lxA (by simp only [List.getElem?_toArray, List.getElem?_cons_succ, List.getElem?_cons_zero]; rfl) (by rfl)
    go_simp
    (first | (go_at_call 50; (with_reducible refine (HG.out _ HR3.out).mono ?_); rintro e w2 ⟨x, rfl, hxc, hxo, hb2⟩; have hb2' := belowA hb2 HR3.out; have HbW := hide hb2'; have b2 := bz.below hb2; have hxW := hxo; have hge := Nat.le_refl wr.heap.size; have s0 := b2.cell 0; have s1 := b2.cell 1; have s2 := b2.cell 2; have t0 := b2.frozen 0; have t1 := b2.frozen 1; have t2 := b2.frozen 2; simp only [List.getElem?_cons_succ, List.getElem?_cons_zero] at s0 s1 s2) | (go_at_call 50; (with_reducible refine (HG.out _ rr.drew.drew).mono ?_); rintro e w2 ⟨x, rfl, hxc, hxo, hb2⟩; have hb2' := belowA hb2 rr.drew.drew; have HbW := hide (belowL hb2' (.cells #[.int .i64 0, .int .i64 0, .slice none 0 0] 73)); have b2 : Blk (w2.alloc (.cells #[.int .i64 0, .int .i64 0, .slice none 0 0] 73)) w2.heap.size 73 [.int .i64 0, .int .i64 0, .slice none 0 0] := Blk.new rfl; have hxW := hxo.below (belowL (Below.refl _ _) (.cells #[.int .i64 0, .int .i64 0, .slice none 0 0] 73)); have hge := hb2'.size; have s0 := b2.cell 0; have s1 := b2.cell 1; have s2 := b2.cell 2; have t0 := b2.frozen 0; have t1 := b2.frozen 1; have t2 := b2.frozen 2; simp only [List.getElem?_cons_succ, List.getElem?_cons_zero] at s0 s1 s2))
    refine lxB (by (first | exact rr.drew.drew | exact HR3.out | exact hb2' | exact HbW.out)) (fun hS1 => ?_)
    refine lxM 0 [(2, 10), (2, 11), (2, 12), (1, 13), (3, 14), (2, 15)] #[true, true, true, true, true, true, true, true, true, true, true, true, true, true, true, true] (by kernel_rfl) (by decide) (by kernel_rfl) (by kernel_rfl) (fun _ _ _ _ _ h => h) (fun _ => by assumption) ?_
    simp only [List.map_cons, List.map_nil, List.getElem?_toArray, List.getElem?_cons_succ, List.getElem?_cons_zero]
    (iterate 3 ((apply lxP (by rfl); (focus (intro w; go_simp; (try with_reducible rfl); done)); simp only [Act.put, zA30, zB30, zC30]))); (refine lxE (by rfl) ?_; go_simp; refine lxB (by (first | exact rr.drew.drew | exact HR3.out | exact hb2' | exact HbW.out)) (fun hS1 => ?_)); (refine lxF (by rfl) ?_; go_simp); (apply lxP (by rfl); (focus (intro w; go_simp; (try with_reducible rfl); done)); simp only [Act.put, zA30, zB30, zC30])
    refine lxN (fun _ => wqD (by kernel_rfl) ?_ _)
   rotate_left
   focus
    apply lxA (by simp only [List.getElem?_toArray, List.getElem?_cons_succ, List.getElem?_cons_zero]; rfl) (by rfl)
    go_simp
    refine lxB (by (first | exact rr.drew.drew | exact HR3.out | exact hb2' | exact HbW.out)) (fun hS1 => ?_)
    refine lxM 0 [(1, 9), (2, 10), (2, 11), (2, 12), (3, 14), (2, 15)] #[true, true, true, true, true, true, true, true, true, true, true, true, true, true, true, true] (by kernel_rfl) (by decide) (by kernel_rfl) (by kernel_rfl) (fun _ _ _ _ _ h => h) (fun _ => by assumption) ?_
    simp only [List.map_cons, List.map_nil, List.getElem?_toArray, List.getElem?_cons_succ, List.getElem?_cons_zero]
    (refine lxE (by rfl) ?_; go_simp; (first | (go_at_call 50; (with_reducible refine (HG.out _ HR3.out).mono ?_); rintro e w2 ⟨x, rfl, hxc, hxo, hb2⟩; have hb2' := belowA hb2 HR3.out; have HbW := hide hb2'; have b2 := bz.below hb2; have hxW := hxo; have hge := Nat.le_refl wr.heap.size; have s0 := b2.cell 0; have s1 := b2.cell 1; have s2 := b2.cell 2; have t0 := b2.frozen 0; have t1 := b2.frozen 1; have t2 := b2.frozen 2; simp only [List.getElem?_cons_succ, List.getElem?_cons_zero] at s0 s1 s2) | (go_at_call 50; (with_reducible refine (HG.out _ rr.drew.drew).mono ?_); rintro e w2 ⟨x, rfl, hxc, hxo, hb2⟩; have hb2' := belowA hb2 rr.drew.drew; have HbW := hide (belowL hb2' (.cells #[.int .i64 0, .int .i64 0, .slice none 0 0] 73)); have b2 : Blk (w2.alloc (.cells #[.int .i64 0, .int .i64 0, .slice none 0 0] 73)) w2.heap.size 73 [.int .i64 0, .int .i64 0, .slice none 0 0] := Blk.new rfl; have hxW := hxo.below (belowL (Below.refl _ _) (.cells #[.int .i64 0, .int .i64 0, .slice none 0 0] 73)); have hge := hb2'.size; have s0 := b2.cell 0; have s1 := b2.cell 1; have s2 := b2.cell 2; have t0 := b2.frozen 0; have t1 := b2.frozen 1; have t2 := b2.frozen 2; simp only [List.getElem?_cons_succ, List.getElem?_cons_zero] at s0 s1 s2)); refine lxB (by (first | exact rr.drew.drew | exact HR3.out | exact hb2' | exact HbW.out)) (fun hS1 => ?_)); (iterate 3 ((apply lxP (by rfl); (focus (intro w; go_simp; (try with_reducible rfl); done)); simp only [Act.put, zA30, zB30, zC30]))); (refine lxF (by rfl) ?_; go_simp); (apply lxP (by rfl); (focus (intro w; go_simp; (try with_reducible rfl); done)); simp only [Act.put, zA30, zB30, zC30])
    refine lxN (fun _ => wqD (by kernel_rfl) ?_ _)
   rotate_left
   focus
    obtain ⟨eb, heb⟩ : ∃ eb, w2.heap.size = eb := ⟨_, rfl⟩
    obtain ⟨w3, hw3⟩ : ∃ w3, w2.alloc (.cells #[.int .i64 x.t, .int .i64 x.k, .slice x.A x.b.length x.c] 73) = w3 := ⟨_, rfl⟩
    have b3 : Blk w3 eb 73 [.int .i64 x.t, .int .i64 x.k, .slice x.A x.b.length x.c] := by rw [← hw3, ← heb]; exact Blk.new rfl
    have hB3 : Below wr.heap.size wr w3 := by rw [← hw3]; exact belowL hb2' _
    have hx3 : EntOk w3 x := by rw [← hw3]; exact hxo.below (belowL (Below.refl _ _) _)
    (try rw [heb])
    rw [hw3]
    have h3 := HO.out.2.1.below hB3
    have q11 := h3.blk.cell 11
    have f11 := h3.blk.frozen 11
    simp only [Nd.cells, List.getElem?_cons_succ, List.getElem?_cons_zero] at q11
    rw [show (N.tell ((q : Nat) : Int)).told = (q : Int) from rfl] at q11
    obtain ⟨w4, hw4⟩ : ∃ w4, w3.setCell ⟨nb, 11, none⟩ (.int .i64 q1) = w4 := ⟨_, rfl⟩
    have c4 : Chg [nb] w3 w4 := by rw [← hw4]; exact (Chg.refl [nb] w3).setCell (p := ⟨nb, 11, none⟩) (Or.inl (by simp)) _
    have b4 := h3.blk.set 11 (.int .i64 q1)
    rw [hw4] at b4
    have h4 := h3.own c4 (dead := N.dead) (bt := N.bt) (bv := N.bv) (commit := N.commit) (told := (q1 : Int)) (role := N.role) (leader := N.leader) (quiet := N.quiet) (beats := N.beats) b4
    have hne : eb ∉ [nb] := fun hx => by
     rw [List.mem_singleton.1 hx] at b3
     exact absurd (b3.one h3.blk).2 (by decide)
    have b34 := b3.chg c4 hne
    have hx4 : EntOk w4 x := hx3.chg c4 (fun z hz => by rw [List.mem_singleton.1 hz]; exact h3.blk.notByte (by decide))
    have hrow4 : w4.ownsRow 0 75 4 (.slice A X.length c) X.length (apCells X) := own_chg (own_chg HO.out.1.1 (Chg.of_below (L := []) hB3) (fun _ _ hx => by cases hx)) c4 (fun g hg hx => by
     rw [owS] at hg
     rw [List.mem_singleton.1 hx] at hg
     exact absurd (own_typed (own_chg HO.out.1.1 (Chg.of_below (L := []) hB3) (fun _ _ hx => by cases hx)) hg h3.blk) (by decide))
    have hents4 : ∀ z ∈ X, EntOk w4 z.e := fun z hz => ((HO.out.1.2.1 z hz).below hB3).chg c4 (fun z hz => by rw [List.mem_singleton.1 hz]; exact h3.blk.notByte (by decide))
    rw [show ({ N.tell (q : Int) with dead := N.dead, bt := N.bt, bv := N.bv, commit := N.commit, told := (q1 : Int), role := N.role, leader := N.leader, quiet := N.quiet, beats := N.beats } : Nd) = N.tell (q1 : Int) from rfl] at h4
    have z11 := h4.blk.rule 11 _ rfl
    rw [show (N.tell (q1 : Int)).told = (q1 : Int) from rfl] at z11
    have z0 := b34.rule 0 _ rfl
    have z1 := b34.rule 1 _ rfl
    have z2 := b34.rule 2 _ rfl
    have r4 := Below.refl w4.heap.size w4
    have hcw4 : Chg [nb] w w4 := ((HO.out.2.2.below hB3).trans c4 (fun z hz => Or.inl hz))
    have H4 := hide (And.intro h4 (And.intro hrow4 (And.intro hents4 (And.intro hx4 (And.intro hcw4 (And.intro (HO.out.1.2.2) hxc))))))
    have HW4 := hide hw4
    clear s0 s1 s2 t0 t1 t2 b2 b3 hw3 HbW hxW hxo hb2 hb2' hB3 hx3 h3 b4 c4 h4 hne b34 hx4 hrow4 hents4 hcw4 hxc heb hge y11 y10 y9 hw4 hS0 HG
    go_upto_region 6 with fail
    rw [HW4.out]
    clear q11 f11
    obtain ⟨iA, hiA, hzA, hsA, hbA⟩ := info_parts Tryz.infoAp
    have hXl : X.length ≤ 1000 := by have := hX.out.1; omega
    have hbl : Below w4.heap.size w4 (w4.alloc (.cells #[.int .i64 (q1 : Int), .int .i64 x.t, .int .i64 x.k, .slice x.A x.b.length x.c] 75)).drew := (belowL r4 _).drew
    have HRW := hide (own_chg H4.out.2.1 (Chg.of_below (L := []) hbl) (fun _ _ hx => by cases hx))
    have bNew : Blk (w4.alloc (.cells #[.int .i64 (q1 : Int), .int .i64 x.t, .int .i64 x.k, .slice x.A x.b.length x.c] 75)) w4.heap.size 75 [.int .i64 (q1 : Int), .int .i64 x.t, .int .i64 x.k, .slice x.A x.b.length x.c] := Blk.new rfl
    have HRD : Hid (Reads (w4.alloc (.cells #[.int .i64 (q1 : Int), .int .i64 x.t, .int .i64 x.k, .slice x.A x.b.length x.c] 75)).drew (w4.heap.size + 1) 4 (some ⟨w4.heap.size, 0, none⟩) 1 [.int .i64 (q1 : Int), .int .i64 x.t, .int .i64 x.k, .slice x.A x.b.length x.c]) := hide ⟨rfl, fun _ => ⟨w4.heap.size, 0, rfl, by omega, fun j u hu => by rw [Nat.zero_add, bNew.drewT.cell j]; exact hu⟩⟩
    have HON : Hid (∀ u ∈ ([.int .i64 (q1 : Int), .int .i64 x.t, .int .i64 x.k, .slice x.A x.b.length x.c] : List Value), u.oneCell' = true) := hide (fun u hu => by (simp only [List.mem_cons, List.not_mem_nil, or_false] at hu; rcases hu with rfl | rfl | rfl | rfl <;> rfl))
    have HBL := hide hbl
    clear hbl bNew
    refine lxR (fun w' => Below w4.heap.size w4 w') [8] 0 [(2, 0), (2, 1), (2, 2), (2, 3), (0, 4), (0, 5), (2, 6), (1, 7), (3, 8), (2, 9)] #[true, true, true, true, true, true, true, true, true, true] (by kernel_rfl) (by kernel_rfl) (by decide) (by kernel_rfl) (by kernel_rfl) (fun _ _ _ _ _ h => h) (by (first | exact r4.drew | exact belowL r4 _ | exact belowL r4.drew _ | exact (belowL r4 _).drew)) (fun hS0 => ?_)
    simp only [List.map_cons, List.map_nil, List.getElem?_toArray, List.getElem?_cons_succ, List.getElem?_cons_zero]
    (iterate 4 ((apply lxP (by rfl); (focus (intro w; go_simp; (try with_reducible rfl); done)); simp only [Act.put, zA30, zB30, zC30]))); (iterate 2 ((apply lxT (by rfl); (focus (intro w hw; (try dsimp only at hw); go_simp; (try with_reducible rfl); done)); simp only [Act.put, zA30, zB30, zC30]))); (apply lxP (by rfl); (focus (intro w; go_simp; (try with_reducible rfl); done)); simp only [Act.put, zA30, zB30, zC30]); (refine lxE (by rfl) ?_; go_simp; refine lxB (by (first | exact r4.drew | exact belowL r4 _ | exact belowL r4.drew _ | exact (belowL r4 _).drew)) (fun hS1 => ?_)); (refine lxF (by rfl) ?_; (refine wp_append_rd _ _ _ 44 rfl 75 iA _ 4 48 Tryz.underlying44 hiA hzA hsA hbA (by kernel_rfl) (by decide) (.slice A X.length c) X.length (apCells X) rfl HRW.out (some ⟨w4.heap.size, 0, none⟩) 1 1 (w4.heap.size + 1) [.int .i64 (q1 : Int), .int .i64 x.t, .int .i64 x.k, .slice x.A x.b.length x.c] rfl HRD.out HON.out (by unfold maxLen; omega) (by omega) ?_; intro v5 w5 ho5 hc5 hg5); simp only [Act.put, zA30, zB30, zC30]); (apply lxP (by rfl); (focus (intro w; go_simp; (try with_reducible rfl); done)); simp only [Act.put, zA30, zB30, zC30])
    refine lxN (fun _ => wqD (by kernel_rfl) ?_ _)
    have hw45 : Below w4.heap.size w4 (w4.alloc (.cells #[.int .i64 (q1 : Int), .int .i64 x.t, .int .i64 x.k, .slice x.A x.b.length x.c] 75)).drew := HBL.out
    obtain ⟨A5, c5, rfl, _⟩ := own_view ho5
    rw [owS] at hc5
    have hfr5 : ∀ g, A5.map Addr.block = some g → w.heap.size ≤ g := fun g hg => by
     rcases hg5 g (by rw [owS]; exact hg) with h | h
     ·rw [owS] at h; exact H4.out.2.2.2.2.2.1 g h
     ·rw [h]; exact Nat.le_trans H4.out.2.2.2.2.1.size hw45.size
    have hrn : ∀ z ∈ (A.map Addr.block).toList, ¬ ByteBlk w4 z ∧ z ≠ nb ∧ z < w4.heap.size := fun z hz => by
     have hz' : A.map Addr.block = some z := by simpa using hz
     obtain ⟨cs, hcs⟩ := own_blk H4.out.2.1 hz'
     exact ⟨hcs.notByte (by decide), fun e => by rw [e] at hcs; exact absurd (hcs.one H4.out.1.blk).2 (by decide), hcs.lt⟩
    have hcA : Chg (A.map Addr.block).toList w4 w5 := (Chg.of_below hw45).trans hc5 (fun z hz => Or.inl hz)
    have hH5 : HardL w4 (A.map Addr.block).toList := fun z hz => by
     have hz' : A.map Addr.block = some z := by simpa using hz
     obtain ⟨cs, hcs⟩ := own_blk H4.out.2.1 hz'
     exact hcs.hard (by decide) (by decide)
    have h5 := H4.out.1.row hcA (fun z hz => by
     have hz' : A.map Addr.block = some z := by simpa using hz
     obtain ⟨cs, hcs⟩ := own_blk H4.out.2.1 hz'
     exact ⟨_, hcs⟩)
    have hcw5 : Chg [nb] w w5 := H4.out.2.2.2.2.1.trans hcA (fun z hz => by
     have hz' : A.map Addr.block = some z := by simpa using hz
     exact Or.inr (H4.out.2.2.2.2.2.1 z hz'))
    have hents5 : ∀ z ∈ X ++ [⟨(q1 : Int), x⟩], EntOk w5 z.e := fun z hz => by
     rcases List.mem_append.1 hz with hz | hz
     ·exact (H4.out.2.2.1 z hz).chg hcA (fun y hy => (hrn y hy).1)
     ·rw [List.mem_singleton.1 hz]; exact H4.out.2.2.2.1.chg hcA (fun y hy => (hrn y hy).1)
    have hap5 : ApT w w5 A5 c5 (X ++ [⟨(q1 : Int), x⟩]) := ⟨by
     rw [List.length_append, List.length_singleton, show apCells (X ++ [⟨(q1 : Int), x⟩]) = apCells X ++ [.int .i64 (q1 : Int), .int .i64 x.t, .int .i64 x.k, .slice x.A x.b.length x.c] by simp [apCells, Ap.cells]]
     exact ho5, hents5, hfr5⟩
    have hX5 : (X ++ [(⟨(q1 : Int), x⟩ : Ap)]).length = k + 1 ∧ ∀ j (hj : j < (X ++ [(⟨(q1 : Int), x⟩ : Ap)]).length), ∃ hL : tn + j < N.L.length, (X ++ [(⟨(q1 : Int), x⟩ : Ap)])[j].con = (((tn + j + 1 : Nat) : Int), N.L[tn + j]) := by
     refine ⟨by rw [List.length_append, List.length_singleton, hX.out.1], fun j hj => ?_⟩
     rw [List.length_append, List.length_singleton] at hj
     rcases Nat.lt_or_ge j X.length with hjl | hjl
     ·obtain ⟨hL, he⟩ := hX.out.2 j hjl
      exact ⟨hL, by rw [List.getElem_append_left hjl]; exact he⟩
     ·have hjk : j = X.length := by omega
      subst hjk
      have htj : tn + X.length = q := by rw [hX.out.1]; exact hq
      refine ⟨by omega, ?_⟩
      rw [List.getElem_append_right (Nat.le_refl _)]
      simp only [Nat.sub_self, List.getElem_cons_zero, Ap.con, H4.out.2.2.2.2.2.2, htj]
      rw [hq1]
    have h5' : NP w5 nb p Fl Fv (N.tell ((tn + (k + 1) : Nat) : Int)) := by rw [show tn + (k + 1) = q1 by omega]; exact h5
    have H5 := hide (And.intro hX5 (And.intro hap5 (And.intro h5' hcw5)))
    clear hw45 ho5 hc5 hg5 hfr5 hrn hcA hH5 h5 hcw5 hents5 hap5 hX5 h5' z11 z0 z1 z2 hS0 hS1 HRW HRD HON HBL
    go_wp2
    go_roundw
    case rel => exact ⟨k + 1, X ++ [⟨(q1 : Int), x⟩], A5, c5, by omega, by first | rfl | simp, hide H5.out.1, hide H5.out.2⟩
    case measure => simp; have := hX.out.1; omega
   focus
    obtain ⟨eb, heb⟩ : ∃ eb, wr.heap.size = eb := ⟨_, rfl⟩
    rw [heb] at b2
    (try rw [heb])
    have hge := Nat.le_of_eq heb
    have hbW := HbW.out
    obtain ⟨w3, hw3⟩ : ∃ w3, ((w2.setCell ⟨eb, 0, none⟩ (.int .i64 x.t)).setCell ⟨eb, 1, none⟩ (.int .i64 x.k)).setCell ⟨eb, 2, none⟩ (.slice x.A x.b.length x.c) = w3 := ⟨_, rfl⟩
    have b3 := ((b2.set 0 (.int .i64 x.t)).set 1 (.int .i64 x.k)).set 2 (.slice x.A x.b.length x.c)
    have c3 : Chg [eb] w2 w3 := by rw [← hw3]; exact (((Chg.refl [eb] w2).setCell (p := ⟨eb, 0, none⟩) (Or.inl (by simp)) _).setCell (p := ⟨eb, 1, none⟩) (Or.inl (by simp)) _).setCell (p := ⟨eb, 2, none⟩) (Or.inl (by simp)) _
    rw [hw3] at b3
    rw [hw3]
    have hB3 := Chg.onto hbW hbW.size c3 (fun z hz => by rw [List.mem_singleton.1 hz]; exact hge)
    have hx3 : EntOk w3 x := hxW.chg c3 (fun z hz => by rw [List.mem_singleton.1 hz]; exact b2.notByte (by decide))
    clear c3 hbW
    have h3 := HO.out.2.1.below hB3
    have q11 := h3.blk.cell 11
    have f11 := h3.blk.frozen 11
    simp only [Nd.cells, List.getElem?_cons_succ, List.getElem?_cons_zero] at q11
    rw [show (N.tell ((q : Nat) : Int)).told = (q : Int) from rfl] at q11
    obtain ⟨w4, hw4⟩ : ∃ w4, w3.setCell ⟨nb, 11, none⟩ (.int .i64 q1) = w4 := ⟨_, rfl⟩
    have c4 : Chg [nb] w3 w4 := by rw [← hw4]; exact (Chg.refl [nb] w3).setCell (p := ⟨nb, 11, none⟩) (Or.inl (by simp)) _
    have b4 := h3.blk.set 11 (.int .i64 q1)
    rw [hw4] at b4
    have h4 := h3.own c4 (dead := N.dead) (bt := N.bt) (bv := N.bv) (commit := N.commit) (told := (q1 : Int)) (role := N.role) (leader := N.leader) (quiet := N.quiet) (beats := N.beats) b4
    have hne : eb ∉ [nb] := fun hx => by
     rw [List.mem_singleton.1 hx] at b3
     exact absurd (b3.one h3.blk).2 (by decide)
    have b34 := b3.chg c4 hne
    have hx4 : EntOk w4 x := hx3.chg c4 (fun z hz => by rw [List.mem_singleton.1 hz]; exact h3.blk.notByte (by decide))
    have hrow4 : w4.ownsRow 0 75 4 (.slice A X.length c) X.length (apCells X) := own_chg (own_chg HO.out.1.1 (Chg.of_below (L := []) hB3) (fun _ _ hx => by cases hx)) c4 (fun g hg hx => by
     rw [owS] at hg
     rw [List.mem_singleton.1 hx] at hg
     exact absurd (own_typed (own_chg HO.out.1.1 (Chg.of_below (L := []) hB3) (fun _ _ hx => by cases hx)) hg h3.blk) (by decide))
    have hents4 : ∀ z ∈ X, EntOk w4 z.e := fun z hz => ((HO.out.1.2.1 z hz).below hB3).chg c4 (fun z hz => by rw [List.mem_singleton.1 hz]; exact h3.blk.notByte (by decide))
    rw [show ({ N.tell (q : Int) with dead := N.dead, bt := N.bt, bv := N.bv, commit := N.commit, told := (q1 : Int), role := N.role, leader := N.leader, quiet := N.quiet, beats := N.beats } : Nd) = N.tell (q1 : Int) from rfl] at h4
    have z11 := h4.blk.rule 11 _ rfl
    rw [show (N.tell (q1 : Int)).told = (q1 : Int) from rfl] at z11
    have z0 := b34.rule 0 _ rfl
    have z1 := b34.rule 1 _ rfl
    have z2 := b34.rule 2 _ rfl
    have r4 := Below.refl w4.heap.size w4
    have hcw4 : Chg [nb] w w4 := ((HO.out.2.2.below hB3).trans c4 (fun z hz => Or.inl hz))
    have H4 := hide (And.intro h4 (And.intro hrow4 (And.intro hents4 (And.intro hx4 (And.intro hcw4 (And.intro (HO.out.1.2.2) hxc))))))
    have HW4 := hide hw4
    clear s0 s1 s2 t0 t1 t2 b2 b3 hw3 HbW hxW hxo hb2 hb2' hB3 hx3 h3 b4 c4 h4 hne b34 hx4 hrow4 hents4 hcw4 hxc heb hge y11 y10 y9 hw4 hS0 HG
    go_upto_region 6 with fail
    rw [HW4.out]
    clear q11 f11
    obtain ⟨iA, hiA, hzA, hsA, hbA⟩ := info_parts Tryz.infoAp
    have hXl : X.length ≤ 1000 := by have := hX.out.1; omega
    have hbl : Below w4.heap.size w4 (w4.alloc (.cells #[.int .i64 (q1 : Int), .int .i64 x.t, .int .i64 x.k, .slice x.A x.b.length x.c] 75)).drew := (belowL r4 _).drew
    have HRW := hide (own_chg H4.out.2.1 (Chg.of_below (L := []) hbl) (fun _ _ hx => by cases hx))
    have bNew : Blk (w4.alloc (.cells #[.int .i64 (q1 : Int), .int .i64 x.t, .int .i64 x.k, .slice x.A x.b.length x.c] 75)) w4.heap.size 75 [.int .i64 (q1 : Int), .int .i64 x.t, .int .i64 x.k, .slice x.A x.b.length x.c] := Blk.new rfl
    have HRD : Hid (Reads (w4.alloc (.cells #[.int .i64 (q1 : Int), .int .i64 x.t, .int .i64 x.k, .slice x.A x.b.length x.c] 75)).drew (w4.heap.size + 1) 4 (some ⟨w4.heap.size, 0, none⟩) 1 [.int .i64 (q1 : Int), .int .i64 x.t, .int .i64 x.k, .slice x.A x.b.length x.c]) := hide ⟨rfl, fun _ => ⟨w4.heap.size, 0, rfl, by omega, fun j u hu => by rw [Nat.zero_add, bNew.drewT.cell j]; exact hu⟩⟩
    have HON : Hid (∀ u ∈ ([.int .i64 (q1 : Int), .int .i64 x.t, .int .i64 x.k, .slice x.A x.b.length x.c] : List Value), u.oneCell' = true) := hide (fun u hu => by (simp only [List.mem_cons, List.not_mem_nil, or_false] at hu; rcases hu with rfl | rfl | rfl | rfl <;> rfl))
    have HBL := hide hbl
    clear hbl bNew
    refine lxR (fun w' => Below w4.heap.size w4 w') [8] 0 [(2, 0), (2, 1), (2, 2), (2, 3), (0, 4), (0, 5), (2, 6), (1, 7), (3, 8), (2, 9)] #[true, true, true, true, true, true, true, true, true, true] (by kernel_rfl) (by kernel_rfl) (by decide) (by kernel_rfl) (by kernel_rfl) (fun _ _ _ _ _ h => h) (by (first | exact r4.drew | exact belowL r4 _ | exact belowL r4.drew _ | exact (belowL r4 _).drew)) (fun hS0 => ?_)
    simp only [List.map_cons, List.map_nil, List.getElem?_toArray, List.getElem?_cons_succ, List.getElem?_cons_zero]
    (iterate 4 ((apply lxP (by rfl); (focus (intro w; go_simp; (try with_reducible rfl); done)); simp only [Act.put, zA30, zB30, zC30]))); (iterate 2 ((apply lxT (by rfl); (focus (intro w hw; (try dsimp only at hw); go_simp; (try with_reducible rfl); done)); simp only [Act.put, zA30, zB30, zC30]))); (apply lxP (by rfl); (focus (intro w; go_simp; (try with_reducible rfl); done)); simp only [Act.put, zA30, zB30, zC30]); (refine lxE (by rfl) ?_; go_simp; refine lxB (by (first | exact r4.drew | exact belowL r4 _ | exact belowL r4.drew _ | exact (belowL r4 _).drew)) (fun hS1 => ?_)); (refine lxF (by rfl) ?_; (refine wp_append_rd _ _ _ 44 rfl 75 iA _ 4 48 Tryz.underlying44 hiA hzA hsA hbA (by kernel_rfl) (by decide) (.slice A X.length c) X.length (apCells X) rfl HRW.out (some ⟨w4.heap.size, 0, none⟩) 1 1 (w4.heap.size + 1) [.int .i64 (q1 : Int), .int .i64 x.t, .int .i64 x.k, .slice x.A x.b.length x.c] rfl HRD.out HON.out (by unfold maxLen; omega) (by omega) ?_; intro v5 w5 ho5 hc5 hg5); simp only [Act.put, zA30, zB30, zC30]); (apply lxP (by rfl); (focus (intro w; go_simp; (try with_reducible rfl); done)); simp only [Act.put, zA30, zB30, zC30])
    refine lxN (fun _ => wqD (by kernel_rfl) ?_ _)
    have hw45 : Below w4.heap.size w4 (w4.alloc (.cells #[.int .i64 (q1 : Int), .int .i64 x.t, .int .i64 x.k, .slice x.A x.b.length x.c] 75)).drew := HBL.out
    obtain ⟨A5, c5, rfl, _⟩ := own_view ho5
    rw [owS] at hc5
    have hfr5 : ∀ g, A5.map Addr.block = some g → w.heap.size ≤ g := fun g hg => by
     rcases hg5 g (by rw [owS]; exact hg) with h | h
     ·rw [owS] at h; exact H4.out.2.2.2.2.2.1 g h
     ·rw [h]; exact Nat.le_trans H4.out.2.2.2.2.1.size hw45.size
    have hrn : ∀ z ∈ (A.map Addr.block).toList, ¬ ByteBlk w4 z ∧ z ≠ nb ∧ z < w4.heap.size := fun z hz => by
     have hz' : A.map Addr.block = some z := by simpa using hz
     obtain ⟨cs, hcs⟩ := own_blk H4.out.2.1 hz'
     exact ⟨hcs.notByte (by decide), fun e => by rw [e] at hcs; exact absurd (hcs.one H4.out.1.blk).2 (by decide), hcs.lt⟩
    have hcA : Chg (A.map Addr.block).toList w4 w5 := (Chg.of_below hw45).trans hc5 (fun z hz => Or.inl hz)
    have hH5 : HardL w4 (A.map Addr.block).toList := fun z hz => by
     have hz' : A.map Addr.block = some z := by simpa using hz
     obtain ⟨cs, hcs⟩ := own_blk H4.out.2.1 hz'
     exact hcs.hard (by decide) (by decide)
    have h5 := H4.out.1.row hcA (fun z hz => by
     have hz' : A.map Addr.block = some z := by simpa using hz
     obtain ⟨cs, hcs⟩ := own_blk H4.out.2.1 hz'
     exact ⟨_, hcs⟩)
    have hcw5 : Chg [nb] w w5 := H4.out.2.2.2.2.1.trans hcA (fun z hz => by
     have hz' : A.map Addr.block = some z := by simpa using hz
     exact Or.inr (H4.out.2.2.2.2.2.1 z hz'))
    have hents5 : ∀ z ∈ X ++ [⟨(q1 : Int), x⟩], EntOk w5 z.e := fun z hz => by
     rcases List.mem_append.1 hz with hz | hz
     ·exact (H4.out.2.2.1 z hz).chg hcA (fun y hy => (hrn y hy).1)
     ·rw [List.mem_singleton.1 hz]; exact H4.out.2.2.2.1.chg hcA (fun y hy => (hrn y hy).1)
    have hap5 : ApT w w5 A5 c5 (X ++ [⟨(q1 : Int), x⟩]) := ⟨by
     rw [List.length_append, List.length_singleton, show apCells (X ++ [⟨(q1 : Int), x⟩]) = apCells X ++ [.int .i64 (q1 : Int), .int .i64 x.t, .int .i64 x.k, .slice x.A x.b.length x.c] by simp [apCells, Ap.cells]]
     exact ho5, hents5, hfr5⟩
    have hX5 : (X ++ [(⟨(q1 : Int), x⟩ : Ap)]).length = k + 1 ∧ ∀ j (hj : j < (X ++ [(⟨(q1 : Int), x⟩ : Ap)]).length), ∃ hL : tn + j < N.L.length, (X ++ [(⟨(q1 : Int), x⟩ : Ap)])[j].con = (((tn + j + 1 : Nat) : Int), N.L[tn + j]) := by
     refine ⟨by rw [List.length_append, List.length_singleton, hX.out.1], fun j hj => ?_⟩
     rw [List.length_append, List.length_singleton] at hj
     rcases Nat.lt_or_ge j X.length with hjl | hjl
     ·obtain ⟨hL, he⟩ := hX.out.2 j hjl
      exact ⟨hL, by rw [List.getElem_append_left hjl]; exact he⟩
     ·have hjk : j = X.length := by omega
      subst hjk
      have htj : tn + X.length = q := by rw [hX.out.1]; exact hq
      refine ⟨by omega, ?_⟩
      rw [List.getElem_append_right (Nat.le_refl _)]
      simp only [Nat.sub_self, List.getElem_cons_zero, Ap.con, H4.out.2.2.2.2.2.2, htj]
      rw [hq1]
    have h5' : NP w5 nb p Fl Fv (N.tell ((tn + (k + 1) : Nat) : Int)) := by rw [show tn + (k + 1) = q1 by omega]; exact h5
    have H5 := hide (And.intro hX5 (And.intro hap5 (And.intro h5' hcw5)))
    clear hw45 ho5 hc5 hg5 hfr5 hrn hcA hH5 h5 hcw5 hents5 hap5 hX5 h5' z11 z0 z1 z2 hS0 hS1 HRW HRD HON HBL
    go_wp2
    go_roundw
    case rel => exact ⟨k + 1, X ++ [⟨(q1 : Int), x⟩], A5, c5, by omega, by first | rfl | simp, hide H5.out.1, hide H5.out.2⟩
    case measure => simp; have := hX.out.1; omega
  ·have d1 : decide (q < cn) = false := decide_eq_false (by omega)
   go_upto_region 2 with fail
   refine lxR (fun w' => Below wr.heap.size wr w') [] 0 [(2, 0), (2, 1), (2, 2), (0, 3), (2, 4), (2, 5), (2, 6), (0, 7), (2, 8)] #[true, true, true, true, true, true, true, true, true] (by kernel_rfl) (by kernel_rfl) (by decide) (by kernel_rfl) (by kernel_rfl) (fun _ _ _ _ _ h => h) (by (exact rr.drew)) (fun hS0 => ?_)
   simp only [List.map_cons, List.map_nil, List.getElem?_toArray, List.getElem?_cons_succ, List.getElem?_cons_zero]
   (iterate 3 ((apply lxP (by rfl); (focus (intro w; go_simp; (try with_reducible rfl); done)); simp only [Act.put, zA30, zB30, zC30]))); (apply lxT (by rfl); (focus (intro w hw; (try dsimp only at hw); go_simp; (try with_reducible rfl); done)); simp only [Act.put, zA30, zB30, zC30]); (iterate 3 ((apply lxP (by rfl); (focus (intro w; go_simp; (try with_reducible rfl); done)); simp only [Act.put, zA30, zB30, zC30]))); (apply lxT (by rfl); (focus (intro w hw; (try dsimp only at hw); go_simp; (try with_reducible rfl); done)); simp only [Act.put, zA30, zB30, zC30]); (apply lxP (by rfl); (focus (intro w; go_simp; (try with_reducible rfl); done)); simp only [Act.put, zA30, zB30, zC30])
   refine lxN (fun _ => wqD (by kernel_rfl) ?_ _)
   have hkm : k = m := by omega
   have HF := hide (And.intro ((HO.out.2.1.below rr.drew)) (And.intro (HO.out.2.2.below rr.drew) (And.intro HO.out.1 hkm)))
   clear y9 y10 y11
   go_wp2
   go_ret
   refine ⟨A, c, X, rfl, ⟨own_chg HF.out.2.2.1.1 (Chg.of_below (L := []) rr.drew) (fun _ _ hx => by cases hx), fun z hz => (HF.out.2.2.1.2.1 z hz).below rr.drew, HF.out.2.2.1.2.2⟩, by rw [hX.out.1]; exact hkm, hX.out.2, ?_, HF.out.2.1⟩
   have h9 := HF.out.1
   rw [show q = cn by omega] at h9
   exact h9
end
end Go.Proofs.YteppdlkmjgladaaGreat
