/- One text of: Vm6 Vm7 Vm8 Vm9. -/
import Derived.Test.YtcahcjfgmdpdoaaGreatQVA
set_option maxHeartbeats 4000000
namespace Go.Proofs.YtcahcjfgmdpdoaaGreat
open Go.RowKit Go.Proofs Go.Maps
set_option linter.unusedVariables false
set_option linter.unusedSimpArgs false

theorem pol1_calls (w : World) (no : List Nat) (b m1 m2 m3 : Nat) (S : Vst) (V : List VoM) (C : List CkM) (bs bv : Nat) (k s : Int) (h : VM w no b m1 m2 m3 S V C) (hk : i64ok k)
  (h1 : w.cell? ⟨bs, 0, none⟩ = some (.pointer (some ⟨b, 0, none⟩))) (h2 : w.cell? ⟨bv, 0, none⟩ = some (.int .i64 s)) (l1 : bs < w.heap.size) (l2 : bv < w.heap.size) :
  Calls Tryz.prog 116 #[.int .i64 k, .pointer (some ⟨bs, 0, none⟩), .pointer (some ⟨bv, 0, none⟩)] w fun e w' => e = .returned (.bool (hasAt S.cs k s)) ∧ Below w.heap.size w w' := by
 obtain ⟨y, _, lk, hy, hs1, hs2⟩ := h.lookC hk
 have he : y.k.has s = hasAt S.cs k s := by
  unfold hasAt
  rcases hy with ⟨_, e⟩ | ⟨_, e, rfl⟩
  ·rw [e]
  ·rw [e]; rfl
 have c1 : ∀ w', Below w.heap.size w w' → w'.cell? ⟨bs, 0, none⟩ = some (.pointer (some ⟨b, 0, none⟩)) := fun w' hb => (hb.cell (p := ⟨bs, 0, none⟩) l1).trans h1
 have c2 : ∀ w', Below w.heap.size w w' → w'.cell? ⟨bv, 0, none⟩ = some (.int .i64 s) := fun w' hb => (hb.cell (p := ⟨bv, 0, none⟩) l2).trans h2
 have c3 := h.blk.rule 2 _ rfl; have r0 := Below.refl w.heap.size w; have HH := hide (fun w' hb => vhas_calls y s no w' (hs1.below hb) (hs2.below hb)); obtain ⟨yv, hyv⟩ : ∃ yv, y.val = yv := ⟨_, rfl⟩; rw [hyv] at HH; simp only [hyv] at lk; rw [← he]; clear h h1 h2 hs1 hs2 hyv hy he
 go_enter Tryz.func116, Tryz.ntmps116
 go_wp2_with fail
 refine region_lx (fun w' => Below w.heap.size w w') [] [0, 2, 2, 0, 2, 0, 0, 1, 2] (by (first | exact r0.drew | exact r0.drew.trans (by assumption))) (fun hS0 => ?_)
 (iterate 7 (first | refine lxt ?_ | refine lxp ?_))
 (refine lxe ?_; go_simp; ((go_at_call 109; refine (HH.out _ r0.drew).mono ?_; rintro e w1 ⟨rfl, hb1⟩)); refine lxB (by (first | exact r0.drew | exact r0.drew.trans (by assumption))) (fun hS1 => ?_))
 refine lxp ?_
 refine lxN ?_
 go_wp2; go_ret
 exact ⟨rfl, r0.drew.trans (by assumption)⟩
theorem Rise.map {α β : Type} {f : α → β} {key : β → Int} {L : List α} (h : Rise (fun x => key (f x)) L) : Rise key (L.map f) := List.Pairwise.map f (fun _ _ h => h) h
theorem VM.riseV {w : World} {no : List Nat} {b m1 m2 m3 : Nat} {S : Vst} {V : List VoM} {C : List CkM} (h : VM w no b m1 m2 m3 S V C) : Rise Vo.id S.vs := by rw [← h.eV]; exact Rise.map h.t2.rise
theorem VM.riseC {w : World} {no : List Nat} {b m1 m2 m3 : Nat} {S : Vst} {V : List VoM} {C : List CkM} (h : VM w no b m1 m2 m3 S V C) : Rise Ck.id S.cs := by rw [← h.eC]; exact Rise.map h.t3.rise
theorem VM.okV {w : World} {no : List Nat} {b m1 m2 m3 : Nat} {S : Vst} {V : List VoM} {C : List CkM} (h : VM w no b m1 m2 m3 S V C) : ∀ v ∈ S.vs, i64ok v.id := by
 rw [← h.eV]
 intro v hv
 obtain ⟨x, hx, rfl⟩ := List.mem_map.1 hv
 exact h.t2.ok x hx
theorem VM.row {w : World} {no : List Nat} {b m1 m2 m3 : Nat} {S : Vst} {V : List VoM} {C : List CkM} (h : VM w no b m1 m2 m3 S V C) {k : Nat} (hk : k < S.vs.length) : ∃ y : VoM, y.v = S.vs[k] ∧
  (∀ w', Below w.heap.size w w' → (Instr.lookup 73 (.map (some m2)) (.int .i64 S.vs[k].id) false).run Tryz.prog w' = .ok y.val w') ∧ Sl w no y.A y.c y.v.ch := by
 obtain ⟨y, _, lk, hy, hs⟩ := h.lookV (h.okV _ (List.getElem_mem hk)); have hf := fd_get h.riseV hk
 refine ⟨y, ?_, lk, hs⟩
 rcases hy with ⟨_, e⟩ | ⟨_, e, _⟩
 ·rw [hf] at e
  injection e with e
  exact e.symm
 ·rw [hf] at e
  cases e
def polK (S : Vst) (s : Int) (k : Nat) : List Pol := ((S.vs.take k).filter fun v => v.ch.any fun c => hasAt S.cs c s).map Vo.p
theorem polK_step (S : Vst) (s : Int) (k : Nat) (h : k < S.vs.length) : polK S s (k + 1) = polK S s k ++ (if (S.vs[k].ch.any fun c => hasAt S.cs c s) = true then [S.vs[k].p] else []) := by
 unfold polK; rw [List.take_succ_eq_append_getElem h, List.filter_append, List.map_append]
 congr 1
 rw [List.filter_cons]
 split <;> rfl
theorem polK_le (S : Vst) (s : Int) (k : Nat) : (polK S s k).length ≤ k := by
 unfold polK; rw [List.length_map]
 refine Nat.le_trans (List.length_filter_le _ _) ?_
 rw [List.length_take]; omega
theorem polK_all (S : Vst) (s : Int) : polK S s S.vs.length = S.polOf s := by
 unfold polK Vst.polOf; rw [List.take_length]
theorem polCells_app (a b : List Pol) : polCells (a ++ b) = polCells a ++ polCells b := by simp [polCells]
theorem Tryz.infoPol : (Tryz.prog.info? 33).map (fun i => (i.zero, i.size, i.bytes)) = some (some (.agg #[.int .i64 0, .int .i64 0, .int .i64 0, .int .i64 0]), 4, 32) := by kernel_rfl
theorem policies_calls (w : World) (no : List Nat) (b m1 m2 m3 : Nat) (S : Vst) (V : List VoM) (C : List CkM) (s : Int) (h : VM w no b m1 m2 m3 S V C) (hl : S.vs.length ≤ 1000000) (hch : ∀ v ∈ S.vs, ∀ k ∈ v.ch, i64ok k) :
  Calls Tryz.prog 69 #[.pointer (some ⟨b, 0, none⟩), .int .i64 s] w fun e w' => ∃ A c, e = .returned (.slice A (S.polOf s).length c) ∧ w'.ownsRow 0 33 4 (.slice A (S.polOf s).length c) (S.polOf s).length (polCells (S.polOf s)) ∧
   (∀ g, A.map Addr.block = some g → w.heap.size ≤ g) ∧ Below w.heap.size w w' := by
 obtain ⟨i0, hi, hz0, hz1, hz2⟩ := info_parts Tryz.infoPol; obtain ⟨w0, hw0⟩ : ∃ w0, (w.alloc (.cells #[.pointer (some ⟨b, 0, none⟩)] 36)).alloc (.cells #[.int .i64 s] 3) = w0 := ⟨_, rfl⟩
 have hb0 : Below w.heap.size w w0 := hw0 ▸ ((Below.refl w.heap.size w).alloc (Nat.le_refl _) _).alloc (by simp) _
 have d1 : Blk w0 w.heap.size 36 [.pointer (some ⟨b, 0, none⟩)] := hw0 ▸ (Blk.new rfl).alloc _
 have d2 : Blk w0 (w.heap.size + 1) 3 [.int .i64 s] := hw0 ▸ Blk.new (by simp)
 have hV := hide (volumes_calls w0 no b m1 m2 m3 S V C (h.below hb0) hl); have H0 := hide (h.below hb0); have k1 : w0.cell? ⟨w.heap.size, 0, none⟩ = some (.pointer (some ⟨b, 0, none⟩)) := d1.cell 0; have D := hd2 d1 d2; clear h d1 d2
 go_enter Tryz.func69, Tryz.ntmps69
 go_wp2_with fail; refine hV.out.mono ?_; rintro e w1 ⟨A, c, rfl, ho, hb1⟩; have H1 := hide (H0.out.below hb1); have D1 := hd2 (D.out.1.below hb1) (D.out.2.below hb1); have HB := hide (hb0.trans (hb1.mono hb0.size)); obtain ⟨A', c', e', _, _, _, _, hrd⟩ := own_view ho.1
 cases e'
 have hr := hide (hrd w1.heap.size (fun g hg => own_lt ho.1 hg)); clear hw0 hb0 k1 hV H0 D ho hb1 hrd; go_wp2_with fail
 go_loopw [5, 7, 8, 12] (fun v _ _ i wr => ∃ (k : Nat) (A2 : Option Addr) (c2 : Nat), k ≤ S.vs.length ∧ i = .int .i64 k ∧ v = .slice A2 (polK S s k).length c2 ∧ wr.ownsRow 0 33 4 v (polK S s k).length (polCells (polK S s k)) ∧ (∀ g, A2.map Addr.block = some g → w1.heap.size ≤ g) ∧ Below w1.heap.size w1 wr) (fun _ _ _ i _ => S.vs.length - (intOf i).toNat)
 case atStart => exact ⟨0, none, 0, Nat.zero_le _, rfl, rfl, World.ownsRow_nil _ _ _ _, (fun g hg => by cases hg), Below.refl _ _⟩
 case round =>
  obtain ⟨k, A2, c2, hk, rfl, rfl, hown, hgb, hb⟩ := hrel
  by_cases hlt : k < S.vs.length
  ·obtain ⟨y, hyv, lk, hsl⟩ := H1.out.row hlt
   have hvk := hch _ (List.getElem_mem hlt); have hstep := polK_step S s k hlt; have hle := polK_le S s k; obtain ⟨bA, oA, rfl, hbA, hcell⟩ := hr.out.at_ (by simp; omega); have g0 : wr.cell? ⟨bA, oA + k, none⟩ = some (.int .i64 S.vs[k].id) := (hb.cell (p := ⟨bA, oA + k, none⟩) hbA).trans (hcell k _ (by simp [hlt])); have l1 := lk wr hb
   have i1 : (k : Int) < S.vs.length := by omega
   have HRE := hide hr.out; obtain ⟨x, hx⟩ : ∃ x, S.vs[k] = x := ⟨_, rfl⟩; simp only [hx] at g0 l1 hyv hvk hstep; obtain ⟨⟨id, bl, ⟨pr, pw, pl, pb⟩, ver, ch⟩, A3, c3⟩ := y; simp only [] at hyv hsl; clear lk hcell hr; have HX := hide hx; clear hx; subst hyv; have k1 : wr.cell? ⟨w.heap.size, 0, none⟩ = some (.pointer (some ⟨b, 0, none⟩)) := (D1.out.1.below hb).cell 0; have c1 : wr.cell? ⟨b, 1, none⟩ = some (.map (some m2)) := (H1.out.below hb).cell 1; have HB1 := hide hb; have HSL := hide hsl; have HVK := hide hvk; have HST := hide hstep; have HOW := hide hown; have HGB := hide hgb; clear hb hsl hvk hstep hown hgb; unfold VoM.val VoM.cells at l1; simp only [] at l1; go_wp2_with fail; have B3 := hide (Blk.new (w := wr) (b := wr.heap.size) (cs := [.int .i64 id, .int .i64 bl, .int .i64 pr, .int .i64 pw, .int .i64 pl, .int .i64 pb, .int .i64 ver, .slice A3 ch.length c3]) (t := 46) rfl); have q3 : Below wr.heap.size wr (wr.alloc (.cells #[.int .i64 id, .int .i64 bl, .int .i64 pr, .int .i64 pw, .int .i64 pl, .int .i64 pb, .int .i64 ver, .slice A3 ch.length c3] 46)) := (Below.refl _ _).alloc (Nat.le_refl _) _; have q4 := HB1.out.trans (q3.mono HB1.out.size); obtain ⟨w4, hw4⟩ : ∃ w4, wr.alloc (.cells #[.int .i64 id, .int .i64 bl, .int .i64 pr, .int .i64 pw, .int .i64 pl, .int .i64 pb, .int .i64 ver, .slice A3 ch.length c3] 46) = w4 := ⟨_, rfl⟩
   have B4 : Hid (Blk w4 wr.heap.size 46 [.int .i64 id, .int .i64 bl, .int .i64 pr, .int .i64 pw, .int .i64 pl, .int .i64 pb, .int .i64 ver, .slice A3 ch.length c3]) := hw4 ▸ B3
   rw [hw4] at q3 q4; rw [hw4]; have hlB : w.heap.size < w1.heap.size := D1.out.1.lt; have hlB2 : w.heap.size + 1 < w1.heap.size := D1.out.2.lt; have hl4 := q4.size
   refine (containsF_calls A3 _ c3 ch 116 #[.pointer (some ⟨w.heap.size, 0, none⟩), .pointer (some ⟨w.heap.size + 1, 0, none⟩)] (fun c => hasAt S.cs c s) w4 (enters_of Tryz.func116 (by kernel_rfl) rfl) rfl (by have := HSL.out.ln; omega) (HSL.out.below q4).rd
    (fun x hx W hW => (pol1_calls W no b m1 m2 m3 S V C w.heap.size (w.heap.size + 1) x s (H1.out.below (q4.trans (hW.mono hl4))) (HVK.out x hx)
     (((D1.out.1.below q4).below hW).cell 0) (((D1.out.2.below q4).below hW).cell 0) (by have := hW.size; omega) (by have := hW.size; omega)).mono fun e w' ⟨he, hb⟩ => ⟨he, hW.trans (hb.mono hW.size)⟩)).mono ?_
   rintro e w5 ⟨rfl, hb5⟩; have B5 := B4.out.below hb5; have O5 := own_chg (own_chg HOW.out (Chg.of_below (L := []) q3) (fun _ _ hx => by cases hx)) (Chg.of_below (L := []) hb5) (fun _ _ hx => by cases hx); have q5 := q4.trans (hb5.mono hl4); have f2 := B5.cell 2; have f3 := B5.cell 3; have f4 := B5.cell 4; have f5 := B5.cell 5; simp only [List.getElem?_cons_succ, List.getElem?_cons_zero] at f2 f3 f4 f5; have HQ5 := hide q5; have HO5 := hide O5; have HW4 := hide hw4; clear B5 O5 q5 q3 q4 hb5 hw4 hlB hlB2 hl4 k1 c1 g0 l1; obtain ⟨r, hr2⟩ : ∃ r, (ch.any fun c => hasAt S.cs c s) = r := ⟨_, rfl⟩; rw [hr2] at HST ⊢; have HR2 := hide hr2; clear hr2
   cases r with
   |true =>
    have HE : Hid (polK S s (k + 1) = polK S s k ++ [⟨pr, pw, pl, pb⟩]) := hide (by rw [HST.out]; simp); obtain ⟨L, hL⟩ : ∃ L, polK S s k = L := ⟨_, rfl⟩; rw [hL] at HO5 HE hle HOW ⊢; have HLL := hide hL; clear hL; have HO6 := hide (own_chg HO5.out (Chg.of_below (L := []) ((Below.refl w5.heap.size w5).alloc (Nat.le_refl _) (.cells #[.int .i64 pr, .int .i64 pw, .int .i64 pl, .int .i64 pb] 33))) (fun _ _ hx => by cases hx))
    go_wp2_with (at_builtin; refine app_law rfl _ _ 127 rfl 33 i0 _ 4 32 Tryz.underlying127 hi hz0 hz1 hz2 rfl (by decide) _ _ _ rfl HO6.out w5.heap.size 1 1 [.int .i64 pr, .int .i64 pw, .int .i64 pl, .int .i64 pb] rfl (Blk.new rfl) rfl ?c1 (by decide) ?c3 ?c4 ?_)
    case c1 => intro u hu; simp at hu; rcases hu with rfl | rfl | rfl | rfl <;> rfl
    case c3 => unfold maxLen; omega
    case c4 => omega
    intro g cap w6 hown6 hch6 hor hg6
    have q6 := HQ5.out.alloc HQ5.out.size (.cells #[.int .i64 pr, .int .i64 pw, .int .i64 pl, .int .i64 pb] 33); rw [owS] at hch6 hor; have R6 := Chg.onto q6 q6.size hch6 (fun x hx => HGB.out x (by simpa using hx))
    have hg : w1.heap.size ≤ g := by
     rcases hor with h | h
     ·exact HGB.out g h
     ·have := HQ5.out.size; first | omega | (simp at h; omega)
    have HR6 := hide R6; have HW6 := hide hown6; clear hown6 hch6 hor q6 R6; go_wp2
    go_roundw
    case rel => exact ⟨k + 1, some ⟨g, 0, none⟩, cap, by omega, by go_num, by rw [HE.out]; simp, by rw [HE.out, polCells_app, show polCells [(⟨pr, pw, pl, pb⟩ : Pol)] = [.int .i64 pr, .int .i64 pw, .int .i64 pl, .int .i64 pb] from rfl]; simpa using HW6.out, fun x hx => by cases hx; exact hg, HR6.out⟩
    case measure => simp [intOf]; omega
   |false =>
    have HE : Hid (polK S s (k + 1) = polK S s k) := hide (by rw [HST.out]; simp); go_wp2
    go_roundw
    case rel => exact ⟨k + 1, A2, c2, by omega, by go_num, by rw [HE.out], by rw [HE.out]; exact HO5.out, HGB.out, HQ5.out⟩
    case measure => simp [intOf]; omega
  ·have e : k = S.vs.length := by omega
   subst e; have HOW := hide hown; have HGB := hide hgb; have HB1 := hide hb; clear hown hgb hb; rw [polK_all] at HOW ⊢; go_wp2; go_ret
   exact ⟨A2, c2, rfl, HOW.out, fun g hg => Nat.le_trans HB.out.size (HGB.out g hg), HB.out.trans (HB1.out.mono HB.out.size)⟩

def Ranges {α : Type} (key : α → Int) (val : α → Value) (w : World) (b r : Nat) (L : List α) (lf : Int → Bool) (cnt : Nat) : Prop :=
 ∃ n D left, w.ranges Tryz.prog 3 wholeE b r n D left cnt ∧ ((∀ x, Maps.has D (.int .i64 x) = true ↔ x ∈ L.map key) ∧ (∀ k, i64ok k → ∀ z, D.atKey (.int .i64 k) (.held z) = .held (((fd key L k).map val).getD z)) ∧ Rise key L ∧ ∀ x ∈ L, i64ok (key x)) ∧
  ∀ x, lf x = left (.int .i64 x)
section
variable {α : Type} {key : α → Int} {val : α → Value} {w w' : World} {b r cnt : Nat} {L : List α} {lf : Int → Bool} {mt et : TypeId}
theorem Ranges.left_eq (h : Ranges key val w b r L lf cnt) : w.rangeLeft b r = cnt := by obtain ⟨n, D, left, h, _⟩ := h; exact h.left_eq
theorem Ranges.lt (h : Ranges key val w b r L lf cnt) : r < w.heap.size := by obtain ⟨n, D, left, h, _⟩ := h; exact h.lt
theorem Ranges.below (h : Ranges key val w b r L lf cnt) (hb : Below w.heap.size w w') : Ranges key val w' b r L lf cnt := by
 obtain ⟨n, D, left, h, h2⟩ := h
 exact ⟨n, D, left, h.kept (row := none) ⟨hb.os, hb.tape, hb.output, hb.size, fun i hi _ => hb.block i hi⟩ (by simp) (by simp), h2⟩
theorem Ranges.drew (h : Ranges key val w b r L lf cnt) : Ranges key val w.drew b r L lf cnt := h.below (Below.refl _ _).drew
theorem Tab.wpl_range {ops : Array Oper} {rest : List Oper} {o : Oper} {a : Act} {Q : Exit → Act → World → Prop} (hg : o.guard = none) (m : Operand) (hop : o.op = Op.range mt m) (ht : Tryz.prog.underlying mt = some (.map 3 et))
  (hm : a.eval m = .map (some b)) (h : Tab key val w b L)
  (hK : ∀ w' lf, Ranges key val w' b w.heap.size L lf L.length → (∀ x, lf x = true ↔ x ∈ L.map key) → Below w.heap.size w w' → w.heap.size < w'.heap.size → wpList Tryz.prog ops Q rest (a.put o.dst (.pointer (some ⟨w.heap.size, 0, none⟩))) w') :
  wpList Tryz.prog ops Q (o :: rest) a w := by
 obtain ⟨D, ho, hsz, _, hhas, hat⟩ := h.keys
 refine wpList_range_own w hg m mt hop 3 et law ht wholeE b L.length D hm ho fun w' h1 h2 h3 => ?_
 refine hK w' (fun x => Maps.has D (.int .i64 x)) ⟨_, D, _, hsz ▸ h1, ⟨hhas, hat, h.rise, h.ok⟩, fun x => rfl⟩ hhas ⟨h2.os, h2.tape, h2.output, h2.size, fun k hk => h2.block k hk (by simp)⟩ (by omega)
theorem Ranges.wpl_next {ops : Array Oper} {rest : List Oper} {o : Oper} {a : Act} {Q : Exit → Act → World → Prop} (hg : o.guard = none) (it : Operand) (hop : o.op = Op.next it false)
  (hit : a.eval it = .pointer (some ⟨r, 0, none⟩)) (h : Ranges key val w b r L lf cnt)
  (hDone : (∀ x, lf x = false) → wpList Tryz.prog ops Q rest (a.put o.dst (.tuple #[.bool false])) w)
  (hMore : ∀ e w' cnt', e ∈ L → lf (key e) = true → Ranges key val w' b r L (fun x => lf x && !(x == key e)) cnt' → cnt' < cnt → Chg [r] w w' → (Instr.entry (.pointer (some ⟨r, 0, none⟩))).run Tryz.prog w' = .ok (.tuple #[.int .i64 (key e), val e]) w' →
   wpList Tryz.prog ops Q rest (a.put o.dst (.tuple #[.bool true, .int .i64 (key e), val e])) w') : wpList Tryz.prog ops Q (o :: rest) a w := by
 obtain ⟨n, D, left, hr, ⟨hhas, hat, hrise, hok⟩, hlf⟩ := h
 refine wpList_next_ranges w hg it hop 3 law wholeE (Value.int .i64) (id : Value → Value) (fun k kl hk => by obtain ⟨x, rfl, _⟩ := Maps.keyOf_int_inv Tryz.underlying3 hk; exact ⟨x, rfl⟩) (fun v y hv => ⟨v, rfl⟩) b r n D left cnt hit hr
  (fun _ h0 => hDone fun x => (hlf x).trans (h0 _)) fun x c kl y w' cnt' hk hl hR hD hr' hc hgr hsz hen => ?_
 obtain ⟨x', e, rfl, hw⟩ := Maps.keyOf_int_inv Tryz.underlying3 hk
 injection e with _ e
 subst e; have hx : i64ok x := bounds_i64 hw; have hin : x ∈ L.map key := (hhas x).1 (Maps.has_true_of_atKey hD); obtain ⟨e, he, rfl⟩ := List.mem_map.1 hin
 have hv : c = val e := by
  have h1 := hat _ hx (.int .i64 0); rw [fd_mem hrise he] at h1; have h2 := hD (.held (.int .i64 0)); rw [h1] at h2; have hR' : ((DataW.held c : DataW Value), ([] : List MemPlace)) = y := Option.some.inj hR; rw [← hR'] at h2
  exact (DataW.held.inj h2).symm
 subst hv
 exact hMore e w' cnt' he ((hlf _).trans hl) ⟨n, D, _, hr', ⟨hhas, hat, hrise, hok⟩, fun z => by show (lf z && !(z == key e)) = _; rw [hlf z]; simp [Lit.sameKey]; rfl⟩ hc (Chg.of_grown hgr) hen
def cntV (key : α → Int) (lf : Int → Bool) (p : α → Bool) (L : List α) : Nat := (L.filter fun z => !lf (key z) && p z).length
theorem cntV_start (p : α → Bool) (h : ∀ x, lf x = true ↔ x ∈ L.map key) : cntV key lf p L = 0 := by
 unfold cntV; rw [List.length_eq_zero_iff, List.filter_eq_nil_iff]
 intro z hz
 have : lf (key z) = true := (h _).2 (List.mem_map_of_mem hz)
 simp [this]
theorem cntV_end (p : α → Bool) (h : ∀ x, lf x = false) : cntV key lf p L = (L.filter p).length := by
 unfold cntV
 congr 1
 refine List.filter_congr fun z _ => ?_
 rw [h]; rfl
theorem cntV_step (p : α → Bool) (hr : Rise key L) {e : α} (he : e ∈ L) (hl : lf (key e) = true) : cntV key (fun x => lf x && !(x == key e)) p L = cntV key lf p L + (if p e then 1 else 0) := by
 unfold cntV
 induction L with
 |nil => cases he
 |cons z t ih =>
  obtain ⟨h1, h2⟩ := List.pairwise_cons.1 hr
  rcases List.mem_cons.1 he with rfl | he
  ·have ht : t.filter (fun z => !((lf (key z)) && !(key z == key e)) && p z) = t.filter (fun z => !lf (key z) && p z) := by
    refine List.filter_congr fun z hz => ?_
    have := h1 z hz
    have hne : (key z == key e) = false := by simp; omega
    rw [hne]; simp
   rw [List.filter_cons, List.filter_cons, ht]; simp only [hl, beq_self_eq_true]
   cases p e <;> simp
  ·have := h1 e he
   have hne : (key z == key e) = false := by simp; omega
   rw [List.filter_cons, List.filter_cons]; simp only [hne]; have := ih h2 he
   cases hq : (!lf (key z) && p z) with
   |true =>
    have hq' : (!(lf (key z) && !false) && p z) = true := by simpa using hq
    rw [if_pos hq', if_pos rfl, List.length_cons, List.length_cons, this]; omega
   |false =>
    have hq' : ¬ (!(lf (key z) && !false) && p z) = true := by simpa using hq
    rw [if_neg hq', if_neg (by simp), this]
end
theorem vadmits_calls (w : World) (no : List Nat) (b m1 m2 m3 : Nat) (S : Vst) (V : List VoM) (C : List CkM) (h : VM w no b m1 m2 m3 S V C) (hl : S.vs.length ≤ 1000000) (hch : ∀ v ∈ S.vs, ∀ k ∈ v.ch, i64ok k) :
  Calls Tryz.prog 27 #[.pointer (some ⟨b, 0, none⟩)] w fun e w' => e = .returned (.bool S.admits) ∧ Below w.heap.size w w' := by
 have c0 : w.cell? ⟨b, 0, none⟩ = some (.map (some m1)) := h.blk.cell 0; have H := hide h; clear h
 go_enter Tryz.func27, Tryz.ntmps27
 go_wp2_with (at_range; refine Tab.wpl_range rfl _ rfl Tryz.underlying72 rfl H.out.t1 ?_; intro w0 lf hrg hlf hb0 hs0)
 go_frame
 have hst : Hid (∀ x ∈ S.sv, lf x.1 = false → Go.Proofs.YtcahcjfgmdpdoaaGreat.admits x.2 (S.polOf x.1) = true) := hide fun x hx hx2 => by
  have := (hlf x.1).2 (List.mem_map_of_mem hx); rw [hx2] at this
  cases this
 have HRG := hide hrg; have HB0 := hide hb0; clear hrg hlf hb0 c0
 go_loopw [3, 4] (fun _ _ wr => ∃ lf cnt, Ranges Prod.fst svVal wr m1 w.heap.size S.sv lf cnt ∧ Below w.heap.size w wr ∧ ∀ x ∈ S.sv, lf x.1 = false → Go.Proofs.YtcahcjfgmdpdoaaGreat.admits x.2 (S.polOf x.1) = true) (fun _ _ wr => wr.rangeLeft m1 w.heap.size)
 case atStart => exact ⟨lf, _, HRG.out, HB0.out, hst.out⟩
 case round =>
  obtain ⟨lf2, cnt, hrg, hb, hall⟩ := hrel; have HR := hide hrg; have HB := hide hb; have HA := hide hall; clear hrg hb hall
  go_wp2_with (at_next; refine Ranges.wpl_next rfl _ rfl rfl HR.out ?_ ?_)
  ·intro h0
   have HE : Hid (S.admits = true) := hide (by
    unfold Vst.admits; rw [List.all_eq_true]
    exact fun x hx => HA.out x hx (h0 x.1))
   clear h0; go_wp2; go_ret
   exact ⟨ret_bool HE.out.symm, HB.out⟩
  ·intro e n w1 cnt1 he hle hrg1 hlt hch1 hen
   simp only [svVal] at hen ⊢; have HB1 := hide (Chg.onto HB.out HB.out.size hch1 (by simp)); have HR1 := hide hrg1; have HM := hide he; clear hrg1 hch1 he hle; have hmeas : Hid (w1.rangeLeft m1 w.heap.size < wr.rangeLeft m1 w.heap.size) := hide (by rw [HR1.out.left_eq, HR.out.left_eq]; exact hlt); clear hlt; go_wp2_with fail
   refine (policies_calls w1 no b m1 m2 m3 S V C e (H.out.below HB1.out) hl hch).mono ?_
   rintro e' w2 ⟨A, c, rfl, ho, hg, hb2⟩; have hb3 := HB1.out.trans (hb2.mono HB1.out.size); obtain ⟨A', c', e', _, _, _, _, hrd⟩ := own_view ho
   cases e'
   have HRD := hide (hrd w2.heap.size (fun g hg => own_lt ho hg)); have HB3 := hide hb3; have HR2 := hide (HR1.out.below hb2); clear ho hg hb2 hb3 hrd hen; go_wp2_with fail
   refine (admits_calls n (S.polOf e) A c w2 HRD.out).mono ?_
   rintro e' w3 ⟨rfl, hb4⟩; have HB4 := hide (HB3.out.trans (hb4.mono HB3.out.size)); have HR3 := hide (HR2.out.below hb4); clear hb4; obtain ⟨q, hq⟩ : ∃ q, Go.Proofs.YtcahcjfgmdpdoaaGreat.admits n (S.polOf e) = q := ⟨_, rfl⟩; rw [hq]; have HQ := hide hq; clear hq
   cases q with
   |true =>
    go_wp2
    go_roundw
    case rel =>
     refine ⟨_, _, HR3.out, HB4.out, fun x hx hx2 => ?_⟩
     by_cases hxe : x.1 = e
     ·have : x = (e, n) := by
       have h1 := fd_mem H.out.t1.rise hx; have h2 := fd_mem H.out.t1.rise HM.out; rw [hxe] at h1; rw [h1] at h2
       injection h2
      rw [this]
      exact HQ.out
     ·refine HA.out x hx ?_
      have hne : (x.1 == e) = false := by simp [hxe]
      simpa [hne] using hx2
    case measure => rw [HR3.out.left_eq, ← HR1.out.left_eq]; exact hmeas.out
   |false =>
    have HE : Hid (S.admits = false) := hide (by
     unfold Vst.admits; rw [List.all_eq_false]
     exact ⟨(e, n), HM.out, by simp [HQ.out]⟩)
    go_wp2; go_ret
    exact ⟨ret_bool HE.out.symm, HB4.out⟩

theorem VM.cnt {w : World} {no : List Nat} {b m1 m2 m3 : Nat} {S : Vst} {V : List VoM} {C : List CkM} (h : VM w no b m1 m2 m3 S V C) (s : Int) : (C.filter fun x => x.k.has s).length = S.cnt s := by
 unfold Vst.cnt; rw [← h.eC, List.filter_map, List.length_map]
 rfl
theorem ldCells_app (a b : List Ld) : ldCells (a ++ b) = ldCells a ++ ldCells b := by simp [ldCells]
theorem loads_calls (w : World) (no : List Nat) (b m1 m2 m3 : Nat) (S : Vst) (V : List VoM) (C : List CkM) (h : VM w no b m1 m2 m3 S V C) (hsv : S.sv.length ≤ 1000000) (hcs : S.cs.length ≤ 1000000) :
  Calls Tryz.prog 141 #[.pointer (some ⟨b, 0, none⟩)] w fun e w' => ∃ A c, e = .returned (.slice A S.loads.length c) ∧ w'.ownsRow 0 83 2 (.slice A S.loads.length c) S.loads.length (ldCells S.loads) ∧
   (∀ g, A.map Addr.block = some g → w.heap.size ≤ g) ∧ Below w.heap.size w w' := by
 obtain ⟨i0, hi, hz0, hz1, hz2⟩ := info_parts Tryz.infoLd; have c0 : w.cell? ⟨b, 0, none⟩ = some (.map (some m1)) := h.blk.cell 0; have hb0 := (Below.refl w.heap.size w).alloc (Nat.le_refl _) (.cells #[.map (some m1)] 72); have hcell : (w.alloc (.cells #[.map (some m1)] 72)).cell? ⟨w.heap.size, 0, none⟩ = some (.map (some m1)) := (Blk.new (cs := [.map (some m1)]) rfl).cell 0; have hS := hide (sortedInt_calls w.heap.size (w.alloc (.cells #[.map (some m1)] 72)) hcell (by simp) (h.t1.below hb0) hsv); have H := hide h
 have hCl : C.length = S.cs.length := by have := congrArg List.length h.eC; rwa [List.length_map] at this
 clear h hcell
 go_enter Tryz.func141, Tryz.ntmps141
 go_wp2_with fail
 refine (keysInt_calls _ _).mono ?_
 rintro e w1 ⟨rfl, rfl⟩; go_wp2_with fail; refine hS.out.mono ?_; rintro e w1 ⟨A, c, rfl, ho, hb1⟩; have HB := hide (hb0.trans (hb1.mono hb0.size)); have H1 := hide (H.out.below HB.out); obtain ⟨A', c', e', _, _, _, _, hrd⟩ := own_view ho.1
 cases e'
 have hr := hide (hrd w1.heap.size (fun g hg => own_lt ho.1 hg))
 have hll : S.loads.length = S.sv.length := by unfold Vst.loads; rw [List.length_map]
 have HLL := hide hll; clear hS H ho hb0 hb1 hrd c0 hll; go_wp2_with fail
 go_loopw [3, 5, 6, 8, 16] (fun v _ _ _ i wr => ∃ (k : Nat) (A2 : Option Addr) (c2 : Nat), k ≤ S.sv.length ∧ i = .int .i64 k ∧ v = .slice A2 k c2 ∧ wr.ownsRow 0 83 2 v k (ldCells (S.loads.take k)) ∧ (∀ g, A2.map Addr.block = some g → w1.heap.size ≤ g) ∧ Below w1.heap.size w1 wr) (fun _ _ _ _ i _ => S.sv.length - (intOf i).toNat)
 case atStart => exact ⟨0, none, 0, Nat.zero_le _, rfl, rfl, World.ownsRow_nil _ _ _ _, (fun g hg => by cases hg), Below.refl _ _⟩
 case round =>
  obtain ⟨k, A2, c2, hk, rfl, rfl, hown, hgb, hb⟩ := hrel; have HB1 := hide hb; have HOW := hide hown; have HGB := hide hgb
  by_cases hlt : k < S.sv.length
  ·obtain ⟨bA, oA, rfl, hbA, hcell⟩ := hr.out.at_ (by simp; omega)
   have g0 : wr.cell? ⟨bA, oA + k, none⟩ = some (.int .i64 S.sv[k].1) := (hb.cell (p := ⟨bA, oA + k, none⟩) hbA).trans (hcell k _ (by simp [hlt]))
   have i1 : (k : Int) < S.sv.length := by omega
   have hLk : S.loads[k]'(by rw [HLL.out]; exact hlt) = ⟨S.sv[k].1, S.cnt S.sv[k].1⟩ := by simp [Vst.loads]
   obtain ⟨s, hs⟩ : ∃ s, S.sv[k].1 = s := ⟨_, rfl⟩; rw [hs] at g0 hLk; have HLK := hide hLk; have HRE := hide hr.out; clear hcell hr hs hLk hb hown hgb; have c2' : wr.cell? ⟨b, 2, none⟩ = some (.map (some m3)) := (H1.out.below HB1.out).cell 2
   go_wp2_with (at_range; refine Tab.wpl_range rfl _ rfl Tryz.underlying74 rfl (H1.out.below HB1.out).t3 ?_; intro w2 lf hrg hlf hb2 hs2)
   go_frame
   have HQ2 := hide hb2; have HRG := hide hrg; have HN0 := hide (cntV_start (fun x => x.k.has s) hlf); clear hb2 hrg hlf c2' g0 hs2; obtain ⟨wo, rfl⟩ : ∃ wo, wo = wr := ⟨_, rfl⟩
   go_loopw [6, 8] (fun n _ wq => ∃ lf cnt, Ranges CkM.key CkM.val wq m3 wo.heap.size C lf cnt ∧ Below wo.heap.size wo wq ∧ n = .int .i64 (cntV CkM.key lf (fun x => x.k.has s) C)) (fun _ _ wq => wq.rangeLeft m3 wo.heap.size)
   case atStart => exact ⟨lf, _, HRG.out, HQ2.out, by rw [HN0.out]; rfl⟩
   case round =>
    obtain ⟨lf2, cnt, hrg, hb, rfl⟩ := hrel; have HR := hide hrg; have HB3 := hide hb; have HCL := hide (show cntV CkM.key lf2 (fun x => x.k.has s) C ≤ 1000000 from Nat.le_trans (List.length_filter_le _ _) (by omega)); clear hrg hb
    go_wp2_with (at_next; refine Ranges.wpl_next rfl _ rfl rfl HR.out ?_ ?_)
    ·intro h0
     have HC : Hid (cntV CkM.key lf2 (fun x => x.k.has s) C = S.cnt s) := hide (by rw [cntV_end _ h0]; exact H1.out.cnt s); clear h0; rw [HC.out] at HCL ⊢; obtain ⟨q, hq⟩ : ∃ q, S.cnt s = q := ⟨_, rfl⟩; rw [hq] at HLK HCL ⊢; have HB4 := hide (HB1.out.trans (HB3.out.mono HB1.out.size)); have HQ := hide (own_chg (own_chg HOW.out (Chg.of_below (L := []) HB3.out) (fun _ _ hx => by cases hx)) (Chg.of_below (L := []) ((Below.refl wr.heap.size wr).alloc (Nat.le_refl _) (.cells #[.int .i64 s, .int .i64 q] 83))) (fun _ _ hx => by cases hx)); clear HC hq
     go_wp2_with (at_builtin; refine app_law rfl _ _ 80 rfl 83 i0 _ 2 16 Tryz.underlying80 hi hz0 hz1 hz2 rfl (by decide) _ _ _ rfl HQ.out wr.heap.size 1 1 [.int .i64 s, .int .i64 q] rfl (Blk.new rfl) rfl ?c1 (by decide) ?c3 ?c4 ?_)
     case c1 => intro u hu; simp at hu; rcases hu with rfl | rfl <;> rfl
     case c3 => unfold maxLen; omega
     case c4 => omega
     intro g cap w6 hown6 hch6 hor hg6
     have q6 := HB4.out.alloc HB4.out.size (.cells #[.int .i64 s, .int .i64 q] 83); rw [owS] at hch6 hor; have R6 := Chg.onto q6 q6.size hch6 (fun x hx => HGB.out x (by simpa using hx))
     have hg : w1.heap.size ≤ g := by
      rcases hor with h | h
      ·exact HGB.out g h
      ·have := HB4.out.size; first | omega | (simp at h; omega)
     have HR6 := hide R6
     have HE6 : Hid (w6.ownsRow 0 83 2 (.slice (some ⟨g, 0, none⟩) (k + 1) cap) (k + 1) (ldCells (S.loads.take (k + 1)))) := hide (by
      rw [List.take_succ_eq_append_getElem (by rw [HLL.out]; exact hlt), HLK.out, ldCells_app, show ldCells [(⟨s, (q : Int)⟩ : Ld)] = [.int .i64 s, .int .i64 q] from rfl]
      exact hown6)
     clear hown6 hch6 hor q6 R6; go_wp2
     go_roundw
     case rel => exact ⟨k + 1, some ⟨g, 0, none⟩, cap, by omega, by go_num, rfl, HE6.out, fun x hx => by cases hx; exact hg, HR6.out⟩
     case measure => simp [intOf]; omega
    ·intro e w3 cnt1 he hle hrg1 hlt1 hch1 hen
     have HSL := hide (H1.out.sC e he); have HST := hide (cntV_step (fun x => x.k.has s) H1.out.t3.rise he hle); obtain ⟨⟨cid, vol, ep, me, jo⟩, A3, c3, B3, d3⟩ := e; simp only [CkM.val, CkM.cells] at hen ⊢; have HB4 := hide (Chg.onto HB3.out HB3.out.size hch1 (by simp)); have HRN := hide hrg1; have hmeas : Hid (w3.rangeLeft m3 wo.heap.size < wr.rangeLeft m3 wo.heap.size) := hide (by rw [HRN.out.left_eq, HR.out.left_eq]; exact hlt1); clear hrg1 hch1 he hle hlt1; go_wp2_with fail; have q4 := HB4.out.alloc HB4.out.size (.cells #[.int .i64 cid, .int .i64 vol, .int .i64 ep, .slice A3 me.length c3, .slice B3 jo.length d3] 90); have q5 := HB1.out.trans (q4.mono HB1.out.size)
     refine (vhas_calls ⟨⟨cid, vol, ep, me, jo⟩, A3, c3, B3, d3⟩ s no _ (HSL.out.1.below q5) (HSL.out.2.below q5)).mono ?_
     rintro e w4 ⟨rfl, hb4⟩; have HB5 := hide (q4.trans (hb4.mono q4.size)); have HR5 := hide ((HRN.out.below ((Below.refl _ _).alloc (Nat.le_refl _) _)).below hb4); clear hb4 q4 q5 hen; obtain ⟨q, hq⟩ : ∃ q, (⟨cid, vol, ep, me, jo⟩ : Ck).has s = q := ⟨_, rfl⟩; simp only [hq] at HST; rw [hq]; clear hq
     cases q with
     |true =>
      go_wp2
      go_roundw
      case rel => exact ⟨_, _, HR5.out, HB5.out, by have := HCL.out; rw [HST.out, if_pos trivial, IntWalk.wrap64_in _ (by omega)]; rfl⟩
      case measure => rw [HR5.out.left_eq, ← HRN.out.left_eq]; exact hmeas.out
     |false =>
      go_wp2
      go_roundw
      case rel => exact ⟨_, _, HR5.out, HB5.out, by rw [HST.out]; first | rfl | simp⟩
      case measure => rw [HR5.out.left_eq, ← HRN.out.left_eq]; exact hmeas.out
  ·have e : k = S.sv.length := by omega
   subst e; have HE : Hid (S.loads.take S.sv.length = S.loads) := hide (by rw [← HLL.out, List.take_length]); clear hown hgb hb; rw [HE.out] at HOW; go_wp2; go_ret; rw [HLL.out]
   exact ⟨A2, c2, rfl, HOW.out, fun g hg => Nat.le_trans HB.out.size (HGB.out g hg), HB.out.trans (HB1.out.mono HB.out.size)⟩
end Go.Proofs.YtcahcjfgmdpdoaaGreat

namespace Go.Proofs.YtcahcjfgmdpdoaaGreat
open Go.RowKit Go.Proofs Go.Lib
set_option linter.unusedVariables false
set_option linter.unusedSimpArgs false

theorem order2_calls (x y : Ld) (W : World) : Calls Tryz.prog 156 #[.agg #[.int .i64 x.id, .int .i64 x.n], .agg #[.int .i64 y.id, .int .i64 y.n]] W fun e w' => e = .returned (.int .i64 (cmpLd x y)) ∧ ∃ q os', w' = Sort.grow (W.drewN q) os' := by
 have B0 := (Blk.new (w := W) (cs := x.cells) (t := 83) rfl).alloc (.cells y.cells.toArray 83); have B1 := Blk.new (w := W.alloc (.cells x.cells.toArray 83)) (b := W.heap.size + 1) (cs := y.cells) (t := 83) (by simp); obtain ⟨w0, hw0⟩ : ∃ w0, (W.alloc (.cells x.cells.toArray 83)).alloc (.cells y.cells.toArray 83) = w0 := ⟨_, rfl⟩; rw [hw0] at B0 B1
 go_enter Tryz.func156, Tryz.ntmps156
 go_wp2; rw [show (W.alloc (.cells #[.int .i64 x.id, .int .i64 x.n] 83)).alloc (.cells #[.int .i64 y.id, .int .i64 y.n] 83) = w0 from hw0]; have HW := hide hw0; clear hw0; have c0 := B0.rule 0 _ rfl; have c1 := B0.rule 1 _ rfl; have d0 := B1.rule 0 _ rfl; have d1 := B1.rule 1 _ rfl; have r0 := Below.refl w0.heap.size w0
 have N0 : ∀ v1 v2, (w0.alloc (.cells #[v1, v2] 3)).drew.cell? ⟨w0.heap.size, 0, none⟩ = some v1 := fun v1 v2 => (Blk.new (cs := [v1, v2]) rfl).cell 0
 have N1 : ∀ v1 v2, (w0.alloc (.cells #[v1, v2] 3)).drew.cell? ⟨w0.heap.size, 1, none⟩ = some v2 := fun v1 v2 => (Blk.new (cs := [v1, v2]) rfl).cell 1
 refine region_lxf (fun w' => Below w0.heap.size w0 w') [] 0 [(2,0),(0,1),(2,2),(0,3),(2,5),(0,6),(2,7),(0,8),(1,4),(1,9),(1,10),(1,11),(2,12)] (bzA 13 8191) (by (first | exact r0.drew | assumption | exact (r0.alloc (Nat.le_refl _) _).drew)) (fun hS0 => ?_)
 (iterate 8 (first | refine lxt ?_ | refine lxp ?_)); (iterate 2 ((refine lxe ?_; go_simp; (first | (go_at_call 158; (with_reducible refine (cmp_calls _ _ _).mono ?_); rintro e w' ⟨rfl, rfl⟩) | (go_at_call 157; (with_reducible refine (or_calls _ (Lib.compareInt x.n y.n) (Lib.compareInt x.id y.id) _ (by exact N0 _ _) (by exact N1 _ _)).mono ?_); rintro e w' ⟨rfl, rfl⟩)); refine lxB (by (first | exact r0.drew | assumption | exact (r0.alloc (Nat.le_refl _) _).drew)) (fun hS1 => ?_))))
 (refine lxe ?_; go_simp; refine lxB (by (first | exact r0.drew | assumption | exact (r0.alloc (Nat.le_refl _) _).drew)) (fun hS1 => ?_))
 (refine lxe ?_; go_simp; (first | (go_at_call 158; (with_reducible refine (cmp_calls _ _ _).mono ?_); rintro e w' ⟨rfl, rfl⟩) | (go_at_call 157; (with_reducible refine (or_calls _ (Lib.compareInt x.n y.n) (Lib.compareInt x.id y.id) _ (by exact N0 _ _) (by exact N1 _ _)).mono ?_); rintro e w' ⟨rfl, rfl⟩)); refine lxB (by (first | exact r0.drew | assumption | exact (r0.alloc (Nat.le_refl _) _).drew)) (fun hS1 => ?_))
 refine lxp ?_
 refine lxN (lxd ?_)
 go_wp2; go_ret
 exact ⟨rfl, 1, #[.cells x.cells.toArray 83, .cells y.cells.toArray 83, .cells #[.int .i64 (Lib.compareInt x.n y.n), .int .i64 (Lib.compareInt x.id y.id)] 3], by rw [← HW.out]; exact grow3 _ _ _ _⟩
theorem cmpLaysLd2 (blk off size : Nat) (w : World) : CmpLays Tryz.prog 156 #[] Ld.cells 2 cmpLd blk off size w := fun _ _ _ _ x y => order2_calls x y _
theorem sortLd2_calls (blk cap : Nat) (xs : List Ld) (w : World) (hH : Sort.HoldsK Ld.cells 2 w blk 0 xs.toArray) (hblk : blk < w.heap.size) (hn : xs.length ≤ 1000000) :
  Calls Tryz.prog 155 #[.slice (some ⟨blk, 0, none⟩) xs.length cap, .func (.func 156) #[] #[]] w fun e w' => e = .returned (.tuple #[]) ∧ ∃ n os, w' = sortWorldK Ld.cells 2 w blk 0 n (sortLd xs).toArray os := by
 have eg : ∀ args w, (callFunc 156 args).run Tryz.prog w = .ok (.enter 156 args) w := enters_of Tryz.func156 (by kernel_rfl) rfl; have h := AnyQ.slices_SortFunc_total Go.Proofs.YtcahcjfgmdpdoaaGreat.sortLoad 2 Tryz.isAgg83 Tryz.sizeOf83 Ld.cells (fun _ => rfl) (fun x v hv => by simp [Ld.cells] at hv; rcases hv with rfl | rfl <;> rfl) cmpLd swoLd 156 #[] blk 0 cap xs.toArray w eg (cmpLaysLd2 blk 0 _ w) hH hblk (by simp; omega) totLd; rw [ldLt_eq] at h
 exact h
theorem sort2_calls (A : Option Addr) (n cap : Nat) (xs : List Ld) (w : World) (h : w.ownsRow 0 83 2 (.slice A n cap) n (ldCells xs)) (hn : xs.length = n) (hnn : n ≤ 1000000) :
  Calls Tryz.prog 155 #[.slice A n cap, .func (.func 156) #[] #[]] w fun e w' => e = .returned (.tuple #[]) ∧ Reads w' w'.heap.size 2 A n (ldCells (sortLd xs)) ∧ Chg (A.map Addr.block).toList w w' := by
 rcases Nat.eq_zero_or_pos n with h0 | hp
 ·subst h0
  obtain rfl : xs = [] := List.eq_nil_of_length_eq_zero hn; have hc := AnyF.slices_SortFunc_none Go.Proofs.YtcahcjfgmdpdoaaGreat.sortLoad A cap (.func (.func 156) #[] #[]) w
  refine Calls.mono hc fun e w' ⟨he, hw⟩ => ?_
  subst hw
  exact ⟨he, ⟨by simp [sortLd, ldCells], fun h => absurd h (by omega)⟩, Chg.refl _ _⟩
 ·obtain ⟨g, c, e, _, hlt⟩ := World.ownsRow.form h hp
  injection e with e1 e2 e3
  subst e1; have hH := holdsLd h hn; have hc := sortLd2_calls g cap xs w hH hlt (by omega); rw [hn] at hc
  refine hc.mono fun e w' ⟨he, m, os, hw⟩ => ?_
  subst hw
  have hl : (sortLd xs).length = n := by unfold sortLd; rw [List.length_mergeSort, hn]
  refine ⟨he, readsLd (holdsK_sortWorldK_c Ld.cells 2 w g 0 xs.toArray _ m os hH hlt (by simp [hl, hn])) ?_ hl, sortW_chg w g m _ os⟩
  exact Nat.lt_of_lt_of_le hlt (size_sortWorldK_c _ _ _ _ _ _ _ _)

theorem vchoose_calls (A : Option Addr) (n c : Nat) (xs : List Ld) (m : Nat) (W w : World) (hown : w.ownsRow 0 83 2 (.slice A n c) n (ldCells xs)) (hn : xs.length = n) (hnn : n ≤ 1000000) (hm : m ≤ n) (hg : ∀ g, A.map Addr.block = some g → W.heap.size ≤ g) (hb : Below W.heap.size W w) :
  Calls Tryz.prog 142 #[.slice A n c, .int .i64 m] w fun e w' => ∃ A' c', e = .returned (.slice A' m c') ∧ OwnI W w' A' c' (chosen xs m) ∧ Below W.heap.size W w' := by
 obtain ⟨i0, hi, hz0, hz1, hz2⟩ := info_parts Tryz.infoI3; obtain ⟨A0, c0, e0, hnc, hcm, _, _, _⟩ := own_view hown
 cases e0
 go_enter Tryz.func142, Tryz.ntmps142
 go_wp2_with fail
 refine (sort2_calls A n c xs w hown hn hnn).mono ?_
 rintro e w2 ⟨rfl, hr2, hch2⟩; have B2 : Below W.heap.size W w2 := Chg.onto hb hb.size hch2 (fun x hx => hg x (by simpa using hx))
 have hs : (sortLd xs).length = n := by unfold sortLd; rw [List.length_mergeSort, hn]
 have hcl : chosen xs m = ((sortLd xs).map Ld.id).take m := by unfold chosen; rw [Int.toNat_natCast]
 have HCL := hide hcl; obtain ⟨ss, hss⟩ : ∃ ss, sortLd xs = ss := ⟨_, rfl⟩; rw [hss] at hr2 hs HCL; have HS := hide hs; have HB2 := hide B2; have HR2 := hide hr2; clear hown hch2 hb hss hs hcl B2 hr2 hg; go_wp2; obtain ⟨L, hL⟩ : ∃ L, ss.map Ld.id = L := ⟨_, rfl⟩
 have hLl : L.length = n := by rw [← hL, List.length_map, HS.out]
 rw [hL] at HCL; have HLl := hide hLl; have HL := hide hL; clear hL hLl hn
 go_loopw [5, 7, 14] (fun v _ i wr => ∃ k : Nat, k ≤ m ∧ IntsInv w2 L v i wr k) (fun _ _ i _ => m - (intOf i).toNat)
 case atStart => exact ⟨0, Nat.zero_le _, IntsInv.start _ _ _ (Below.refl _ _)⟩
 case round =>
  obtain ⟨k, hkm, hinv⟩ := hrel; have HI := hide hinv; obtain ⟨A', cap', rfl, rfl, _, hown, hgb, hb⟩ := hinv; have HO := hide hown; clear hown hgb
  by_cases hlt : k < m
  ·have hks : k < ss.length := by have := HS.out; omega
   obtain ⟨b, o, rfl, hbB, hcell⟩ := HR2.out.at_ (by omega); have g0 : wr.cell? ⟨b, o + k * 2, none⟩ = some (.int .i64 ss[k].id) := (hb.cell (p := ⟨b, o + k * 2, none⟩) hbB).trans (hcell _ _ (ldCells_get ss k 0 hks (by omega))); have g1 : wr.cell? ⟨b, o + k * 2 + 1, none⟩ = some (.int .i64 ss[k].n) := (hb.cell (p := ⟨b, o + k * 2 + 1, none⟩) hbB).trans (hcell _ _ (ldCells_get ss k 1 hks (by omega)))
   have hLk : L[k]'(by rw [HLl.out]; omega) = ss[k].id := by simp [← HL.out]
   obtain ⟨x, hx⟩ : ∃ x, ss[k] = x := ⟨_, rfl⟩; rw [hx] at g0 g1 hLk; have HLK := hide hLk; have HR := hide HR2.out
   have i1 : (k : Int) < m := by omega
   clear hLk hx hcell HR2 hb
   go_wp2_with (at_builtin; refine app_law rfl _ _ 28 rfl 3 i0 _ 1 8 Tryz.underlying28 hi hz0 hz1 hz2 rfl (by decide) (.slice A' k cap') k ((L.take k).map (Value.int .i64)) rfl ((HO.out.alloc _).alloc _) (wr.heap.size + 1) 1 1 [.int .i64 x.id] rfl (Blk.new (by simp)) rfl ?c1 (by decide) ?c3 ?c4 ?_)
   case c1 => first | rfl | (intro u hu; simp at hu; subst hu; rfl)
   case c3 => unfold maxLen; omega
   case c4 => omega
   intro g cap2 w4 hown2 hch hor hlt2
   rw [owS] at hch hor; rw [← List.map_take] at hown2; have I1 := HI.out.below (((Below.refl wr.heap.size wr).alloc (Nat.le_refl _) (.cells #[.int .i64 x.id, .int .i64 x.n] 83)).alloc (by simp) (.cells #[.int .i64 x.id] 3)); have F := IntsInv.push (n := k + 1) I1 (by rw [HLl.out]; omega) HLK.out rfl hown2 hch (hor.imp id (fun e => by simp at e ⊢; omega)) (z := (k : Int) + 1) (by omega); clear hown2 hch hor hlt2 g0 g1 I1; go_wp2
   go_roundw
   case rel => exact ⟨k + 1, by omega, F⟩
   case measure => simp [intOf]; omega
  ·have e : k = m := by omega
   subst e; have HEE := hide (HI.out.out (most := k) (by omega) (Or.inl (by omega))); clear hb; go_wp2; go_ret; obtain ⟨A3, c3, e3, _, h3, h4, h5⟩ := HEE.out; rw [Int.toNat_natCast] at e3 h3
   have hln : (L.take k).length = k := by rw [List.length_take, HLl.out]; omega
   rw [hln] at e3 h3
   refine ⟨A3, c3, e3, ⟨?_, fun g hg => Nat.le_trans HB2.out.size (h4 g hg)⟩, HB2.out.trans (h5.mono HB2.out.size)⟩
   rw [HCL.out, hln]
   exact h3
end Go.Proofs.YtcahcjfgmdpdoaaGreat
