/- One text of: Gz. -/
import Derived.Test.YteppdlkmjgladaaGreatQGG
namespace Go.Proofs.YteppdlkmjgladaaGreat
open Go.RowKit Go.Proofs Go.Maps
set_option linter.unusedVariables false
set_option linter.unusedSimpArgs false
theorem zA44 {α : Type} (l : List α) (i : Nat) (a : α) : l.toArray.setIfInBounds i a = (l.set i a).toArray := by simp
theorem zB44 {α : Type} (x a : α) (l : List α) : (x :: l).set 0 a = a :: l := rfl
theorem zC44 {α : Type} (x a : α) (l : List α) (n : Nat) : (x :: l).set (n + 1) a = x :: l.set n a := rfl

def GE (base len i : Int) (e : Ending) : Prop := ∃ (t k : Int) (A : Option Addr) (n c : Nat) (is : Bool), e = .returned (.tuple #[.agg #[.int .i64 t, .int .i64 k, .slice A n c], .bool is]) ∧ (is = true → base < i ∧ i ≤ base + len)
set_option maxHeartbeats 1000000 in
theorem get_no (p : Nat) (A : Option Addr) (cap : Nat) (base term : Int) (es : List Ent) (i : Int) (w : World) (h : LogAt w p A cap base term es) (h0 : 0 ≤ base) (h1 : base ≤ 4611686018427387904) (i0 : -4611686018427387904 ≤ i) (i1 : i ≤ 4611686018427387904) (hno : hasL base es.length i = false) :
  Calls Tryz.prog 50 #[.pointer (some ⟨p, 0, none⟩), .int .i64 i] w fun e w' => e = .returned (.tuple #[.agg #[.int .i64 0, .int .i64 0, .slice none 0 0], .bool false]) ∧ Below w.heap.size w w' := by
 have L0 := h.below ((Below.refl _ _).alloc (Nat.le_refl _) (.cells #[.int .i64 0, .int .i64 0, .slice none 0 0] 73))
 have B0 := Blk.new (w := w) (cs := [.int .i64 0, .int .i64 0, .slice none 0 0]) (t := 73) rfl
 have R0 : Below w.heap.size w (w.alloc (.cells #[.int .i64 0, .int .i64 0, .slice none 0 0] 73)) := (Below.refl _ _).alloc (Nat.le_refl _) _
 have HH := hide hno
 clear hno
 go_enter Tryz.func50, Tryz.ntmps50
 go_wp2_with fail
 with_reducible refine (has_calls _ _ _ _ _ _ _ _ L0 h0 h1 i0 i1).mono ?_
 rintro e w1 ⟨rfl, n, rfl⟩
 rw [HH.out]
 obtain ⟨eb, heb⟩ : ∃ eb, w.heap.size = eb := ⟨_, rfl⟩
 obtain ⟨w0, hw0⟩ : ∃ w0, (w.alloc (.cells #[.int .i64 0, .int .i64 0, .slice none 0 0] 73)).drewN n = w0 := ⟨_, rfl⟩
 rw [heb, hw0]
 replace B0 : Blk w0 eb 73 [.int .i64 0, .int .i64 0, .slice none 0 0] := heb ▸ hw0 ▸ B0
 replace R0 : Below w.heap.size w w0 := hw0 ▸ below_drewN R0 n
 have x0 := B0.cell 0
 have x1 := B0.cell 1
 have x2 := B0.cell 2
 have f0 := B0.frozen 0
 have f1 := B0.frozen 1
 have f2 := B0.frozen 2
 simp only [List.getElem?_cons_succ, List.getElem?_cons_zero] at x0 x1 x2
 have hge : w.heap.size ≤ eb := Nat.le_of_eq heb
 have HR := hide R0
 clear L0 B0 R0 hw0 heb h
 go_wp2_with fail
 exact bodyPost_ret (v := .tuple #[.agg #[.int .i64 0, .int .i64 0, .slice none 0 0], .bool false]) (by simp [results, Tryz.results50, go_sem, *]) rfl ⟨rfl, by repeat (first | exact HR.out | refine Below.setCell ?_ (by simp <;> omega) _)⟩
section
variable {W w w' w0 w1 w2 : World} {nb u j g p : Nat} {q q1 q' : Gl} {G G1 : Gd} {base term : Int} {L : List Con} {F : List Nat}
theorem lg_getG (h : LG w p base term L F) (hf : FewC L) (h0 : 0 ≤ base) (h1 : base ≤ 4611686018426339328) (hn : L.length ≤ 1000000) {i : Int} (hi : -1 ≤ i ∧ i ≤ 4611686018426339328) :
  Calls Tryz.prog 50 #[.pointer (some ⟨p, 0, none⟩), .int .i64 i] w fun e w' => GE base L.length i e ∧ Below w.heap.size w w' := by
 by_cases hin : base < i ∧ i ≤ base + L.length
 ·have hk : (i - base - 1).toNat < L.length := by omega
  refine (lg_get (i := i) _ h hk hf h0 h1 hn (by omega)).mono ?_
  rintro e w' ⟨x, rfl, _, _, hb⟩
  exact ⟨⟨_, _, _, _, _, true, rfl, fun _ => hin⟩, hb⟩
 ·obtain ⟨A, cap, es, hl, rfl, rfl⟩ := h
  have hno : hasL base es.length i = false := by
   cases hh : hasL base es.length i with
   |false => rfl
   |true => have := hasL_iff.1 hh; rw [cons_length] at hin; omega
  refine (get_no p A cap base term es i w hl h0 (by omega) (by omega) (by omega) hno).mono ?_
  rintro e w' ⟨rfl, hb⟩
  exact ⟨⟨_, _, _, _, _, false, rfl, fun h => by cases h⟩, hb⟩
def APT (w w' : World) (nb : Nat) (q : Gl) (G : Gd) (u : Nat) (e : Ending) : Prop := ∃ v t, e = .returned v ∧ GP w' nb q { G with told := t } ∧ GI u { G with told := t } ∧ GS w w' nb q q
set_option maxHeartbeats 4000000 in
set_option maxRecDepth 100000 in
theorem gapplied_calls (h : GP w nb q G) (hi : GI u G) (hu : u ≤ 890) :
  Calls Tryz.prog 17 #[.pointer (some ⟨nb, 0, none⟩)] w fun e w' => APT w w' nb q G u e := by
 obtain ⟨T, hT⟩ : ∃ T, G.told = T := ⟨_, rfl⟩
 obtain ⟨cm, hcm⟩ : ∃ c, G.commit = c := ⟨_, rfl⟩
 have hTb : 0 ≤ T ∧ T ≤ 2199023255552 := by rw [← hT]; exact hi.told
 have hcb : cm ≤ 2199023255552 := by rw [← hcm]; exact hi.com.2
 have b0 : Blk w nb 97 (Gd.cells { G with told := T } q) := by rw [← hT]; exact h.blk
 have H := hide (And.intro h (And.intro hi (And.intro hTb (And.intro hcb (And.intro hcm b0)))))
 clear h hi hT hcb hTb hcm b0
 go_enter Tryz.func17, Tryz.ntmps17
 go_wp2
 go_loopw [3, 4, 5, 6, 7, 8, 9, 10, 11, 12, 13, 14, 15, 16, 17, 18, 19, 20, 21, 22, 23, 24, 25, 26, 27, 28, 29, 30, 31, 32, 33, 34, 35, 36, 37, 38, 39, 40, 41, 42, 43, 44, 45] (fun ov _ _ _ _ _ _ _ _ _ _ _ _ _ _ _ _ _ _ _ _ _ _ _ _ _ _ _ _ _ _ _ _ _ _ _ _ _ _ _ _ _ _ wr => ∃ (k : Nat) (A : Option Addr) (c : Nat) (z : Int), ov = .slice A k c ∧ Hid (z = T + k ∧ (k = 0 ∨ (G.m.li < T + 1 ∧ z ≤ G.m.li + G.m.L.length ∧ z ≤ cm))) ∧ Hid (Blk wr nb 97 (Gd.cells { G with told := z } q) ∧ Chg [nb] w wr ∧ (∃ xs, wr.ownsRow 0 75 4 (.slice A k c) k xs) ∧ ∀ g, A.map Addr.block = some g → w.heap.size ≤ g)) (fun ov _ _ _ _ _ _ _ _ _ _ _ _ _ _ _ _ _ _ _ _ _ _ _ _ _ _ _ _ _ _ _ _ _ _ _ _ _ _ _ _ _ _ _ => 20000 - (match ov with | .slice _ n _ => n | _ => 0))
 case atStart => exact ⟨0, none, 0, T, rfl, hide ⟨by omega, Or.inl rfl⟩, hide ⟨H.out.2.2.2.2.2, Chg.refl _ _, ⟨[], ownsRow_nil _ _ _⟩, fun g hg => by cases hg⟩⟩
 case round =>
  obtain ⟨k, A, c, z, rfl, hz, hO⟩ := hrel
  have rr := Below.refl wr.heap.size wr
  have y11 := hO.out.1.rule 11 _ rfl
  have y10 := hO.out.1.rule 10 _ rfl
  have y9 := hO.out.1.rule 9 _ rfl
  simp only [] at y11 y10
  rw [H.out.2.2.2.2.1] at y10
  have hkb : k ≤ 17900 := by have := hz.out; have := H.out.2.1.m.n; omega
  by_cases hlt : z < cm
  ·have d1 : decide (z < cm) = true := decide_eq_true hlt
   obtain ⟨z1, hz1⟩ : ∃ z1, z + 1 = z1 := ⟨_, rfl⟩
   have hzb : 0 ≤ z ∧ z ≤ 2199023255552 := by have := hz.out; have := H.out.2.2; omega
   have c1 : IntKind.i64.wrap (z + 1) = z1 := by rw [IntWalk.i64_in _ (by omega)]; exact hz1
   have HG := hide (fun (w' : World) (hb : Below wr.heap.size wr w') => lg_getG (i := z1) ((H.out.1.own (G' := { G with told := z }) hO.out.2.1 hO.out.1 rfl).log.below hb) H.out.2.1.m.L.few (by show 0 ≤ G.m.li; rw [H.out.2.1.m.li]; exact H.out.2.1.m.si.1) (by show G.m.li ≤ _; rw [H.out.2.1.m.li]; have := H.out.2.1.m.si.2; omega) (by show G.m.L.length ≤ _; have := H.out.2.1.m.n; omega) (by omega))
   have HZ1 := hide (And.intro hz1 (And.intro hzb (And.intro hkb hlt)))
   clear hz1 hzb hkb hlt
   go_upto_region 2 with fail
   refine lxR (fun w' => Below wr.heap.size wr w') [] 0 [(2, 0), (2, 1), (2, 2), (0, 3), (2, 4), (2, 5), (2, 6), (0, 7), (2, 8)] #[true, true, true, true, true, true, true, true, true] (by kernel_rfl) (by kernel_rfl) (by decide) (by kernel_rfl) (by kernel_rfl) (fun _ _ _ _ _ h => h) (by (exact rr.drew)) (fun hS0 => ?_)
   simp only [List.map_cons, List.map_nil, List.getElem?_toArray, List.getElem?_cons_succ, List.getElem?_cons_zero]
   (iterate 3 ((apply lxP (by rfl); (focus (intro w; go_simp; (try with_reducible rfl); done)); simp only [Act.put, zA44, zB44, zC44]))); (apply lxT (by rfl); (focus (intro w hw; (try dsimp only at hw); go_simp; (try with_reducible rfl); done)); simp only [Act.put, zA44, zB44, zC44]); (iterate 3 ((apply lxP (by rfl); (focus (intro w; go_simp; (try with_reducible rfl); done)); simp only [Act.put, zA44, zB44, zC44]))); (apply lxT (by rfl); (focus (intro w hw; (try dsimp only at hw); go_simp; (try with_reducible rfl); done)); simp only [Act.put, zA44, zB44, zC44]); (apply lxP (by rfl); (focus (intro w; go_simp; (try with_reducible rfl); done)); simp only [Act.put, zA44, zB44, zC44])
   refine lxN (fun _ => wqD (by kernel_rfl) ?_ _)
   obtain ⟨w1, hw1⟩ : ∃ w1, wr.drew = w1 := ⟨_, rfl⟩
   have hb1 : Below wr.heap.size wr w1 := hw1 ▸ rr.drew
   have y9' : ∀ w', Below w1.heap.size w1 w' → w'.cell? ⟨nb, 9, none⟩ = some (.pointer (some ⟨q.lb, 0, none⟩)) := fun w' hb => y9 w' (belowA hb hb1)
   have y11' : ∀ w', Below w1.heap.size w1 w' → w'.cell? ⟨nb, 11, none⟩ = some (.int .i64 z) := fun w' hb => y11 w' (belowA hb hb1)
   have HG' := hide (fun (w' : World) (hb : Below w1.heap.size w1 w') => HG.out w' (belowA hb hb1))
   have HB1 := hide hb1
   have r1 := Below.refl w1.heap.size w1
   rw [hw1]
   clear hw1 hb1 y9 y11 y10 HG rr hS0
   go_upto_region 3 with fail
   go_cut [4, 5] from 4 to 27 (fun bv rv wx => ∃ (te ke : Int) (Ae : Option Addr) (ne ce : Nat) (ie : Bool) (bb : Nat), bv = .pointer (some ⟨bb, 0, none⟩) ∧ rv = .bool ie ∧ Blk wx bb 73 [.int .i64 te, .int .i64 ke, .slice Ae ne ce] ∧ (ie = true → G.m.li < z1 ∧ z1 ≤ G.m.li + G.m.L.length) ∧ Below w1.heap.size w1 wx)
   case first =>
    refine lxR (fun w' => Below w1.heap.size w1 w') [14] 7 [(2, 0), (2, 1), (2, 2), (0, 3), (2, 4), (2, 5), (2, 6), (0, 7), (2, 8)] #[true, true, true, true, true, true, true, true, true, false, false, false, false, false, false, false] (by kernel_rfl) (by kernel_rfl) (by decide) (by kernel_rfl) (by kernel_rfl) (fun _ _ _ _ _ h => h) (by (repeat (first | assumption | with_reducible refine Below.drew ?_ | with_reducible refine belowL ?_ _))) (fun hS0 => ?_)
    simp only [List.map_cons, List.map_nil, List.getElem?_toArray, List.getElem?_cons_succ, List.getElem?_cons_zero]
    (iterate 3 ((apply lxP (by rfl); (focus (intro w; go_simp; (try with_reducible rfl); done)); simp only [Act.put, zA44, zB44, zC44]))); (apply lxT (by rfl); (focus (intro w hw; (try dsimp only at hw); go_simp; (try with_reducible rfl); done)); simp only [Act.put, zA44, zB44, zC44]); (iterate 3 ((apply lxP (by rfl); (focus (intro w; go_simp; (try with_reducible rfl); done)); simp only [Act.put, zA44, zB44, zC44]))); (apply lxT (by rfl); (focus (intro w hw; (try dsimp only at hw); go_simp; (try with_reducible rfl); done)); simp only [Act.put, zA44, zB44, zC44]); (apply lxP (by rfl); (focus (intro w; go_simp; (try with_reducible rfl); done)); simp only [Act.put, zA44, zB44, zC44])
    refine lxN (fun hS2 => ?_)
    refine lexg_fork2 (i := 9) (j := 13) (by kernel_rfl) (by kernel_rfl : _ = #[true, true, true, true, true, true, true, true, true, true, false, false, false, false, false, false]) (by kernel_rfl : _ = #[true, true, true, true, true, true, true, true, true, false, false, false, false, true, false, false]) ?_ ?_
    focus
     apply lxA (by simp only [List.getElem?_toArray, List.getElem?_cons_succ, List.getElem?_cons_zero]; rfl) (by rfl)
     go_simp
     ((go_at_call 50; (with_reducible refine (HG'.out _ (by repeat (first | assumption | with_reducible refine Below.drew ?_ | with_reducible refine belowL ?_ _))).mono ?_); rintro e wg ⟨⟨te, ke, Ae, ne, ce, ie, rfl, his⟩, hbg⟩; have hbg' : Below w1.heap.size w1 wg := belowA hbg (by repeat (first | assumption | with_reducible refine Below.drew ?_ | with_reducible refine belowL ?_ _))))
     refine lxB (by (repeat (first | assumption | with_reducible refine Below.drew ?_ | with_reducible refine belowL ?_ _))) (fun hS1 => ?_)
     refine lxM 0 [(2, 10), (2, 11), (2, 12), (1, 13), (3, 14), (2, 15)] #[true, true, true, true, true, true, true, true, true, true, true, true, true, true, true, true] (by kernel_rfl) (by decide) (by kernel_rfl) (by kernel_rfl) (fun _ _ _ _ _ h => h) (fun _ => by assumption) ?_
     simp only [List.map_cons, List.map_nil, List.getElem?_toArray, List.getElem?_cons_succ, List.getElem?_cons_zero]
     (iterate 3 ((apply lxP (by rfl); (focus (intro w; go_simp; (try with_reducible rfl); done)); simp only [Act.put, zA44, zB44, zC44]))); (refine lxE (by rfl) ?_; go_simp; refine lxB (by (repeat (first | assumption | with_reducible refine Below.drew ?_ | with_reducible refine belowL ?_ _))) (fun hS1 => ?_)); (refine lxF (by rfl) ?_; (first | (refine wp_store_mid 73 _ _ rfl wg.heap.size 0 #[.int .i64 te, .int .i64 ke, .slice Ae ne ce] rfl rfl (by exact (Blk.new (w := wg) (b := wg.heap.size) (cs := [.int .i64 0, .int .i64 0, .slice none 0 0]) (t := 73) rfl).there (n := 3) (by decide)) (by kernel_rfl) (by simp [Value.oneCell']) ?_) | (refine wp_store_mid 73 _ _ rfl w1.heap.size 0 #[.int .i64 te, .int .i64 ke, .slice Ae ne ce] rfl rfl (by exact ((Blk.new (w := w1) (b := w1.heap.size) (cs := [.int .i64 0, .int .i64 0, .slice none 0 0]) (t := 73) rfl).drewT.below hbg).there (n := 3) (by decide)) (by kernel_rfl) (by simp [Value.oneCell']) ?_)); simp only [Act.put]); (apply lxP (by rfl); (focus (intro w; go_simp; (try with_reducible rfl); done)); simp only [Act.put, zA44, zB44, zC44])
     refine lxN (fun _ => wqD (by kernel_rfl) ?_ _)
    rotate_left
    focus
     apply lxA (by simp only [List.getElem?_toArray, List.getElem?_cons_succ, List.getElem?_cons_zero]; rfl) (by rfl)
     go_simp
     refine lxB (by (repeat (first | assumption | with_reducible refine Below.drew ?_ | with_reducible refine belowL ?_ _))) (fun hS1 => ?_)
     refine lxM 0 [(1, 9), (2, 10), (2, 11), (2, 12), (3, 14), (2, 15)] #[true, true, true, true, true, true, true, true, true, true, true, true, true, true, true, true] (by kernel_rfl) (by decide) (by kernel_rfl) (by kernel_rfl) (fun _ _ _ _ _ h => h) (fun _ => by assumption) ?_
     simp only [List.map_cons, List.map_nil, List.getElem?_toArray, List.getElem?_cons_succ, List.getElem?_cons_zero]
     (refine lxE (by rfl) ?_; go_simp; ((go_at_call 50; (with_reducible refine (HG'.out _ (by repeat (first | assumption | with_reducible refine Below.drew ?_ | with_reducible refine belowL ?_ _))).mono ?_); rintro e wg ⟨⟨te, ke, Ae, ne, ce, ie, rfl, his⟩, hbg⟩; have hbg' : Below w1.heap.size w1 wg := belowA hbg (by repeat (first | assumption | with_reducible refine Below.drew ?_ | with_reducible refine belowL ?_ _)))); refine lxB (by (repeat (first | assumption | with_reducible refine Below.drew ?_ | with_reducible refine belowL ?_ _))) (fun hS1 => ?_)); (iterate 3 ((apply lxP (by rfl); (focus (intro w; go_simp; (try with_reducible rfl); done)); simp only [Act.put, zA44, zB44, zC44]))); (refine lxF (by rfl) ?_; (first | (refine wp_store_mid 73 _ _ rfl wg.heap.size 0 #[.int .i64 te, .int .i64 ke, .slice Ae ne ce] rfl rfl (by exact (Blk.new (w := wg) (b := wg.heap.size) (cs := [.int .i64 0, .int .i64 0, .slice none 0 0]) (t := 73) rfl).there (n := 3) (by decide)) (by kernel_rfl) (by simp [Value.oneCell']) ?_) | (refine wp_store_mid 73 _ _ rfl w1.heap.size 0 #[.int .i64 te, .int .i64 ke, .slice Ae ne ce] rfl rfl (by exact ((Blk.new (w := w1) (b := w1.heap.size) (cs := [.int .i64 0, .int .i64 0, .slice none 0 0]) (t := 73) rfl).drewT.below hbg).there (n := 3) (by decide)) (by kernel_rfl) (by simp [Value.oneCell']) ?_)); simp only [Act.put]); (apply lxP (by rfl); (focus (intro w; go_simp; (try with_reducible rfl); done)); simp only [Act.put, zA44, zB44, zC44])
     refine lxN (fun _ => wqD (by kernel_rfl) ?_ _)
    rotate_left
    ·have bz := Blk.setCells [.int .i64 te, .int .i64 ke, .slice Ae ne ce] 0 (Blk.new (w := wg) (b := wg.heap.size) (cs := [.int .i64 0, .int .i64 0, .slice none 0 0]) (t := 73) rfl)
     have bx : Below w1.heap.size w1 _ := (Chg.setCells (L := []) (b := wg.heap.size) [.int .i64 te, .int .i64 ke, .slice Ae ne ce] 0 (Chg.of_below (belowL hbg' (.cells #[.int .i64 0, .int .i64 0, .slice none 0 0] 73))) (Or.inr hbg'.size)).none
     have HZ := And.intro bz bx
     clear bz bx
     revert HZ
     generalize World.setCells (wg.alloc (.cells #[.int .i64 0, .int .i64 0, .slice none 0 0] 73)) wg.heap.size 0 [.int .i64 te, .int .i64 ke, .slice Ae ne ce] = wx
     intro HZ
     have HZ := hide HZ
     have HIS := hide his
     clear his
     go_wp2
     go_meet
     exact ⟨te, ke, Ae, ne, ce, ie, _, rfl, rfl, HZ.out.1, HIS.out, HZ.out.2⟩
    all_goals
     have bz := Blk.setCells [.int .i64 te, .int .i64 ke, .slice Ae ne ce] 0 ((Blk.new (w := w1) (b := w1.heap.size) (cs := [.int .i64 0, .int .i64 0, .slice none 0 0]) (t := 73) rfl).drewT.below hbg)
     have bx : Below w1.heap.size w1 _ := (Chg.setCells (L := []) (b := w1.heap.size) [.int .i64 te, .int .i64 ke, .slice Ae ne ce] 0 (Chg.of_below hbg') (Or.inr (Nat.le_refl _))).none
     have HZ := And.intro bz bx
     clear bz bx
     revert HZ
     generalize World.setCells wg w1.heap.size 0 [.int .i64 te, .int .i64 ke, .slice Ae ne ce] = wx
     intro HZ
     have HZ := hide HZ
     have HIS := hide his
     clear his
     go_wp2
     go_meet
     exact ⟨te, ke, Ae, ne, ce, ie, _, rfl, rfl, HZ.out.1, HIS.out, HZ.out.2⟩
   case rest =>
    obtain ⟨te, ke, Ae, ne, ce, ie, bb, rfl, rfl, hbb, his, hb3⟩ := hcut
    obtain ⟨w3, rfl⟩ : ∃ x, x = wc := ⟨_, rfl⟩
    have hbr3 := belowA hb3 HB1.out
    obtain ⟨xs, hrow⟩ := hO.out.2.2.1
    have b3 := hO.out.1.below hbr3
    have c3 : Chg [nb] w w3 := hO.out.2.1.below hbr3
    have row3 := own_chg hrow (Chg.of_below (L := []) hbr3) (fun _ _ hx => by cases hx)
    have H3 := hide (And.intro b3 (And.intro c3 (And.intro row3 (And.intro hbb his))))
    have HFR := hide (fun g hg => Nat.le_trans (hO.out.2.2.2 g hg) (Nat.le_refl _))
    have HKB := hide (And.intro HZ1.out.2.2.1 hO.out.2.2.2)
    clear hbb his hb3 hbr3 b3 c3 row3 hrow HG' hO
    cases ie with
    |false =>
     go_wp2
     go_ret
     exact ⟨.slice A k c, z, rfl, H.out.1.own (G' := { G with told := z }) H3.out.2.1 H3.out.1 rfl, ⟨H.out.2.1.id, H.out.2.1.bt, H.out.2.1.bv, H.out.2.1.com, HZ1.out.2.1, H.out.2.1.quiet, H.out.2.1.beats, H.out.2.1.m⟩, GS.own H3.out.2.1⟩
    |true =>
     obtain ⟨b3, c3, row3, hbb, his⟩ := H3.out
     have q11 := b3.cell 11
     have f11 := b3.frozen 11
     simp only [Gd.cells, List.getElem?_cons_succ, List.getElem?_cons_zero] at q11
     obtain ⟨w4, hw4⟩ : ∃ w4, w3.setCell ⟨nb, 11, none⟩ (.int .i64 z1) = w4 := ⟨_, rfl⟩
     have c34 : Chg [nb] w3 w4 := by rw [← hw4]; exact (Chg.refl [nb] w3).setCell (p := ⟨nb, 11, none⟩) (Or.inl (by simp)) _
     have b4 := b3.set 11 (.int .i64 z1)
     rw [hw4] at b4
     have hne : bb ∉ [nb] := fun hx => by
      rw [List.mem_singleton.1 hx] at hbb
      exact absurd (hbb.one b3).2 (by decide)
     have hbb4 := hbb.chg c34 hne
     have row4 := own_chg row3 c34 (fun g hg hx => by
      rw [owS] at hg
      rw [List.mem_singleton.1 hx] at hg
      exact absurd (own_typed row3 hg b3) (by decide))
     have z11 := b4.rule 11 _ rfl
     have z0 := hbb4.rule 0 _ rfl
     have z1' := hbb4.rule 1 _ rfl
     have z2 := hbb4.rule 2 _ rfl
     have r4 := Below.refl w4.heap.size w4
     have HW4 := hide hw4
     obtain ⟨iA, hiA, hzA, hsA, hbA⟩ := info_parts Tryz.infoAp
     have hkb : k ≤ 17900 := HKB.out.1
     obtain ⟨wn, hwn⟩ : ∃ wn, (w4.alloc (.cells #[.int .i64 z1, .int .i64 te, .int .i64 ke, .slice Ae ne ce] 75)).drew = wn := ⟨_, rfl⟩
     have hbl : Below w4.heap.size w4 wn := by rw [← hwn]; exact (belowL r4 _).drew
     have bNew : Blk wn w4.heap.size 75 [.int .i64 z1, .int .i64 te, .int .i64 ke, .slice Ae ne ce] := by rw [← hwn]; exact (Blk.new rfl).drewT
     have HRW := hide (own_chg row4 (Chg.of_below (L := []) hbl) (fun _ _ hx => by cases hx))
     have HRD : Hid (Reads wn (w4.heap.size + 1) 4 (some ⟨w4.heap.size, 0, none⟩) 1 [.int .i64 z1, .int .i64 te, .int .i64 ke, .slice Ae ne ce]) := hide ⟨rfl, fun _ => ⟨w4.heap.size, 0, rfl, by omega, fun j u hu => by rw [Nat.zero_add, bNew.cell j]; exact hu⟩⟩
     have HON : Hid (∀ u ∈ ([.int .i64 z1, .int .i64 te, .int .i64 ke, .slice Ae ne ce] : List Value), u.oneCell' = true) := hide (fun u hu => by (simp only [List.mem_cons, List.not_mem_nil, or_false] at hu; rcases hu with rfl | rfl | rfl | rfl <;> rfl))
     have HBL := hide (And.intro hbl (And.intro b4 (And.intro (c3.trans c34 (fun x hx => Or.inl hx)) row4)))
     have HWN := hide hwn
     clear hwn hbl bNew row4 hbb4 hne b4 c34 b3 c3 row3 hbb his hw4
     go_upto_region 6 with fail
     rw [HW4.out]
     clear q11 f11
     refine lxR (fun w' => Below w4.heap.size w4 w') [8] 0 [(2, 0), (2, 1), (2, 2), (2, 3), (0, 4), (0, 5), (2, 6), (1, 7), (3, 8), (2, 9)] #[true, true, true, true, true, true, true, true, true, true] (by kernel_rfl) (by kernel_rfl) (by decide) (by kernel_rfl) (by kernel_rfl) (fun _ _ _ _ _ h => h) (by (first | exact r4.drew | exact belowL r4 _ | exact belowL r4.drew _ | exact (belowL r4 _).drew)) (fun hS0 => ?_)
     simp only [List.map_cons, List.map_nil, List.getElem?_toArray, List.getElem?_cons_succ, List.getElem?_cons_zero]
     (iterate 4 ((apply lxP (by rfl); (focus (intro w; go_simp; (try with_reducible rfl); done)); simp only [Act.put, zA44, zB44, zC44]))); (iterate 2 ((apply lxT (by rfl); (focus (intro w hw; (try dsimp only at hw); go_simp; (try with_reducible rfl); done)); simp only [Act.put, zA44, zB44, zC44]))); (apply lxP (by rfl); (focus (intro w; go_simp; (try with_reducible rfl); done)); simp only [Act.put, zA44, zB44, zC44]); (refine lxE (by rfl) ?_; go_simp; refine lxB (by (first | exact r4.drew | exact belowL r4 _ | exact belowL r4.drew _ | exact (belowL r4 _).drew)) (fun hS1 => ?_)); (refine lxF (by rfl) ?_; (rw [HWN.out]; refine wp_append_rd _ _ _ 44 rfl 75 iA _ 4 48 Tryz.underlying44 hiA hzA hsA hbA (by kernel_rfl) (by decide) (.slice A k c) k xs rfl HRW.out (some ⟨w4.heap.size, 0, none⟩) 1 1 (w4.heap.size + 1) [.int .i64 z1, .int .i64 te, .int .i64 ke, .slice Ae ne ce] rfl HRD.out HON.out (by unfold maxLen; omega) (by omega) ?_; intro v5 w5 ho5 hc5 hg5; obtain ⟨A5, c5, rfl, _⟩ := own_view ho5); simp only [Act.put, zA44, zB44, zC44]); (apply lxP (by rfl); (focus (intro w; go_simp; (try with_reducible rfl); done)); simp only [Act.put, zA44, zB44, zC44])
     refine lxN (fun _ => wqD (by kernel_rfl) ?_ _)
     rw [owS] at hc5
     have hnA : nb ∉ (A.map Addr.block).toList := fun hx => absurd (own_typed HBL.out.2.2.2 (by simpa using hx) HBL.out.2.1) (by decide)
     have b5 := (HBL.out.2.1.below HBL.out.1).chg hc5 hnA
     have c5' : Chg [nb] w w5 := (HBL.out.2.2.1.below HBL.out.1).trans hc5 (fun x hx => Or.inr (HKB.out.2 x (by simpa using hx)))
     have hfr : ∀ g, A5.map Addr.block = some g → w.heap.size ≤ g := fun g hg => by
      rcases hg5 g (by rw [owS]; exact hg) with h | h
      ·rw [owS] at h
       exact HKB.out.2 g h
      ·have := HBL.out.1.size; have := HBL.out.2.2.1.size; omega
     have H5 : Hid (Blk w5 nb 97 (Gd.cells { G with told := z1 } q) ∧ Chg [nb] w w5 ∧ (∃ xs, w5.ownsRow 0 75 4 (.slice A5 (k + 1) c5) (k + 1) xs) ∧ ∀ g, A5.map Addr.block = some g → w.heap.size ≤ g) := hide ⟨b5, c5', ⟨_, ho5⟩, hfr⟩
     clear hnA b5 c5' hfr ho5 hc5 hg5 HRW HRD HON HBL HWN z11 z0 z1' z2 r4 hS0 hS1
     go_wp2
     go_roundw
     case rel => exact ⟨k + 1, A5, c5, z1, by first | rfl | simp, hide ⟨by have := hz.out; have := HZ1.out; omega, Or.inr (by have := hz.out; have := HZ1.out; have := H3.out.2.2.2.2 rfl; omega)⟩, H5⟩
     case measure => simp; omega
  ·have d1 : decide (z < cm) = false := decide_eq_false hlt
   have hzb : 0 ≤ z ∧ z ≤ 2199023255552 := by have := hz.out; have := H.out.2.2; omega
   have HF := hide (And.intro (hO.out.1.below rr.drew) (And.intro (hO.out.2.1.below rr.drew) hzb))
   go_upto_region 2 with fail
   refine lxR (fun w' => Below wr.heap.size wr w') [] 0 [(2, 0), (2, 1), (2, 2), (0, 3), (2, 4), (2, 5), (2, 6), (0, 7), (2, 8)] #[true, true, true, true, true, true, true, true, true] (by kernel_rfl) (by kernel_rfl) (by decide) (by kernel_rfl) (by kernel_rfl) (fun _ _ _ _ _ h => h) (by (exact rr.drew)) (fun hS0 => ?_)
   simp only [List.map_cons, List.map_nil, List.getElem?_toArray, List.getElem?_cons_succ, List.getElem?_cons_zero]
   (iterate 3 ((apply lxP (by rfl); (focus (intro w; go_simp; (try with_reducible rfl); done)); simp only [Act.put, zA44, zB44, zC44]))); (apply lxT (by rfl); (focus (intro w hw; (try dsimp only at hw); go_simp; (try with_reducible rfl); done)); simp only [Act.put, zA44, zB44, zC44]); (iterate 3 ((apply lxP (by rfl); (focus (intro w; go_simp; (try with_reducible rfl); done)); simp only [Act.put, zA44, zB44, zC44]))); (apply lxT (by rfl); (focus (intro w hw; (try dsimp only at hw); go_simp; (try with_reducible rfl); done)); simp only [Act.put, zA44, zB44, zC44]); (apply lxP (by rfl); (focus (intro w; go_simp; (try with_reducible rfl); done)); simp only [Act.put, zA44, zB44, zC44])
   refine lxN (fun _ => wqD (by kernel_rfl) ?_ _)
   clear y9 y10 y11 hzb
   go_wp2
   go_ret
   exact ⟨.slice A k c, z, rfl, H.out.1.own (G' := { G with told := z }) HF.out.2.1 HF.out.1 rfl, ⟨H.out.2.1.id, H.out.2.1.bt, H.out.2.1.bv, H.out.2.1.com, HF.out.2.2, H.out.2.1.quiet, H.out.2.1.beats, H.out.2.1.m⟩, GS.own HF.out.2.1⟩
end
end Go.Proofs.YteppdlkmjgladaaGreat
