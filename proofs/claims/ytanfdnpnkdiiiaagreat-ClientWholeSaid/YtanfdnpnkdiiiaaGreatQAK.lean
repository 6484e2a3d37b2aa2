/- One text of: Ask Ask2. -/
import Derived.Test.YtanfdnpnkdiiiaaGreatQAwk
import Derived.Test.YtanfdnpnkdiiiaaGreatQLoc
namespace Go.Proofs.YtanfdnpnkdiiiaaGreat
open Go.RowKit Go.Proofs Go.Maps
set_option linter.unusedVariables false
set_option linter.unusedSimpArgs false

set_option maxHeartbeats 1000000 in
theorem server25_calls (i : Int) (h : 0 ≤ i ∧ i ≤ 15) (w : World) : Calls Tryz.prog 34 #[.int .i64 i] w fun e w' => e = .returned (.int .i64 (40 + i)) ∧ w = w' := by
  have h1 : IntKind.i64.wrap (40 + i) = 40 + i := IntWalk.i64_in _ (by omega)
  go_enter Tryz.func34, Tryz.ntmps34
  go_wp2
  go_ret
  exact ⟨rfl, rfl⟩
set_option maxHeartbeats 4000000 in
set_option maxRecDepth 100000 in
theorem right25_calls (w : World) (nb : Nat) {q : Int} {num kind at8 : Nat} {dz oz : Int} {B : Option Addr} {bn c : Nat} (hN : Blk w nb 3 [.int .i64 q, .int .i64 3, .int .i64 num, .int .i64 kind, .int .i64 at8, .int .i64 4, .int .i64 dz, .int .i64 oz])
    (h1 : 1 ≤ num) (h2 : num ≤ 1000000000) (h3 : 1 ≤ kind) (h4 : kind ≤ 3) (h5 : at8 ≤ 7) (h6 : kind = 1 → bn = 16) :
    Calls Tryz.prog 32 #[.agg #[.int .i64 15, .slice (some ⟨nb, 0, none⟩) 8 8, .slice B bn c, .slice none 0 0]] w fun e w' => e = .returned (.bool true) ∧ Below w.heap.size w w' := by
  obtain ⟨w0, hw0⟩ : ∃ w0, w.alloc (.cells #[.int .i64 15, .slice (some ⟨nb, 0, none⟩) 8 8, .slice B bn c, .slice none 0 0] 38) = w0 := ⟨_, rfl⟩
  have hb0 : Below w.heap.size w w0 := hw0 ▸ belowL (Below.refl _ _) _
  have hmb : Blk w0 w.heap.size 38 [.int .i64 15, .slice (some ⟨nb, 0, none⟩) 8 8, .slice B bn c, .slice none 0 0] := hw0 ▸ Blk.new rfl
  have hN0 := hN.below hb0
  have m1 := hmb.cell 1
  have m2 := hmb.cell 2
  have n1 := hN0.cell 1
  have n2 := hN0.cell 2
  have n3 := hN0.cell 3
  have n4 := hN0.cell 4
  simp only [List.getElem?_cons_succ, List.getElem?_cons_zero] at m1 m2 n1 n2 n3 n4
  have d1 : ¬ (num : Int) < 1 := by omega
  have d2 : ¬ (1099511627776 : Int) < num := by omega
  have d3 : ¬ (kind : Int) < 1 := by omega
  have d4 : ¬ (3 : Int) < kind := by omega
  have d5 : ¬ (7 : Int) < at8 := by omega
  have d6 : ¬ (at8 : Int) < 0 := by omega
  have HW0 := hide hw0
  have HB0 := hide hb0
  clear hw0 hb0 hmb hN hN0
  by_cases hk : kind = 1
  · have d7 : ((kind : Int) != 1) = false := by simp [hk]
    have d8 := h6 hk
    subst d8
    clear h6 hk
    go_enter Tryz.func32, Tryz.ntmps32
    go_upto_region 1 with fail
    rw [HW0.out]
    go_wp2
    go_ret
    exact ⟨rfl, HB0.out⟩
  · have d7 : ((kind : Int) != 1) = true := by simp; omega
    clear h6 hk
    go_enter Tryz.func32, Tryz.ntmps32
    go_upto_region 1 with fail
    rw [HW0.out]
    go_wp2
    go_ret
    exact ⟨rfl, HB0.out⟩
section
variable {w : World} {F : List Nat} {c n bl : Nat} {S : Vw} {pr : Prim} {X : Cl}
set_option maxHeartbeats 4000000 in
set_option maxRecDepth 100000 in
theorem chandle_no {k : Wk} (h : CM w F c (some S) pr n X) (hk : X.cur = some k) {nb : Nat} {p fr z : Int} (hz : z = 7 ∨ z = 12 ∨ z = 18) (hN : Blk w nb 3 [.int .i64 X.id, .int .i64 X.num, .int .i64 z, .int .i64 p]) {v : Value} :
    Calls Tryz.prog 12 #[.pointer (some ⟨c, 0, none⟩), .int .i64 fr, .agg #[.int .i64 16, .slice (some ⟨nb, 0, none⟩) 4 4, v, .slice none 0 0]] w fun e w' => e = .returned (.tuple #[]) ∧ Below w.heap.size w w' := by
  obtain ⟨xp, mt, cur, ans, out, Ft, Fc, Fa, Fo, h⟩ := h
  have hcu : CurM w pr Fc cur X.cur := h.cu
  rw [hk] at hcu
  obtain ⟨ma, Fb, rfl, ⟨cb, rv, B2, cB2, blen, rfl, rfl, hcb, hle, hlen, hrow⟩, hask⟩ := hcu
  obtain ⟨w0, hw0⟩ : ∃ w0, w.alloc (.cells #[.int .i64 16, .slice (some ⟨nb, 0, none⟩) 4 4, v, .slice none 0 0] 38) = w0 := ⟨_, rfl⟩
  have hb0 : Below w.heap.size w w0 := hw0 ▸ belowL (Below.refl _ _) _
  have hmb : Blk w0 w.heap.size 38 [.int .i64 16, .slice (some ⟨nb, 0, none⟩) 4 4, v, .slice none 0 0] := hw0 ▸ Blk.new rfl
  have r0 := Below.refl w0.heap.size w0
  have hN0 := hN.below hb0
  have hc0 := h.blk.below hb0
  have e0 := hc0.rule 0 _ rfl
  have e1 := hc0.rule 1 _ rfl
  have e4 := hc0.rule 4 _ rfl
  have m0 := hmb.rule 0 _ rfl
  have m1 := hmb.rule 1 _ rfl
  have n0 := hN0.rule 0 _ rfl
  have n1 := hN0.rule 1 _ rfl
  have n2 := hN0.rule 2 _ rfl
  have HB0 := hide hb0
  have HW0 := hide hw0
  clear h hcb hle hlen hrow hask hN hw0 hmb hb0 hN0 hc0 hk
  rcases hz with rfl | rfl | rfl <;>
  (go_enter Tryz.func12, Tryz.ntmps12
   go_upto_region 1 with fail
   rw [HW0.out]
   refine region_q (fun w' => Below w0.heap.size w0 w') (by kernel_rfl) (by kernel_rfl) (by (exact r0.drew)) ?_
   (refine wq_step (fun K hK => ?_); apply q_take (by rfl); (focus (intro w hw; (try dsimp only at hw); go_simp; (try with_reducible rfl); done)); simp only [Act.put, List.setIfInBounds_toArray, List.set_cons_zero, List.set_cons_succ]; refine hK _ ?_; clear hK K)
   (refine wq_step (fun K hK => ?_); apply q_take (by rfl); (focus (intro w hw; (try dsimp only at hw); go_simp; (try with_reducible rfl); done)); simp only [Act.put, List.setIfInBounds_toArray, List.set_cons_zero, List.set_cons_succ]; refine hK _ ?_; clear hK K)
   (refine wq_step (fun K hK => ?_); apply q_take (by rfl); (focus (intro w hw; (try dsimp only at hw); go_simp; (try with_reducible rfl); done)); simp only [Act.put, List.setIfInBounds_toArray, List.set_cons_zero, List.set_cons_succ]; refine hK _ ?_; clear hK K)
   (refine wq_step (fun K hK => ?_); apply q_take (by rfl); (focus (intro w hw; (try dsimp only at hw); go_simp; (try with_reducible rfl); done)); simp only [Act.put, List.setIfInBounds_toArray, List.set_cons_zero, List.set_cons_succ]; refine hK _ ?_; clear hK K)
   (refine wq_step (fun K hK => ?_); apply q_take (by rfl); (focus (intro w hw; (try dsimp only at hw); go_simp; (try with_reducible rfl); done)); simp only [Act.put, List.setIfInBounds_toArray, List.set_cons_zero, List.set_cons_succ]; refine hK _ ?_; clear hK K)
   (refine wq_step (fun K hK => ?_); apply q_take (by rfl); (focus (intro w hw; (try dsimp only at hw); go_simp; (try with_reducible rfl); done)); simp only [Act.put, List.setIfInBounds_toArray, List.set_cons_zero, List.set_cons_succ]; refine hK _ ?_; clear hK K)
   (refine wq_step (fun K hK => ?_); apply q_take (by kernel_rfl); (focus (intro w hw; (try dsimp only at hw); go_simp; (try with_reducible rfl); done)); simp only [Act.put, List.setIfInBounds_toArray, List.set_cons_zero, List.set_cons_succ]; refine hK _ ?_; clear hK K)
   (refine wq_step (fun K hK => ?_); apply q_take (by kernel_rfl); (focus (intro w hw; (try dsimp only at hw); go_simp; (try with_reducible rfl); done)); simp only [Act.put, List.setIfInBounds_toArray, List.set_cons_zero, List.set_cons_succ]; refine hK _ ?_; clear hK K)
   (refine wq_step (fun K hK => ?_); apply q_take (by kernel_rfl); (focus (intro w hw; (try dsimp only at hw); go_simp; (try with_reducible rfl); done)); simp only [Act.put, List.setIfInBounds_toArray, List.set_cons_zero, List.set_cons_succ]; refine hK _ ?_; clear hK K)
   (refine wq_step (fun K hK => ?_); apply q_take (by rfl); (focus (intro w hw; (try dsimp only at hw); go_simp; (try with_reducible rfl); done)); simp only [Act.put, List.setIfInBounds_toArray, List.set_cons_zero, List.set_cons_succ]; refine hK _ ?_; clear hK K)
   (refine wq_step (fun K hK => ?_); apply q_take (by rfl); (focus (intro w hw; (try dsimp only at hw); go_simp; (try with_reducible rfl); done)); simp only [Act.put, List.setIfInBounds_toArray, List.set_cons_zero, List.set_cons_succ]; refine hK _ ?_; clear hK K)
   (refine wq_step (fun K hK => ?_); apply q_take (by kernel_rfl); (focus (intro w hw; (try dsimp only at hw); go_simp; (try with_reducible rfl); done)); simp only [Act.put, List.setIfInBounds_toArray, List.set_cons_zero, List.set_cons_succ]; refine hK _ ?_; clear hK K)
   (refine wq_step (fun K hK => ?_); apply q_take (by kernel_rfl); (focus (intro w hw; (try dsimp only at hw); go_simp; (try with_reducible rfl); done)); simp only [Act.put, List.setIfInBounds_toArray, List.set_cons_zero, List.set_cons_succ]; refine hK _ ?_; clear hK K)
   (refine wq_step (fun K hK => ?_); apply q_take (by kernel_rfl); (focus (intro w hw; (try dsimp only at hw); go_simp; (try with_reducible rfl); done)); simp only [Act.put, List.setIfInBounds_toArray, List.set_cons_zero, List.set_cons_succ]; refine hK _ ?_; clear hK K)
   (refine wq_step (fun K hK => ?_); apply q_take (by kernel_rfl); (focus (intro w hw; (try dsimp only at hw); go_simp; (try with_reducible rfl); done)); simp only [Act.put, List.setIfInBounds_toArray, List.set_cons_zero, List.set_cons_succ]; refine hK _ ?_; clear hK K)
   (refine wq_step (fun K hK => ?_); apply q_take (by rfl); (focus (intro w hw; (try dsimp only at hw); go_simp; (try with_reducible rfl); done)); simp only [Act.put, List.setIfInBounds_toArray, List.set_cons_zero, List.set_cons_succ]; refine hK _ ?_; clear hK K)
   (refine wq_step (fun K hK => ?_); apply q_take (by rfl); (focus (intro w hw; (try dsimp only at hw); go_simp; (try with_reducible rfl); done)); simp only [Act.put, List.setIfInBounds_toArray, List.set_cons_zero, List.set_cons_succ]; refine hK _ ?_; clear hK K)
   (refine wq_step (fun K hK => ?_); apply q_take (by kernel_rfl); (focus (intro w hw; (try dsimp only at hw); go_simp; (try with_reducible rfl); done)); simp only [Act.put, List.setIfInBounds_toArray, List.set_cons_zero, List.set_cons_succ]; refine hK _ ?_; clear hK K)
   (refine wq_step (fun K hK => ?_); apply q_take (by kernel_rfl); (focus (intro w hw; (try dsimp only at hw); go_simp; (try with_reducible rfl); done)); simp only [Act.put, List.setIfInBounds_toArray, List.set_cons_zero, List.set_cons_succ]; refine hK _ ?_; clear hK K)
   (refine wq_step (fun K hK => ?_); apply q_take (by kernel_rfl); (focus (intro w hw; (try dsimp only at hw); go_simp; (try with_reducible rfl); done)); simp only [Act.put, List.setIfInBounds_toArray, List.set_cons_zero, List.set_cons_succ]; refine hK _ ?_; clear hK K)
   (refine wq_step (fun K hK => ?_); apply q_take (by kernel_rfl); (focus (intro w hw; (try dsimp only at hw); go_simp; (try with_reducible rfl); done)); simp only [Act.put, List.setIfInBounds_toArray, List.set_cons_zero, List.set_cons_succ]; refine hK _ ?_; clear hK K)
   (refine wq_step (fun K hK => ?_); apply q_take (by kernel_rfl); (focus (intro w hw; (try dsimp only at hw); go_simp; (try with_reducible rfl); done)); simp only [Act.put, List.setIfInBounds_toArray, List.set_cons_zero, List.set_cons_succ]; refine hK _ ?_; clear hK K)
   (refine wq_step (fun K hK => ?_); apply q_take (by kernel_rfl); (focus (intro w hw; (try dsimp only at hw); go_simp; (try with_reducible rfl); done)); simp only [Act.put, List.setIfInBounds_toArray, List.set_cons_zero, List.set_cons_succ]; refine hK _ ?_; clear hK K)
   (refine wq_step (fun K hK => ?_); apply q_take (by kernel_rfl); (focus (intro w hw; (try dsimp only at hw); go_simp; (try with_reducible rfl); done)); simp only [Act.put, List.setIfInBounds_toArray, List.set_cons_zero, List.set_cons_succ]; refine hK _ ?_; clear hK K)
   (refine wq_step (fun K hK => ?_); apply q_take (by kernel_rfl); (focus (intro w hw; (try dsimp only at hw); go_simp; (try with_reducible rfl); done)); simp only [Act.put, List.setIfInBounds_toArray, List.set_cons_zero, List.set_cons_succ]; refine hK _ ?_; clear hK K)
   (refine wq_step (fun K hK => ?_); apply q_take (by kernel_rfl); (focus (intro w hw; (try dsimp only at hw); go_simp; (try with_reducible rfl); done)); simp only [Act.put, List.setIfInBounds_toArray, List.set_cons_zero, List.set_cons_succ]; refine hK _ ?_; clear hK K)
   (refine wq_step (fun K hK => ?_); apply q_take (by rfl); (focus (intro w hw; (try dsimp only at hw); go_simp; (try with_reducible rfl); done)); simp only [Act.put, List.setIfInBounds_toArray, List.set_cons_zero, List.set_cons_succ]; refine hK _ ?_; clear hK K)
   (refine wq_step (fun K hK => ?_); apply q_take (by rfl); (focus (intro w hw; (try dsimp only at hw); go_simp; (try with_reducible rfl); done)); simp only [Act.put, List.setIfInBounds_toArray, List.set_cons_zero, List.set_cons_succ]; refine hK _ ?_; clear hK K)
   (refine wq_step (fun K hK => ?_); apply q_take (by kernel_rfl); (focus (intro w hw; (try dsimp only at hw); go_simp; (try with_reducible rfl); done)); simp only [Act.put, List.setIfInBounds_toArray, List.set_cons_zero, List.set_cons_succ]; refine hK _ ?_; clear hK K)
   (refine wq_step (fun K hK => ?_); apply q_take (by kernel_rfl); (focus (intro w hw; (try dsimp only at hw); go_simp; (try with_reducible rfl); done)); simp only [Act.put, List.setIfInBounds_toArray, List.set_cons_zero, List.set_cons_succ]; refine hK _ ?_; clear hK K)
   (refine wq_step (fun K hK => ?_); apply q_take (by kernel_rfl); (focus (intro w hw; (try dsimp only at hw); go_simp; (try with_reducible rfl); done)); simp only [Act.put, List.setIfInBounds_toArray, List.set_cons_zero, List.set_cons_succ]; refine hK _ ?_; clear hK K)
   (refine wq_step (fun K hK => ?_); apply q_take (by kernel_rfl); (focus (intro w hw; (try dsimp only at hw); go_simp; (try with_reducible rfl); done)); simp only [Act.put, List.setIfInBounds_toArray, List.set_cons_zero, List.set_cons_succ]; refine hK _ ?_; clear hK K)
   (refine wq_step (fun K hK => ?_); apply q_take (by kernel_rfl); (focus (intro w hw; (try dsimp only at hw); go_simp; (try with_reducible rfl); done)); simp only [Act.put, List.setIfInBounds_toArray, List.set_cons_zero, List.set_cons_succ]; refine hK _ ?_; clear hK K)
   (refine wq_step (fun K hK => ?_); apply q_take (by kernel_rfl); (focus (intro w hw; (try dsimp only at hw); go_simp; (try with_reducible rfl); done)); simp only [Act.put, List.setIfInBounds_toArray, List.set_cons_zero, List.set_cons_succ]; refine hK _ ?_; clear hK K)
   (refine wq_step (fun K hK => ?_); apply q_take (by kernel_rfl); (focus (intro w hw; (try dsimp only at hw); go_simp; (try with_reducible rfl); done)); simp only [Act.put, List.setIfInBounds_toArray, List.set_cons_zero, List.set_cons_succ]; refine hK _ ?_; clear hK K)
   (refine wq_step (fun K hK => ?_); apply q_take (by kernel_rfl); (focus (intro w hw; (try dsimp only at hw); go_simp; (try with_reducible rfl); done)); simp only [Act.put, List.setIfInBounds_toArray, List.set_cons_zero, List.set_cons_succ]; refine hK _ ?_; clear hK K)
   (refine wq_step (fun K hK => ?_); apply q_take (by kernel_rfl); (focus (intro w hw; (try dsimp only at hw); go_simp; (try with_reducible rfl); done)); simp only [Act.put, List.setIfInBounds_toArray, List.set_cons_zero, List.set_cons_succ]; refine hK _ ?_; clear hK K)
   (refine wq_step (fun K hK => ?_); apply q_take (by rfl); (focus (intro w hw; (try dsimp only at hw); go_simp; (try with_reducible rfl); done)); simp only [Act.put, List.setIfInBounds_toArray, List.set_cons_zero, List.set_cons_succ]; refine hK _ ?_; clear hK K)
   refine wq_nil ?_
   intro wq hwq
   go_wp2
   go_end0
   exact ⟨rfl, belowA hwq HB0.out⟩)
set_option maxHeartbeats 4000000 in
set_option maxRecDepth 100000 in
theorem ctick_calls {k : Wk} (h : CM w F c (some S) pr n X) (hk : X.cur = some k) (hs : Seen S.2 bl pr) (h1 : k.from_ + k.many ≤ bl) (h2 : k.done < k.many) (hn : n ≤ 100000) (hnum : X.num ≤ 1000000000) (ho : X.out.length ≤ 100000) (h8 : k.since ≤ 70) :
    Calls Tryz.prog 19 #[.pointer (some ⟨c, 0, none⟩)] w fun e w' => e = .returned (.tuple #[]) ∧ CO w w' F c (some S) pr (n + 1) (X.tick pr k) := by
  obtain ⟨xp, mt, cur, ans, out, Ft, Fc, Fa, Fo, h⟩ := h
  have hcu : CurM w pr Fc cur X.cur := h.cu
  rw [hk] at hcu
  obtain ⟨ma, Fb, rfl, ⟨cb, rv, B2, cB2, blen, rfl, rfl, hcb, hle, hlen, hrow⟩, hask⟩ := hcu
  have e4 := h.blk.cell 4
  have k7 := hcb.cell 7
  have kf := hcb.frozen
  have hl2 := hcb.lt
  have hne : cb ≠ c := (h.dj.1.2.1 cb (by simp)).1
  simp only [List.getElem?_cons_succ, List.getElem?_cons_zero] at e4 k7
  have hw1 : IntKind.i64.wrap ((k.since : Int) + 1) = ((k.since + 1 : Nat) : Int) := by rw [IntWalk.i64_in _ (by omega)]; omega
  obtain ⟨w1, hww⟩ : ∃ w1, w.setCell ⟨cb, 7, none⟩ (.int .i64 ((k.since + 1 : Nat) : Int)) = w1 := ⟨_, rfl⟩
  have hc1 : Chg [cb] w w1 := hww ▸ (Chg.refl _ _).setCell (Or.inl (by simp)) _
  have hmem := h.mem
  have hdj := h.dj
  have hbb : Blk w1 cb 82 [.int .i64 k.kind, .int .i64 4, .int .i64 k.from_, .int .i64 k.many, .slice B2 blen cB2, rv, .int .i64 k.done, .int .i64 ((k.since + 1 : Nat) : Int), .map (some ma)] := by
    rw [← hww]; exact hcb.set 7 _
  have hnL : ∀ z, z ≠ cb → z ∉ [cb] := fun z hz hx => hz (List.mem_singleton.1 hx)
  have hnd := List.nodup_cons.1 (List.nodup_cons.1 hdj.2.1.2.1).2
  have hma := (List.nodup_cons.1 hdj.2.1.2.1).1
  have hw := h.workc (n' := n) (Ft' := Ft) (Fc' := ma :: cb :: rv.ownBlock.toList) (cur' := .pointer (some ⟨cb, 0, none⟩)) (X' := { X with cur := some { k with since := k.since + 1 } }) (U' := fun w Fc v => CurM w pr Fc v (some { k with since := k.since + 1 })) hc1
    (fun z hz => by rw [List.mem_singleton.1 hz]; exact Or.inr (Or.inr (Or.inl (by simp)))) (h.blk.chg hc1 (hnL c hne.symm))
    (fun z hz => ⟨Or.inl hz, Nat.lt_of_lt_of_le (h.lt z (hmem.2.1 z hz)) hc1.size⟩) (fun z hz => ⟨Or.inr (Or.inl hz), Nat.lt_of_lt_of_le (h.lt z (hmem.2.2.1 z hz)) hc1.size⟩) hdj.2.1.1 hdj.2.1.2.1 (fun z hz => (hdj.1.1 z hz).2.1) rfl rfl
    (h.tr.chg hc1 (fun z hz => hnL z (fun e => (hdj.1.1 z hz).2.1 (by rw [e]; simp))))
    ⟨ma, _, rfl, ⟨cb, rv, B2, cB2, blen, rfl, rfl, hbb, hle, hlen, own_chg hrow hc1 (fun g hg hx => hnd.1 (by rw [← List.mem_singleton.1 hx]; simp [hg]))⟩, Asked.chg hask hc1 (hnL ma (fun e => hma (by rw [e]; simp)))⟩
  rw [← h.eF] at hw
  have e4' := (h.blk.chg hc1 (hnL c hne.symm)).cell 4
  have k7' := hbb.cell 7
  simp only [List.getElem?_cons_succ, List.getElem?_cons_zero] at e4' k7'
  have d1 : ¬ (80 : Int) ≤ ((k.since + 1 : Nat) : Int) := by omega
  have d2 : IntKind.i64.wrap (Int.tmod ((k.since + 1 : Nat) : Int) 4) = (((k.since + 1) % 4 : Nat) : Int) := by rw [Int.tmod_eq_emod_of_nonneg (by omega)]; rw [IntWalk.i64_in _ (by omega)]; omega
  have HSN := hide (csend_calls (w := w1) (X := { X with cur := some { k with since := k.since + 1 } }) (k := { k with since := k.since + 1 }) ⟨_, _, _, _, _, _, _, _, _, hw.1⟩ rfl hs h1 h2 hn hnum ho)
  have HW := hide (And.intro hw.1 (And.intro hc1 (And.intro hmem.2.2.1 h.lt)))
  have HWW := hide hww
  have HSI := hide h8
  clear h hcb hle hlen hrow hask hk hs hw hc1 hmem hdj hbb hnL hnd hma hww hl2 h8
  by_cases h4 : (k.since + 1) % 4 = 0
  · have d3 : ((((k.since + 1) % 4 : Nat) : Int) == 0) = true := by simp [h4]
    have H4 := hide h4
    clear h4
    go_enter Tryz.func19, Tryz.ntmps19
    go_upto_region 2 with fail
    rw [show ((k.since : Int) + 1) = ((k.since + 1 : Nat) : Int) from by omega, HWW.out]
    go_wp2_with fail
    refine HSN.out.mono ?_
    rintro e w' ⟨rfl, hco⟩
    have HCO := hide hco
    clear hco
    go_wp2
    go_end0
    refine ⟨rfl, ?_⟩
    have h3 : X.tick pr k = ({ X with cur := some { k with since := k.since + 1 } } : Cl).send pr { k with since := k.since + 1 } := by
      unfold Cl.tick
      rw [if_neg (by have := HSI.out; omega), if_pos H4.out]
      rfl
    rw [h3]
    exact HCO.out.back (HW.out.2.1.mono (fun z hz => Or.inl (by rw [List.mem_singleton.1 hz]; exact HW.out.2.2.1 cb (by simp)))) (fun z hz => Or.inl hz)
  · have d3 : ((((k.since + 1) % 4 : Nat) : Int) == 0) = false := by simp; omega
    have H4 := hide h4
    clear h4
    go_enter Tryz.func19, Tryz.ntmps19
    go_upto_region 2 with fail
    rw [show ((k.since : Int) + 1) = ((k.since + 1 : Nat) : Int) from by omega, HWW.out]
    go_wp2
    go_end0
    refine ⟨rfl, F, ?_, HW.out.2.1.mono (fun z hz => Or.inl (by rw [List.mem_singleton.1 hz]; exact HW.out.2.2.1 cb (by simp))), fun z hz => Or.inl hz⟩
    have h3 : X.tick pr k = ({ X with cur := some { k with since := k.since + 1 } } : Cl) := by
      unfold Cl.tick
      rw [if_neg (by have := HSI.out; omega), if_neg H4.out]
    rw [h3]
    exact CM.mono ⟨_, _, _, _, _, _, _, _, _, HW.out.1⟩ (Nat.le_succ n)
end
end Go.Proofs.YtanfdnpnkdiiiaaGreat

namespace Go.Proofs.YtanfdnpnkdiiiaaGreat
open Go.RowKit Go.Proofs Go.Maps
set_option linter.unusedVariables false
set_option linter.unusedSimpArgs false

section
variable {w : World} {F : List Nat} {c n bl : Nat} {S : Vw} {pr : Prim} {X : Cl}
set_option maxHeartbeats 8000000 in
set_option maxRecDepth 100000 in
theorem asks_calls {k : Wk} (h : CM w F c (some S) pr n X) (hk : X.cur = some k) (hs : Seen S.2 bl pr) (h1 : k.from_ + k.many ≤ bl) (h2 : k.done < k.many) {sb : Nat} (hv : VF F w sb S.2) {x : Cnt} (ho : X.out = [k.post X.id X.num (pr (k.at_ / 8)) x]) (hid : X.id = 3)
    (hk1 : 1 ≤ k.kind) (hk3 : k.kind ≤ 3) {no z : Int} (hz : (no = 0 ∧ z = 0) ∨ (no = 101 ∧ z = 18) ∨ (no = 102 ∧ z = 12) ∨ (no = 103 ∧ z = 7))
    {B : Option Addr} {cB : Nat} {L : List Nat} (hB : Rb w F B cB L) (h3 : no = 0 → k.kind = 3 → L.length = 16) (hL : L.length ≤ 16) (hrd : k.read.length ≤ 100000) (hn : n ≤ 90000) (hnum1 : 1 ≤ X.num) (hnum : X.num ≤ 90000000) :
    Calls Tryz.prog 18 #[.pointer (some ⟨c, 0, none⟩), .pointer (some ⟨sb, 0, none⟩), .int .i64 k.at_, .int .i64 X.num, .int .i64 k.kind, .int .i64 no, .slice B L.length cB] w fun e w' =>
      e = .returned (.bool true) ∧ CO w w' F c (some S) pr (n + 2) (if no = 0 then ({ X with out := [] } : Cl).okay pr k (pr (k.at_ / 8)).2 2 L else { X with out := [] }) := by
  obtain ⟨v, hv1, hvbl, hvlen, hvch⟩ := hs.v
  obtain ⟨i, ck, hi1, hi2, hi3, hi4, hi5⟩ := hvch (k.at_ / 8) (by unfold Wk.at_; omega)
  have hbl := hs.bl
  have hat : k.at_ ≤ 512 := by unfold Wk.at_; omega
  have hme := hs.me (k.at_ / 8)
  obtain ⟨K, hK⟩ : ∃ K, k.at_ / 8 = K := ⟨_, rfl⟩
  obtain ⟨r8, hr8⟩ : ∃ r8, k.at_ % 8 = r8 := ⟨_, rfl⟩
  obtain ⟨⟨q1, q2⟩, hq⟩ : ∃ q, pr K = q := ⟨_, rfl⟩
  have hdiv : IntKind.i64.wrap (Int.tdiv (k.at_ : Int) 8) = (K : Int) := by rw [Int.tdiv_eq_ediv_of_nonneg (by omega)]; rw [IntWalk.i64_in _ (by omega)]; omega
  have hmod : IntKind.i64.wrap (Int.tmod (k.at_ : Int) 8) = (r8 : Int) := by rw [Int.tmod_eq_emod_of_nonneg (by omega)]; rw [IntWalk.i64_in _ (by omega)]; omega
  rw [hK] at hi1 hi4 hi5 ho hme
  rw [hq] at hi4 hi5 ho hme
  unfold Wk.post at ho
  rw [hr8, hid] at ho
  simp only [] at hi4 hi5 ho hme
  have hkl : K < v.ch.length := (List.getElem?_eq_some_iff.1 hi1).1
  have hdiv0 : (k.at_ : Int) / 8 = (K : Int) := by omega
  have hmod0 : (k.at_ : Int) % 8 = (r8 : Int) := by omega
  have htm : ((r8 : Int) != Int.tmod (k.at_ : Int) 8) = false := by rw [Int.tmod_eq_emod_of_nonneg (by omega)]; simp; omega
  have hgeq : ¬ (v.ch.length : Int) ≤ (K : Int) := by omega
  have hml : 0 < ck.me.length := by
    cases hm : ck.me with
    | nil => rw [hm] at hi5; cases hi5
    | cons a b => simp
  have HOU := hide (cout_calls h)
  have H := hide (And.intro h (And.intro hk (And.intro hs (And.intro h1 (And.intro h2 (And.intro hv (And.intro ho (And.intro hid hB))))))))
  have HI := hide (And.intro hi1 (And.intro hi4 hi5))
  have HZ := hide (And.intro hz (And.intro h3 (And.intro hL (And.intro hrd (And.intro hn (And.intro hnum1 hnum))))))
  have HV1 := hide (And.intro hv1 (And.intro hi2 hi3))
  have HK := hide (And.intro hK (And.intro hr8 hq))
  have HKK := hide (And.intro hk1 (And.intro hk3 (show r8 ≤ 7 by omega)))
  clear h hk hs h1 h2 hv ho hid hB hz h3 hL hrd hn hnum1 hnum hv1 hi1 hi2 hi3 hi4 hi5 hvbl hvlen hvch hbl hK hr8 hq hkl hk1 hk3
  obtain ⟨Y, hY⟩ : ∃ Y, (if no = 0 then ({ X with out := [] } : Cl).okay pr k (pr (k.at_ / 8)).2 2 L else { X with out := [] }) = Y := ⟨_, rfl⟩
  rw [hY]
  have HY := hide hY
  clear hY
  go_enter Tryz.func18, Tryz.ntmps18
  go_wp2_with fail
  refine HOU.out.mono ?_
  rintro e w1 ⟨A, cap, P, F1, rfl, hP, hps, hcap, hc1, hch1, hf1⟩
  rw [H.out.2.2.2.2.2.2.1] at hP
  obtain ⟨b, o, nb, Bm, cm, rfl, hl, hbl, hbF, e0, e1, e2, e3, e4, hN, hnF⟩ := hps.one hP
  rw [hl]
  simp only [List.map_cons, List.map_nil] at hN e0 e3
  obtain ⟨bn, hbn⟩ : ∃ bn, (if k.kind = 1 then 16 else 0) = bn := ⟨_, rfl⟩
  rw [hbn] at e3
  have HBN := hide hbn
  clear hbn
  obtain ⟨nov, m1, m2, m3, V, C, hvm, hvF⟩ := H.out.2.2.2.2.2.1.chg hch1 (fun z hz => Or.inl hz)
  have HV := hide (vol_some hvm HV1.out.1)
  have HC := hide (chk_some hvm HV1.out.2.1 HV1.out.2.2)
  have HB1 := hide (H.out.2.2.2.2.2.2.2.2.chg hch1 (fun z hz => Or.inl hz))
  have HC1 := hide (And.intro hc1 (And.intro hch1 hf1))
  have HN1 := hide (And.intro hN hnF)
  have e0' : ∀ w', Below w1.heap.size w1 w' → w'.cell? ⟨b, o, none⟩ = some (.int .i64 (40 + q2)) := fun w' hb => (hb.cell (p := ⟨b, o, none⟩) hbl).trans e0
  have e1' : ∀ w', Below w1.heap.size w1 w' → w'.cell? ⟨b, o + 1, none⟩ = some (.int .i64 15) := fun w' hb => (hb.cell (p := ⟨b, o + 1, none⟩) hbl).trans e1
  have e2' : ∀ w', Below w1.heap.size w1 w' → w'.cell? ⟨b, o + 2, none⟩ = some (.slice (some ⟨nb, 0, none⟩) 8 8) := fun w' hb => (hb.cell (p := ⟨b, o + 2, none⟩) hbl).trans e2
  have e3' : ∀ w', Below w1.heap.size w1 w' → w'.cell? ⟨b, o + 3, none⟩ = some (.slice Bm bn cm) := fun w' hb => (hb.cell (p := ⟨b, o + 3, none⟩) hbl).trans e3
  have e4' : ∀ w', Below w1.heap.size w1 w' → w'.cell? ⟨b, o + 4, none⟩ = some (.slice none 0 0) := fun w' hb => (hb.cell (p := ⟨b, o + 4, none⟩) hbl).trans e4
  have HE := hide (And.intro e0' (And.intro e1' (And.intro e2' (And.intro e3' e4'))))
  have r1 := Below.refl w1.heap.size w1
  have HBL := hide (And.intro hbl hbF)
  clear hP hps hcap hc1 hch1 hf1 hbl hbF e0 e1 e2 e3 e4 hN hnF hvm hvF hl HOU e0' e1' e2' e3' e4'
  go_upto_region 2 with fail
  go_wp2_with fail
  refine (HV.out _ (by first | exact r1 | exact r1.drew)).mono ?_
  rintro e w2 ⟨A2, cv, rfl, hm2, hb2⟩
  obtain ⟨bA, oA, rfl, hbA, hbA2, hcA⟩ := hm2.cell HI.out.1
  clear hm2
  obtain ⟨vb, hvb⟩ : ∃ vb, w2.heap.size = vb := ⟨_, rfl⟩
  obtain ⟨w3, hw3⟩ : ∃ w3, w2.alloc (.cells #[.int .i64 v.id, .int .i64 v.bl, .int .i64 v.p.r, .int .i64 v.p.w, .int .i64 v.p.l, .int .i64 v.p.b, .int .i64 v.ver, .slice (some ⟨bA, oA, none⟩) v.ch.length cv] 73) = w3 := ⟨_, rfl⟩
  have hb3 : Below w1.heap.size w1 w3 := hw3 ▸ belowL hb2 _
  have hvB : Blk w3 vb 73 [.int .i64 v.id, .int .i64 v.bl, .int .i64 v.p.r, .int .i64 v.p.w, .int .i64 v.p.l, .int .i64 v.p.b, .int .i64 v.ver, .slice (some ⟨bA, oA, none⟩) v.ch.length cv] := by rw [← hw3, ← hvb]; exact Blk.new rfl
  have hcA3 : w3.cell? ⟨bA, oA + K, none⟩ = some (.int .i64 i) := by rw [← hw3]; exact (World.cell?_alloc_lt w2 _ _ hbA2).trans hcA
  have hlt3 : bA < w3.heap.size := by rw [← hw3]; simp; omega
  have HW3 := hide (And.intro hvb hw3)
  have HB3 := hide (And.intro hb3 (And.intro hvB (And.intro hcA3 hlt3)))
  have f1 := HE.out.2.1 _ hb3
  have f2 := HE.out.2.2.1 _ hb3
  have f3 := HE.out.2.2.2.1 _ hb3
  have f4 := HE.out.2.2.2.2 _ hb3
  clear hvb hw3 hb2 hb3 hvB hcA hcA3 hbA2 hlt3 hbA r1
  go_upto_region 3 with fail
  rw [HW3.out.1, HW3.out.2]
  go_wp2_with fail
  refine (right25_calls w3 nb (HN1.out.1.below HB3.out.1) HZ.out.2.2.2.2.2.1 (by have := HZ.out.2.2.2.2.2.2; omega) HKK.out.1 HKK.out.2.1 HKK.out.2.2 (fun e => by rw [← HBN.out, if_pos e])).mono ?_
  rintro e w4 ⟨rfl, hb4⟩
  have hb4' : Below w1.heap.size w1 w4 := belowA hb4 HB3.out.1
  have g2 := HE.out.2.2.1 _ hb4'
  have y7 := (HB3.out.2.1.below hb4).cell 7
  simp only [List.getElem?_cons_succ, List.getElem?_cons_zero] at y7
  have ya := (hb4.cell (p := ⟨bA, oA + K, none⟩) HB3.out.2.2.2).trans HB3.out.2.2.1
  have HB4 := hide hb4'
  clear f1 f2 f3 f4 hb4 hb4'
  go_upto_region 6 with fail
  go_wp2_with fail
  refine (HC.out _ (by first | exact HB4.out | exact HB4.out.drew)).mono ?_
  rintro e w5 ⟨A5, d5, B5, d5', rfl, hm5, hb5⟩
  obtain ⟨bM, oM, rfl, hbM, hbM2, hcM⟩ := hm5.cell (j := 0) (i := q2) (by rw [← List.head?_eq_getElem?]; exact HI.out.2.2)
  clear hm5
  obtain ⟨xk, hxk⟩ : ∃ xk, w5.heap.size = xk := ⟨_, rfl⟩
  obtain ⟨w6, hw6⟩ : ∃ w6, w5.alloc (.cells #[.int .i64 ck.id, .int .i64 ck.vol, .int .i64 ck.ep, .slice (some ⟨bM, oM, none⟩) ck.me.length d5, .slice B5 ck.jo.length d5'] 89) = w6 := ⟨_, rfl⟩
  have hb6 : Below w1.heap.size w1 w6 := hw6 ▸ belowL (belowA hb5 HB4.out) _
  have hxK : Blk w6 xk 89 [.int .i64 ck.id, .int .i64 ck.vol, .int .i64 ck.ep, .slice (some ⟨bM, oM, none⟩) ck.me.length d5, .slice B5 ck.jo.length d5'] := by rw [← hw6, ← hxk]; exact Blk.new rfl
  have hcM6 : w6.cell? ⟨bM, oM, none⟩ = some (.int .i64 q2) := by rw [← hw6]; exact (World.cell?_alloc_lt w5 _ _ hbM2).trans hcM
  have hltM : bM < w6.heap.size := by rw [← hw6]; simp; omega
  have r6 := Below.refl w6.heap.size w6
  have x0 : ∀ w', Below w6.heap.size w6 w' → w'.cell? ⟨xk, 0, none⟩ = some (.int .i64 q1) := fun w' hb => by rw [hxK.rule 0 _ rfl w' hb, HI.out.2.1]
  have x3 : ∀ w', Below w6.heap.size w6 w' → w'.cell? ⟨xk, 3, none⟩ = some (.slice (some ⟨bM, oM, none⟩) ck.me.length d5) := hxK.rule 3 _ rfl
  have xm : ∀ w', Below w6.heap.size w6 w' → w'.cell? ⟨bM, oM, none⟩ = some (.int .i64 q2) := fun w' hb => (hb.cell (p := ⟨bM, oM, none⟩) hltM).trans hcM6
  have e0 : ∀ w', Below w6.heap.size w6 w' → w'.cell? ⟨b, o, none⟩ = some (.int .i64 (40 + q2)) := fun w' hb => HE.out.1 w' (belowA hb hb6)
  have hN6 := HN1.out.1.below hb6
  have n0 : ∀ w', Below w6.heap.size w6 w' → w'.cell? ⟨nb, 0, none⟩ = some (.int .i64 q1) := hN6.rule 0 _ rfl
  have n1 : ∀ w', Below w6.heap.size w6 w' → w'.cell? ⟨nb, 1, none⟩ = some (.int .i64 3) := hN6.rule 1 _ rfl
  have n2 : ∀ w', Below w6.heap.size w6 w' → w'.cell? ⟨nb, 2, none⟩ = some (.int .i64 X.num) := hN6.rule 2 _ rfl
  have n3 : ∀ w', Below w6.heap.size w6 w' → w'.cell? ⟨nb, 3, none⟩ = some (.int .i64 k.kind) := hN6.rule 3 _ rfl
  have n4 : ∀ w', Below w6.heap.size w6 w' → w'.cell? ⟨nb, 4, none⟩ = some (.int .i64 r8) := hN6.rule 4 _ rfl
  have n5 : ∀ w', Below w6.heap.size w6 w' → w'.cell? ⟨nb, 5, none⟩ = some (.int .i64 4) := hN6.rule 5 _ rfl
  have HW6 := hide (And.intro hxk hw6)
  have HB6 := hide hb6
  clear hxk hw6 hb6 hxK hcM6 hltM hN6 hcM hbM hbM2 hb5 y7 ya g2 hgeq
  go_upto_region 7 with fail
  rw [HW6.out.1, HW6.out.2]
  refine region_q (fun w' => Below w6.heap.size w6 w') (by kernel_rfl) (by kernel_rfl) (by (exact r6.drew)) ?_
  (refine wq_step (fun K hK => ?_); apply q_take (by rfl); (focus (intro w hw; (try dsimp only at hw); go_simp; (try with_reducible rfl); done)); simp only [Act.put, List.setIfInBounds_toArray, List.set_cons_zero, List.set_cons_succ]; refine hK _ ?_; clear hK K)
  (refine wq_step (fun K hK => ?_); apply q_take (by rfl); (focus (intro w hw; (try dsimp only at hw); go_simp; (try with_reducible rfl); done)); simp only [Act.put, List.setIfInBounds_toArray, List.set_cons_zero, List.set_cons_succ]; refine hK _ ?_; clear hK K)
  (refine wq_step (fun K hK => ?_); apply q_take (by rfl); (focus (intro w hw; (try dsimp only at hw); go_simp; (try with_reducible rfl); done)); simp only [Act.put, List.setIfInBounds_toArray, List.set_cons_zero, List.set_cons_succ]; refine hK _ ?_; clear hK K)
  (refine wq_step (fun K hK => ?_); apply q_take (by rfl); (focus (intro w hw; (try dsimp only at hw); go_simp; (try with_reducible rfl); done)); simp only [Act.put, List.setIfInBounds_toArray, List.set_cons_zero, List.set_cons_succ]; refine hK _ ?_; clear hK K)
  (refine wq_step (fun K hK => ?_); apply q_take (by rfl); (focus (intro w hw; (try dsimp only at hw); go_simp; (try with_reducible rfl); done)); simp only [Act.put, List.setIfInBounds_toArray, List.set_cons_zero, List.set_cons_succ]; refine hK _ ?_; clear hK K)
  (refine wq_step (fun K hK => ?_); apply q_take (by rfl); (focus (intro w hw; (try dsimp only at hw); go_simp; (try with_reducible rfl); done)); simp only [Act.put, List.setIfInBounds_toArray, List.set_cons_zero, List.set_cons_succ]; refine hK _ ?_; clear hK K)
  (refine wq_step (fun K hK => ?_); apply q_take (by rfl); (focus (intro w hw; (try dsimp only at hw); go_simp; (try with_reducible rfl); done)); simp only [Act.put, List.setIfInBounds_toArray, List.set_cons_zero, List.set_cons_succ]; refine hK _ ?_; clear hK K)
  (refine wq_step (fun K hK => ?_); apply q_take (by rfl); (focus (intro w hw; (try dsimp only at hw); go_simp; (try with_reducible rfl); done)); simp only [Act.put, List.setIfInBounds_toArray, List.set_cons_zero, List.set_cons_succ]; refine hK _ ?_; clear hK K)
  (refine wq_step (fun K hK => ?_); apply q_call (by rfl); (focus (intro w hw; (try dsimp only at hw); go_simp; (try exact ⟨rfl, rfl⟩); done)); (focus (intro w hw; (try dsimp only at hw); (go_at_call 34; refine (server25_calls q2 hme _).mono ?_; rintro e w'' ⟨rfl, rfl⟩; exact ⟨rfl, hw⟩))); simp only [Act.put, List.setIfInBounds_toArray, List.set_cons_zero, List.set_cons_succ]; refine hK _ ?_; clear hK K)
  (refine wq_step (fun K hK => ?_); apply q_take (by rfl); (focus (intro w hw; (try dsimp only at hw); go_simp; (try with_reducible rfl); done)); simp only [Act.put, List.setIfInBounds_toArray, List.set_cons_zero, List.set_cons_succ]; refine hK _ ?_; clear hK K)
  (refine wq_step (fun K hK => ?_); apply q_take (by rfl); (focus (intro w hw; (try dsimp only at hw); go_simp; (try with_reducible rfl); done)); simp only [Act.put, List.setIfInBounds_toArray, List.set_cons_zero, List.set_cons_succ]; refine hK _ ?_; clear hK K)
  (refine wq_step (fun K hK => ?_); apply q_take (by kernel_rfl); (focus (intro w hw; (try dsimp only at hw); go_simp; (try with_reducible rfl); done)); simp only [Act.put, List.setIfInBounds_toArray, List.set_cons_zero, List.set_cons_succ]; refine hK _ ?_; clear hK K)
  (refine wq_step (fun K hK => ?_); apply q_take (by kernel_rfl); (focus (intro w hw; (try dsimp only at hw); go_simp; (try with_reducible rfl); done)); simp only [Act.put, List.setIfInBounds_toArray, List.set_cons_zero, List.set_cons_succ]; refine hK _ ?_; clear hK K)
  (refine wq_step (fun K hK => ?_); apply q_take (by kernel_rfl); (focus (intro w hw; (try dsimp only at hw); go_simp; (try with_reducible rfl); done)); simp only [Act.put, List.setIfInBounds_toArray, List.set_cons_zero, List.set_cons_succ]; refine hK _ ?_; clear hK K)
  (refine wq_step (fun K hK => ?_); apply q_take (by kernel_rfl); (focus (intro w hw; (try dsimp only at hw); go_simp; (try with_reducible rfl); done)); simp only [Act.put, List.setIfInBounds_toArray, List.set_cons_zero, List.set_cons_succ]; refine hK _ ?_; clear hK K)
  (refine wq_step (fun K hK => ?_); apply q_take (by kernel_rfl); (focus (intro w hw; (try dsimp only at hw); go_simp; (try with_reducible rfl); done)); simp only [Act.put, List.setIfInBounds_toArray, List.set_cons_zero, List.set_cons_succ]; refine hK _ ?_; clear hK K)
  (refine wq_step (fun K hK => ?_); apply q_take (by kernel_rfl); (focus (intro w hw; (try dsimp only at hw); go_simp; (try with_reducible rfl); done)); simp only [Act.put, List.setIfInBounds_toArray, List.set_cons_zero, List.set_cons_succ]; refine hK _ ?_; clear hK K)
  (refine wq_step (fun K hK => ?_); apply q_take (by rfl); (focus (intro w hw; (try dsimp only at hw); go_simp; (try with_reducible rfl); done)); simp only [Act.put, List.setIfInBounds_toArray, List.set_cons_zero, List.set_cons_succ]; refine hK _ ?_; clear hK K)
  (refine wq_step (fun K hK => ?_); apply q_take (by rfl); (focus (intro w hw; (try dsimp only at hw); go_simp; (try with_reducible rfl); done)); simp only [Act.put, List.setIfInBounds_toArray, List.set_cons_zero, List.set_cons_succ]; refine hK _ ?_; clear hK K)
  (refine wq_step (fun K hK => ?_); apply q_take (by kernel_rfl); (focus (intro w hw; (try dsimp only at hw); go_simp; (try with_reducible rfl); done)); simp only [Act.put, List.setIfInBounds_toArray, List.set_cons_zero, List.set_cons_succ]; refine hK _ ?_; clear hK K)
  (refine wq_step (fun K hK => ?_); apply q_take (by kernel_rfl); (focus (intro w hw; (try dsimp only at hw); go_simp; (try with_reducible rfl); done)); simp only [Act.put, List.setIfInBounds_toArray, List.set_cons_zero, List.set_cons_succ]; refine hK _ ?_; clear hK K)
  (refine wq_step (fun K hK => ?_); apply q_take (by kernel_rfl); (focus (intro w hw; (try dsimp only at hw); go_simp; (try with_reducible rfl); done)); simp only [Act.put, List.setIfInBounds_toArray, List.set_cons_zero, List.set_cons_succ]; refine hK _ ?_; clear hK K)
  (refine wq_step (fun K hK => ?_); apply q_take (by kernel_rfl); (focus (intro w hw; (try dsimp only at hw); go_simp; (try with_reducible rfl); done)); simp only [Act.put, List.setIfInBounds_toArray, List.set_cons_zero, List.set_cons_succ]; refine hK _ ?_; clear hK K)
  (refine wq_step (fun K hK => ?_); apply q_take (by rfl); (focus (intro w hw; (try dsimp only at hw); go_simp; (try with_reducible rfl); done)); simp only [Act.put, List.setIfInBounds_toArray, List.set_cons_zero, List.set_cons_succ]; refine hK _ ?_; clear hK K)
  (refine wq_step (fun K hK => ?_); apply q_take (by rfl); (focus (intro w hw; (try dsimp only at hw); go_simp; (try with_reducible rfl); done)); simp only [Act.put, List.setIfInBounds_toArray, List.set_cons_zero, List.set_cons_succ]; refine hK _ ?_; clear hK K)
  (refine wq_step (fun K hK => ?_); apply q_take (by kernel_rfl); (focus (intro w hw; (try dsimp only at hw); go_simp; (try with_reducible rfl); done)); simp only [Act.put, List.setIfInBounds_toArray, List.set_cons_zero, List.set_cons_succ]; refine hK _ ?_; clear hK K)
  (refine wq_step (fun K hK => ?_); apply q_take (by kernel_rfl); (focus (intro w hw; (try dsimp only at hw); go_simp; (try with_reducible rfl); done)); simp only [Act.put, List.setIfInBounds_toArray, List.set_cons_zero, List.set_cons_succ]; refine hK _ ?_; clear hK K)
  (refine wq_step (fun K hK => ?_); apply q_take (by kernel_rfl); (focus (intro w hw; (try dsimp only at hw); go_simp; (try with_reducible rfl); done)); simp only [Act.put, List.setIfInBounds_toArray, List.set_cons_zero, List.set_cons_succ]; refine hK _ ?_; clear hK K)
  (refine wq_step (fun K hK => ?_); apply q_take (by kernel_rfl); (focus (intro w hw; (try dsimp only at hw); go_simp; (try with_reducible rfl); done)); simp only [Act.put, List.setIfInBounds_toArray, List.set_cons_zero, List.set_cons_succ]; refine hK _ ?_; clear hK K)
  (refine wq_step (fun K hK => ?_); apply q_take (by kernel_rfl); (focus (intro w hw; (try dsimp only at hw); go_simp; (try with_reducible rfl); done)); simp only [Act.put, List.setIfInBounds_toArray, List.set_cons_zero, List.set_cons_succ]; refine hK _ ?_; clear hK K)
  (refine wq_step (fun K hK => ?_); apply q_take (by rfl); (focus (intro w hw; (try dsimp only at hw); go_simp; (try with_reducible rfl); done)); simp only [Act.put, List.setIfInBounds_toArray, List.set_cons_zero, List.set_cons_succ]; refine hK _ ?_; clear hK K)
  (refine wq_step (fun K hK => ?_); apply q_take (by rfl); (focus (intro w hw; (try dsimp only at hw); go_simp; (try with_reducible rfl); done)); simp only [Act.put, List.setIfInBounds_toArray, List.set_cons_zero, List.set_cons_succ]; refine hK _ ?_; clear hK K)
  (refine wq_step (fun K hK => ?_); apply q_take (by kernel_rfl); (focus (intro w hw; (try dsimp only at hw); go_simp; (try with_reducible rfl); done)); simp only [Act.put, List.setIfInBounds_toArray, List.set_cons_zero, List.set_cons_succ]; refine hK _ ?_; clear hK K)
  (refine wq_step (fun K hK => ?_); apply q_take (by kernel_rfl); (focus (intro w hw; (try dsimp only at hw); go_simp; (try with_reducible rfl); done)); simp only [Act.put, List.setIfInBounds_toArray, List.set_cons_zero, List.set_cons_succ]; refine hK _ ?_; clear hK K)
  (refine wq_step (fun K hK => ?_); apply q_take (by kernel_rfl); (focus (intro w hw; (try dsimp only at hw); go_simp; (try with_reducible rfl); done)); simp only [Act.put, List.setIfInBounds_toArray, List.set_cons_zero, List.set_cons_succ]; refine hK _ ?_; clear hK K)
  (refine wq_step (fun K hK => ?_); apply q_take (by kernel_rfl); (focus (intro w hw; (try dsimp only at hw); go_simp; (try with_reducible rfl); done)); simp only [Act.put, List.setIfInBounds_toArray, List.set_cons_zero, List.set_cons_succ]; refine hK _ ?_; clear hK K)
  (refine wq_step (fun K hK => ?_); apply q_take (by kernel_rfl); (focus (intro w hw; (try dsimp only at hw); go_simp; (try with_reducible rfl); done)); simp only [Act.put, List.setIfInBounds_toArray, List.set_cons_zero, List.set_cons_succ]; refine hK _ ?_; clear hK K)
  (refine wq_step (fun K hK => ?_); apply q_take (by rfl); (focus (intro w hw; (try dsimp only at hw); go_simp; (try with_reducible rfl); done)); simp only [Act.put, List.setIfInBounds_toArray, List.set_cons_zero, List.set_cons_succ]; refine hK _ ?_; clear hK K)
  (refine wq_step (fun K hK => ?_); apply q_take (by rfl); (focus (intro w hw; (try dsimp only at hw); go_simp; (try with_reducible rfl); done)); simp only [Act.put, List.setIfInBounds_toArray, List.set_cons_zero, List.set_cons_succ]; refine hK _ ?_; clear hK K)
  (refine wq_step (fun K hK => ?_); apply q_take (by kernel_rfl); (focus (intro w hw; (try dsimp only at hw); go_simp; (try with_reducible rfl); done)); simp only [Act.put, List.setIfInBounds_toArray, List.set_cons_zero, List.set_cons_succ]; refine hK _ ?_; clear hK K)
  (refine wq_step (fun K hK => ?_); apply q_take (by kernel_rfl); (focus (intro w hw; (try dsimp only at hw); go_simp; (try with_reducible rfl); done)); simp only [Act.put, List.setIfInBounds_toArray, List.set_cons_zero, List.set_cons_succ]; refine hK _ ?_; clear hK K)
  (refine wq_step (fun K hK => ?_); apply q_take (by kernel_rfl); (focus (intro w hw; (try dsimp only at hw); go_simp; (try with_reducible rfl); done)); simp only [Act.put, List.setIfInBounds_toArray, List.set_cons_zero, List.set_cons_succ]; refine hK _ ?_; clear hK K)
  (refine wq_step (fun K hK => ?_); apply q_take (by kernel_rfl); (focus (intro w hw; (try dsimp only at hw); go_simp; (try with_reducible rfl); done)); simp only [Act.put, List.setIfInBounds_toArray, List.set_cons_zero, List.set_cons_succ]; refine hK _ ?_; clear hK K)
  (refine wq_step (fun K hK => ?_); apply q_take (by kernel_rfl); (focus (intro w hw; (try dsimp only at hw); go_simp; (try with_reducible rfl); done)); simp only [Act.put, List.setIfInBounds_toArray, List.set_cons_zero, List.set_cons_succ]; refine hK _ ?_; clear hK K)
  (refine wq_step (fun K hK => ?_); apply q_take (by kernel_rfl); (focus (intro w hw; (try dsimp only at hw); go_simp; (try with_reducible rfl); done)); simp only [Act.put, List.setIfInBounds_toArray, List.set_cons_zero, List.set_cons_succ]; refine hK _ ?_; clear hK K)
  (refine wq_step (fun K hK => ?_); apply q_take (by rfl); (focus (intro w hw; (try dsimp only at hw); go_simp; (try with_reducible rfl); done)); simp only [Act.put, List.setIfInBounds_toArray, List.set_cons_zero, List.set_cons_succ]; refine hK _ ?_; clear hK K)
  (refine wq_step (fun K hK => ?_); apply q_take (by rfl); (focus (intro w hw; (try dsimp only at hw); go_simp; (try with_reducible rfl); done)); simp only [Act.put, List.setIfInBounds_toArray, List.set_cons_zero, List.set_cons_succ]; refine hK _ ?_; clear hK K)
  (refine wq_step (fun K hK => ?_); apply q_take (by kernel_rfl); (focus (intro w hw; (try dsimp only at hw); go_simp; (try with_reducible rfl); done)); simp only [Act.put, List.setIfInBounds_toArray, List.set_cons_zero, List.set_cons_succ]; refine hK _ ?_; clear hK K)
  (refine wq_step (fun K hK => ?_); apply q_take (by kernel_rfl); (focus (intro w hw; (try dsimp only at hw); go_simp; (try with_reducible rfl); done)); simp only [Act.put, List.setIfInBounds_toArray, List.set_cons_zero, List.set_cons_succ]; refine hK _ ?_; clear hK K)
  (refine wq_step (fun K hK => ?_); apply q_take (by kernel_rfl); (focus (intro w hw; (try dsimp only at hw); go_simp; (try with_reducible rfl); done)); simp only [Act.put, List.setIfInBounds_toArray, List.set_cons_zero, List.set_cons_succ]; refine hK _ ?_; clear hK K)
  (refine wq_step (fun K hK => ?_); apply q_take (by kernel_rfl); (focus (intro w hw; (try dsimp only at hw); go_simp; (try with_reducible rfl); done)); simp only [Act.put, List.setIfInBounds_toArray, List.set_cons_zero, List.set_cons_succ]; refine hK _ ?_; clear hK K)
  (refine wq_step (fun K hK => ?_); apply q_take (by rfl); (focus (intro w hw; (try dsimp only at hw); go_simp; (try with_reducible rfl); done)); simp only [Act.put, List.setIfInBounds_toArray, List.set_cons_zero, List.set_cons_succ]; refine hK _ ?_; clear hK K)
  refine wq_nil ?_
  intro wq hwq
  have hbq : Below w1.heap.size w1 wq := belowA hwq HB6.out
  have HBQ := hide hbq
  clear x0 x3 xm e0 n0 n1 n2 n3 n4 n5 r6 hwq hbq
  go_upto_if 117 with fail
  go_cut [21] from 22 to 134 (fun t wx => t = .int .i64 z ∧ Below wq.heap.size wq wx)
  case first =>
    have rq := Below.refl wq.heap.size wq
    rcases HZ.out.1 with ⟨h7, h8⟩ | ⟨h7, h8⟩ | ⟨h7, h8⟩ | ⟨h7, h8⟩ <;> subst h7 <;> subst h8 <;>
    (go_wp2
     go_meet
     first
     | exact ⟨rfl, rq⟩
     | exact ⟨rfl, belowL rq _⟩)
  case rest =>
    obtain ⟨rfl, hbc⟩ := hcut
    have hb1c : Below w1.heap.size w1 wc := belowA hbc HBQ.out
    have e0 := HE.out.1 wc hb1c
    have HBC := hide hb1c
    clear hbc hb1c
    obtain ⟨n2, hn2⟩ : ∃ n2, wc.heap.size = n2 := ⟨_, rfl⟩
    obtain ⟨wd, hwd⟩ : ∃ wd, wc.alloc (.cells #[.int .i64 3, .int .i64 X.num, .int .i64 z, .int .i64 2] 3) = wd := ⟨_, rfl⟩
    have hbd : Below w1.heap.size w1 wd := hwd ▸ belowL HBC.out _
    have hN2 : Blk wd n2 3 [.int .i64 3, .int .i64 X.num, .int .i64 z, .int .i64 2] := by rw [← hwd, ← hn2]; exact Blk.new rfl
    have hnF2 : n2 ∉ F1 := fun hx => by have h3 := HC1.out.1.lt _ hx; have h4 := HBC.out.size; omega
    have hcd := HC1.out.1.below hbd
    have hBd : Rb wd F1 B cB L := (HB1.out.below hbd).plus (fun z hz => Or.inl (HC1.out.2.2 z hz))
    have hid' : ((3 : Nat) : Int) = (X.id : Int) := by rw [H.out.2.2.2.2.2.2.2.1]
    have HWD := hide (And.intro hn2 hwd)
    have HBD := hide hbd
    by_cases hno : no = 0
    · have hz0 : z = 0 := by
        rcases HZ.out.1 with h | h | h | h
        · exact h.2
        · rw [hno] at h; cases h.1
        · rw [hno] at h; cases h.1
        · rw [hno] at h; cases h.1
      have hr : i64ok (40 + q2 - 40) := by unfold i64ok; omega
      have HH := hide (chandle_ok (X := { X with out := [] }) (k := k) (fr := 40 + q2) (p := 2) (nb := n2) hcd H.out.2.1 H.out.2.2.1 H.out.2.2.2.1 H.out.2.2.2.2.1 (by rw [hz0] at hN2; rw [← hid']; exact hN2) hnF2 hBd (HZ.out.2.1 hno) HZ.out.2.2.1 HZ.out.2.2.2.1 hr HZ.out.2.2.2.2.1 HZ.out.2.2.2.2.2.2 (by simp))
      rw [if_pos hno] at HY
      have HNO := hide hno
      clear hn2 hwd hbd hN2 hnF2 hcd hBd hid' hno hz0 hr
      go_upto_region 12 with fail
      go_wp2_with fail
      rw [HWD.out.1, HWD.out.2]
      refine HH.out.mono ?_
      rintro e w9 ⟨rfl, hco⟩
      have HCO := hide hco
      clear hco
      go_wp2
      go_ret
      refine ⟨rfl, ?_⟩
      rw [← HY.out, HK.out.1, HK.out.2.2]
      have h9 := HCO.out
      rw [show 40 + q2 - 40 = q2 by omega] at h9
      exact (h9.back (Chg.of_below (L := F1) HBD.out) (fun z hz => Or.inl hz)).back HC1.out.2.1 (fun z hz => Or.inl (HC1.out.2.2 z hz))
    · have hz0 : z = 7 ∨ z = 12 ∨ z = 18 := by
        rcases HZ.out.1 with h | h | h | h
        · exact absurd h.1 hno
        · exact Or.inr (Or.inr h.2)
        · exact Or.inr (Or.inl h.2)
        · exact Or.inl h.2
      have HH := hide (chandle_no (X := { X with out := [] }) (k := k) (fr := 40 + q2) (p := 2) (nb := n2) (v := .slice B L.length cB) hcd H.out.2.1 hz0 (by rw [← hid']; exact hN2))
      rw [if_neg hno] at HY
      have HCD := hide hcd
      clear hn2 hwd hbd hN2 hnF2 hcd hBd hid' hno hz0
      go_upto_region 12 with fail
      go_wp2_with fail
      rw [HWD.out.1, HWD.out.2]
      refine HH.out.mono ?_
      rintro e w9 ⟨rfl, hb9⟩
      have HB9 := hide hb9
      clear hb9
      go_wp2
      go_ret
      refine ⟨rfl, ?_⟩
      rw [← HY.out]
      exact ⟨F1, (HCD.out.below HB9.out).mono (by omega), HC1.out.2.1.trans (Chg.of_below (L := F1) (belowA HB9.out HBD.out)) (fun z hz => Or.inl (HC1.out.2.2 z hz)), fun z hz => Or.inl (HC1.out.2.2 z hz)⟩
end
end Go.Proofs.YtanfdnpnkdiiiaaGreat
