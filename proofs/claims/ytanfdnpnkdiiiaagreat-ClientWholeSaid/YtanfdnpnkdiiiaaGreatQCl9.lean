/- One text of: Cl9. -/
import Derived.Deep.AppendSrc
import Derived.Deep.Upon
import Derived.Deep.CutRange
import Derived.Deep.CutBlock
import Derived.Test.YtanfdnpnkdiiiaaGreatQCB
import Derived.Test.YtanfdnpnkdiiiaaGreatQReg3
namespace Go.Proofs.YtanfdnpnkdiiiaaGreat
open Go.RowKit Go.Proofs Go.Maps
set_option linter.unusedVariables false
set_option linter.unusedSimpArgs false

section
variable {P : Program} (w : World)
/-- append of whatever is read, to an owned slice -/
theorem wp_append_rd {o : Oper} {a : Act} {K : Act → World → Prop} {Q : Exit → Act → World → Prop} (s x : Operand) (t : TypeId)
    (ho : o.op = .call { callee := .builtin .append, args := #[s, x], argTypes := #[t, t] })
    (e : TypeId) (i : TypeInfo) (z : Value) (size bytes : Nat) (ht : P.underlying t = some (.slice e)) (hi : P.info? e = some i) (hz : i.zero = some z)
    (hsize : i.size = size) (hby : i.bytes = bytes) (hzs : z.cells.size = size) (hsz : 0 < size)
    (v : Value) (n : Nat) (xs : List Value) (hs : a.eval s = v) (hown : w.ownsRow 0 e size v n xs)
    (A : Option Addr) (m c B : Nat) (news : List Value) (hx : a.eval x = .slice A m c) (hR : Reads w B size A m news) (h1 : ∀ u ∈ news, u.oneCell' = true)
    (h63 : n + m ≤ maxLen) (hbytes : (n + m) * bytes ≤ 140737488355328)
    (h : ∀ v' w', w'.ownsRow 0 e size v' (n + m) (xs ++ news) → Chg v.ownBlock.toList w w' → (∀ g, v'.ownBlock = some g → v.ownBlock = some g ∨ g = w.heap.size) →
      K (a.put o.dst v') w') : o.wp P a w K Q := by
  by_cases hm : 0 < m
  · obtain ⟨b, q, rfl, _, hc⟩ := hR.at_ hm
    refine wp_append_lies w s x t ho 0 e i z size bytes ht hi hz hsize hby hzs hsz v n xs hs hown ⟨b, q, none⟩ m c news hx hR.1 (fun j u hu => by rw [add_addr]; exact hc j u hu) h1 hm h63 hbytes (Nat.zero_le _) _ rfl
      fun g cap w' h2 h3 h4 h5 => h (.slice (some ⟨g, 0, none⟩) (n + m) cap) w' h2 (Chg.of_grown h3) fun g' hg' => ?_
    have e : g = g' := by simpa [Value.ownBlock] using hg'
    rw [← e]
    exact h4
  · have hm0 : m = 0 := by omega
    subst hm0
    have hn : news = [] := List.eq_nil_of_length_eq_zero (by simpa using hR.1)
    subst hn
    obtain ⟨A', cap, rfl, hle, _⟩ := own_view hown
    have hsr : Src P i.size t (.slice A 0 c) 0 [] w := by
      cases A with
      | none => exact Src.ofNil w ht c
      | some a => exact Src.ofSlice w ht a 0 c [] (by simp) (by simp) (by simp)
    have hr := run_append_nothing w t t o.type e i ht hi A' n cap hle _ hsr
    unfold Oper.wp execOp
    simp only [ho, resolve, invoke, builtin, Sem.run_bind, Sem.run_pure, Result.andThen_ok, List.map_toArray, List.map_cons, List.map_nil, hs, hx, hr]
    exact h _ w (by simpa using hown) (Chg.refl _ _) (fun g hg => Or.inl hg)
end
/-- four blocks are as they were -/
def Four (b1 b2 b3 b4 : Nat) (l1 l2 l3 l4 : List Value) (w : World) : Prop := Blk w b1 38 l1 ∧ Blk w b2 3 l2 ∧ Blk w b3 62 l3 ∧ Blk w b4 82 l4
theorem Four.chg {b1 b2 b3 b4 : Nat} {l1 l2 l3 l4 : List Value} {w w' : World} {L : List Nat} (h : Four b1 b2 b3 b4 l1 l2 l3 l4 w) (hc : Chg L w w') (h1 : b1 ∉ L) (h2 : b2 ∉ L) (h3 : b3 ∉ L) (h4 : b4 ∉ L) : Four b1 b2 b3 b4 l1 l2 l3 l4 w' :=
  ⟨h.1.chg hc h1, h.2.1.chg hc h2, h.2.2.1.chg hc h3, h.2.2.2.chg hc h4⟩
section
variable {w : World} {F : List Nat} {c n bl : Nat} {S : Vw} {pr : Prim} {X : Cl}
set_option maxHeartbeats 8000000 in
set_option maxRecDepth 100000 in
theorem chandle_ok {k : Wk} (h : CM w F c (some S) pr n X) (hk : X.cur = some k) (hs : Seen S.2 bl pr) (h1 : k.from_ + k.many ≤ bl) (h2 : k.done < k.many) {nb : Nat} {p fr : Int} (hN : Blk w nb 3 [.int .i64 X.id, .int .i64 X.num, .int .i64 0, .int .i64 p]) (hnF : nb ∉ F)
    {B : Option Addr} {cB : Nat} {L : List Nat} (hB : Rb w F B cB L) (h3 : k.kind = 3 → L.length = 16) (hL : L.length ≤ 16) (hrd : k.read.length ≤ 100000) (hfr : i64ok (fr - 40)) (hn : n ≤ 90000) (hnum : X.num ≤ 90000000) (ho : X.out.length ≤ 100000) :
    Calls Tryz.prog 12 #[.pointer (some ⟨c, 0, none⟩), .int .i64 fr, .agg #[.int .i64 16, .slice (some ⟨nb, 0, none⟩) 4 4, .slice B L.length cB, .slice none 0 0]] w fun e w' => e = .returned (.tuple #[]) ∧ CO w w' F c (some S) pr (n + 2) (X.okay pr k (fr - 40) p L) := by
  obtain ⟨xp, mt, cur, ans, out, Ft, Fc, Fa, Fo, h⟩ := h
  have hcu : CurM w pr Fc cur X.cur := h.cu
  rw [hk] at hcu
  obtain ⟨ma, Fb, rfl, ⟨cb, rv, B2, cB2, blen, rfl, rfl, hcb, hle, hlen, hrow⟩, hask⟩ := hcu
  obtain ⟨w0, hw0⟩ : ∃ w0, w.alloc (.cells #[.int .i64 16, .slice (some ⟨nb, 0, none⟩) 4 4, .slice B L.length cB, .slice none 0 0] 38) = w0 := ⟨_, rfl⟩
  have hb0 : Below w.heap.size w w0 := hw0 ▸ belowL (Below.refl _ _) _
  have hmb : Blk w0 w.heap.size 38 [.int .i64 16, .slice (some ⟨nb, 0, none⟩) 4 4, .slice B L.length cB, .slice none 0 0] := hw0 ▸ Blk.new rfl
  have r0 := Below.refl w0.heap.size w0
  have hN0 := hN.below hb0
  have hc0 := h.blk.below hb0
  have hcb0 := hcb.below hb0
  have e0 := hc0.rule 0 _ rfl
  have e1 := hc0.rule 1 _ rfl
  have e4 := hc0.rule 4 _ rfl
  have k0 := hcb0.rule 0 _ rfl
  have m0 := hmb.rule 0 _ rfl
  have m1 := hmb.rule 1 _ rfl
  have m2 := hmb.rule 2 _ rfl
  have n0 := hN0.rule 0 _ rfl
  have n1 := hN0.rule 1 _ rfl
  have n2 := hN0.rule 2 _ rfl
  have H := hide h
  have HCU := hide (And.intro hcb (And.intro hle (And.intro hlen (And.intro hrow hask))))
  have HSE := hide hs
  have HNB := hide (And.intro hN (And.intro hnF (And.intro hmb hb0)))
  have HBB := hide hB
  have HKK := hide hk
  have HW0 := hide hw0
  clear h hcb hle hlen hrow hask hs hN hnF hB hw0 hmb hb0 hN0 hc0 hcb0 hk
  go_enter Tryz.func12, Tryz.ntmps12
  go_upto_region 1 with fail
  rw [HW0.out]
  refine region_q (fun w' => Below w0.heap.size w0 w') (by kernel_rfl) (by kernel_rfl) (by (exact r0.drew)) ?_
  (refine wq_step (fun K hK => ?_); apply q_take (by rfl); (focus (intro w hw; (try dsimp only at hw); go_simp; (try with_reducible rfl); done)); simp only [Act.put, List.setIfInBounds_toArray, List.set_cons_zero, List.set_cons_succ]; refine hK _ ?_; clear hK K)
  (refine wq_step (fun K hK => ?_); apply q_take (by rfl); (focus (intro w hw; (try dsimp only at hw); go_simp; (try with_reducible rfl); done)); simp only [Act.put, List.setIfInBounds_toArray, List.set_cons_zero, List.set_cons_succ]; refine hK _ ?_; clear hK K)
  (refine wq_step (fun K hK => ?_); apply q_take (by rfl); (focus (intro w hw; (try dsimp only at hw); go_simp; (try with_reducible rfl); done)); simp only [Act.put, List.setIfInBounds_toArray, List.set_cons_zero, List.set_cons_succ]; refine hK _ ?_; clear hK K)
  (refine wq_step (fun K hK => ?_); apply q_take (by rfl); (focus (intro w hw; (try dsimp only at hw); go_simp; (try with_reducible rfl); done)); simp only [Act.put, List.setIfInBounds_toArray, List.set_cons_zero, List.set_cons_succ]; refine hK _ ?_; clear hK K)
  (refine wq_step (fun K hK => ?_); apply q_take (by rfl); (focus (intro w hw; (try dsimp only at hw); go_simp; (try with_reducible rfl); done)); simp only [Act.put, List.setIfInBounds_toArray, List.set_cons_zero, List.set_cons_succ]; refine hK _ ?_; clear hK K)
  (refine wq_step (fun K hK => ?_); apply q_take (by rfl); (focus (intro w hw; (try dsimp only at hw); go_simp; (try with_reducible rfl); done)); simp only [Act.put, List.setIfInBounds_toArray, List.set_cons_zero, List.set_cons_succ]; refine hK _ ?_; clear hK K)
  (refine wq_step (fun K hK => ?_); apply q_take (by kernel_rfl); (focus (intro w hw; (try dsimp only at hw); go_simp; (try with_reducible rfl); done)); simp only [Act.put, List.setIfInBounds_toArray, List.set_cons_zero, List.set_cons_succ]; refine hK _ ?_; clear hK K)
  (refine wq_step (fun K hK => ?_); apply q_take (by kernel_rfl); (focus (intro w hw; (try dsimp only at hw); go_simp; (try with_reducible rfl); done)); simp only [Act.put, List.setIfInBounds_toArray, List.set_cons_zero, List.set_cons_succ]; refine hK _ ?_; clear hK K)
  (refine wq_step (fun K hK => ?_); apply q_take (by kernel_rfl); (focus (intro w hw; (try dsimp only at hw); go_simp; (try with_reducible rfl); done)); simp only [Act.put, List.setIfInBounds_toArray, List.set_cons_zero, List.set_cons_succ]; refine hK _ ?_; clear hK K)
  (refine wq_step (fun K hK => ?_); apply q_take (by rfl); (focus (intro w hw; (try dsimp only at hw); go_simp; (try with_reducible rfl); done)); simp only [Act.put, List.setIfInBounds_toArray, List.set_cons_zero, List.set_cons_succ]; refine hK _ ?_; clear hK K)
  (refine wq_step (fun K hK => ?_); apply q_take (by rfl); (focus (intro w hw; (try dsimp only at hw); go_simp; (try with_reducible rfl); done)); simp only [Act.put, List.setIfInBounds_toArray, List.set_cons_zero, List.set_cons_succ]; refine hK _ ?_; clear hK K)
  (refine wq_step (fun K hK => ?_); apply q_take (by kernel_rfl); (focus (intro w hw; (try dsimp only at hw); go_simp; (try with_reducible rfl); done)); simp only [Act.put, List.setIfInBounds_toArray, List.set_cons_zero, List.set_cons_succ]; refine hK _ ?_; clear hK K)
  (refine wq_step (fun K hK => ?_); apply q_take (by kernel_rfl); (focus (intro w hw; (try dsimp only at hw); go_simp; (try with_reducible rfl); done)); simp only [Act.put, List.setIfInBounds_toArray, List.set_cons_zero, List.set_cons_succ]; refine hK _ ?_; clear hK K)
  (refine wq_step (fun K hK => ?_); apply q_take (by kernel_rfl); (focus (intro w hw; (try dsimp only at hw); go_simp; (try with_reducible rfl); done)); simp only [Act.put, List.setIfInBounds_toArray, List.set_cons_zero, List.set_cons_succ]; refine hK _ ?_; clear hK K)
  (refine wq_step (fun K hK => ?_); apply q_take (by kernel_rfl); (focus (intro w hw; (try dsimp only at hw); go_simp; (try with_reducible rfl); done)); simp only [Act.put, List.setIfInBounds_toArray, List.set_cons_zero, List.set_cons_succ]; refine hK _ ?_; clear hK K)
  (refine wq_step (fun K hK => ?_); apply q_take (by rfl); (focus (intro w hw; (try dsimp only at hw); go_simp; (try with_reducible rfl); done)); simp only [Act.put, List.setIfInBounds_toArray, List.set_cons_zero, List.set_cons_succ]; refine hK _ ?_; clear hK K)
  (refine wq_step (fun K hK => ?_); apply q_take (by rfl); (focus (intro w hw; (try dsimp only at hw); go_simp; (try with_reducible rfl); done)); simp only [Act.put, List.setIfInBounds_toArray, List.set_cons_zero, List.set_cons_succ]; refine hK _ ?_; clear hK K)
  (refine wq_step (fun K hK => ?_); apply q_take (by kernel_rfl); (focus (intro w hw; (try dsimp only at hw); go_simp; (try with_reducible rfl); done)); simp only [Act.put, List.setIfInBounds_toArray, List.set_cons_zero, List.set_cons_succ]; refine hK _ ?_; clear hK K)
  (refine wq_step (fun K hK => ?_); apply q_take (by kernel_rfl); (focus (intro w hw; (try dsimp only at hw); go_simp; (try with_reducible rfl); done)); simp only [Act.put, List.setIfInBounds_toArray, List.set_cons_zero, List.set_cons_succ]; refine hK _ ?_; clear hK K)
  (refine wq_step (fun K hK => ?_); apply q_take (by kernel_rfl); (focus (intro w hw; (try dsimp only at hw); go_simp; (try with_reducible rfl); done)); simp only [Act.put, List.setIfInBounds_toArray, List.set_cons_zero, List.set_cons_succ]; refine hK _ ?_; clear hK K)
  (refine wq_step (fun K hK => ?_); apply q_take (by kernel_rfl); (focus (intro w hw; (try dsimp only at hw); go_simp; (try with_reducible rfl); done)); simp only [Act.put, List.setIfInBounds_toArray, List.set_cons_zero, List.set_cons_succ]; refine hK _ ?_; clear hK K)
  (refine wq_step (fun K hK => ?_); apply q_take (by kernel_rfl); (focus (intro w hw; (try dsimp only at hw); go_simp; (try with_reducible rfl); done)); simp only [Act.put, List.setIfInBounds_toArray, List.set_cons_zero, List.set_cons_succ]; refine hK _ ?_; clear hK K)
  (refine wq_step (fun K hK => ?_); apply q_take (by kernel_rfl); (focus (intro w hw; (try dsimp only at hw); go_simp; (try with_reducible rfl); done)); simp only [Act.put, List.setIfInBounds_toArray, List.set_cons_zero, List.set_cons_succ]; refine hK _ ?_; clear hK K)
  (refine wq_step (fun K hK => ?_); apply q_take (by kernel_rfl); (focus (intro w hw; (try dsimp only at hw); go_simp; (try with_reducible rfl); done)); simp only [Act.put, List.setIfInBounds_toArray, List.set_cons_zero, List.set_cons_succ]; refine hK _ ?_; clear hK K)
  (refine wq_step (fun K hK => ?_); apply q_take (by kernel_rfl); (focus (intro w hw; (try dsimp only at hw); go_simp; (try with_reducible rfl); done)); simp only [Act.put, List.setIfInBounds_toArray, List.set_cons_zero, List.set_cons_succ]; refine hK _ ?_; clear hK K)
  (refine wq_step (fun K hK => ?_); apply q_take (by kernel_rfl); (focus (intro w hw; (try dsimp only at hw); go_simp; (try with_reducible rfl); done)); simp only [Act.put, List.setIfInBounds_toArray, List.set_cons_zero, List.set_cons_succ]; refine hK _ ?_; clear hK K)
  (refine wq_step (fun K hK => ?_); apply q_take (by rfl); (focus (intro w hw; (try dsimp only at hw); go_simp; (try with_reducible rfl); done)); simp only [Act.put, List.setIfInBounds_toArray, List.set_cons_zero, List.set_cons_succ]; refine hK _ ?_; clear hK K)
  (refine wq_step (fun K hK => ?_); apply q_take (by rfl); (focus (intro w hw; (try dsimp only at hw); go_simp; (try with_reducible rfl); done)); simp only [Act.put, List.setIfInBounds_toArray, List.set_cons_zero, List.set_cons_succ]; refine hK _ ?_; clear hK K)
  (refine wq_step (fun K hK => ?_); apply q_take (by kernel_rfl); (focus (intro w hw; (try dsimp only at hw); go_simp; (try with_reducible rfl); done)); simp only [Act.put, List.setIfInBounds_toArray, List.set_cons_zero, List.set_cons_succ]; refine hK _ ?_; clear hK K)
  (refine wq_step (fun K hK => ?_); apply q_take (by kernel_rfl); (focus (intro w hw; (try dsimp only at hw); go_simp; (try with_reducible rfl); done)); simp only [Act.put, List.setIfInBounds_toArray, List.set_cons_zero, List.set_cons_succ]; refine hK _ ?_; clear hK K)
  (refine wq_step (fun K hK => ?_); apply q_take (by kernel_rfl); (focus (intro w hw; (try dsimp only at hw); go_simp; (try with_reducible rfl); done)); simp only [Act.put, List.setIfInBounds_toArray, List.set_cons_zero, List.set_cons_succ]; refine hK _ ?_; clear hK K)
  (refine wq_step (fun K hK => ?_); apply q_take (by kernel_rfl); (focus (intro w hw; (try dsimp only at hw); go_simp; (try with_reducible rfl); done)); simp only [Act.put, List.setIfInBounds_toArray, List.set_cons_zero, List.set_cons_succ]; refine hK _ ?_; clear hK K)
  (refine wq_step (fun K hK => ?_); apply q_take (by kernel_rfl); (focus (intro w hw; (try dsimp only at hw); go_simp; (try with_reducible rfl); done)); simp only [Act.put, List.setIfInBounds_toArray, List.set_cons_zero, List.set_cons_succ]; refine hK _ ?_; clear hK K)
  (refine wq_step (fun K hK => ?_); apply q_take (by kernel_rfl); (focus (intro w hw; (try dsimp only at hw); go_simp; (try with_reducible rfl); done)); simp only [Act.put, List.setIfInBounds_toArray, List.set_cons_zero, List.set_cons_succ]; refine hK _ ?_; clear hK K)
  (refine wq_step (fun K hK => ?_); apply q_take (by kernel_rfl); (focus (intro w hw; (try dsimp only at hw); go_simp; (try with_reducible rfl); done)); simp only [Act.put, List.setIfInBounds_toArray, List.set_cons_zero, List.set_cons_succ]; refine hK _ ?_; clear hK K)
  (refine wq_step (fun K hK => ?_); apply q_take (by kernel_rfl); (focus (intro w hw; (try dsimp only at hw); go_simp; (try with_reducible rfl); done)); simp only [Act.put, List.setIfInBounds_toArray, List.set_cons_zero, List.set_cons_succ]; refine hK _ ?_; clear hK K)
  (refine wq_step (fun K hK => ?_); apply q_take (by kernel_rfl); (focus (intro w hw; (try dsimp only at hw); go_simp; (try with_reducible rfl); done)); simp only [Act.put, List.setIfInBounds_toArray, List.set_cons_zero, List.set_cons_succ]; refine hK _ ?_; clear hK K)
  (refine wq_step (fun K hK => ?_); apply q_take (by rfl); (focus (intro w hw; (try dsimp only at hw); go_simp; (try with_reducible rfl); done)); simp only [Act.put, List.setIfInBounds_toArray, List.set_cons_zero, List.set_cons_succ]; refine hK _ ?_; clear hK K)
  refine wq_nil ?_
  intro wq hwq
  have hbq : Below w.heap.size w wq := belowA hwq HNB.out.2.2.2
  have HBQ := hide (And.intro hbq hwq)
  clear hbq
  go_upto_region 8 with fail
  go_cut [71] from 7 to 71 (fun t wx => t = .bool false ∧ wx = wq)
  case first =>
    by_cases hk3 : k.kind = 3
    · have q3 : ((k.kind : Int) == 3) = true := by simp [hk3]
      have q4 := h3 hk3
      have HK3 := hide hk3
      clear hk3 h3
      go_wp2
      go_meet
      exact ⟨rfl, rfl⟩
    · have q3 : ((k.kind : Int) == 3) = false := by simp; omega
      have HK3 := hide hk3
      clear hk3 h3
      go_wp2
      go_meet
      exact ⟨rfl, rfl⟩
  case rest =>
    obtain ⟨rfl, hwc⟩ := hcut
    rw [hwc]
    clear hwc h3
    have hp := H.out.chg (Chg.of_below (L := []) HBQ.out.1) (by simp) (fun q => CurM.chg q (Chg.of_below (L := []) HBQ.out.1) (by simp))
    have hpd := hp.chg (Chg.of_below (L := []) (Below.refl wq.heap.size wq).drew) (by simp) (fun q => CurM.chg q (Chg.of_below (L := []) (Below.refl wq.heap.size wq).drew) (by simp))
    have HTK := hide (ctracker_calls hpd.tr hpd.dj.2.1.1 hpd.blk)
    obtain ⟨mb, hmb⟩ : ∃ mb, w.heap.size = mb := ⟨_, rfl⟩
    have hMq : Blk wq mb 38 [.int .i64 16, .slice (some ⟨nb, 0, none⟩) 4 4, .slice B L.length cB, .slice none 0 0] := hmb ▸ HNB.out.2.2.1.below HBQ.out.2
    have hNq := HNB.out.1.below HBQ.out.1
    have hCq := hp.blk
    have hKq := HCU.out.1.below HBQ.out.1
    obtain ⟨l1, hl1⟩ : ∃ l1 : List Value, [.int .i64 16, .slice (some ⟨nb, 0, none⟩) 4 4, .slice B L.length cB, .slice none 0 0] = l1 := ⟨_, rfl⟩
    obtain ⟨l2, hl2⟩ : ∃ l2 : List Value, [.int .i64 X.id, .int .i64 X.num, .int .i64 0, .int .i64 p] = l2 := ⟨_, rfl⟩
    obtain ⟨l3, hl3⟩ : ∃ l3 : List Value, [.int .i64 X.id, .int .i64 X.num, xp, .map (some mt), .pointer (some ⟨cb, 0, none⟩), ans, out] = l3 := ⟨_, rfl⟩
    obtain ⟨l4, hl4⟩ : ∃ l4 : List Value, [.int .i64 k.kind, .int .i64 4, .int .i64 k.from_, .int .i64 k.many, .slice B2 blen cB2, rv, .int .i64 k.done, .int .i64 k.since, .map (some ma)] = l4 := ⟨_, rfl⟩
    have hs0 : Four mb nb c cb l1 l2 l3 l4 wq.drew := ⟨(hl1 ▸ hMq).drewT, (hl2 ▸ hNq).drewT, (hl3 ▸ hCq).drewT, (hl4 ▸ hKq).drewT⟩
    have s1 : ∀ w', Four mb nb c cb l1 l2 l3 l4 w' → w'.cell? ⟨c, 4, none⟩ = some (.pointer (some ⟨cb, 0, none⟩)) := fun w' h => by rw [h.2.2.1.cell 4, ← hl3]; rfl
    have s2 : ∀ w', Four mb nb c cb l1 l2 l3 l4 w' → w'.cell? ⟨cb, 1, none⟩ = some (.int .i64 4) := fun w' h => by rw [h.2.2.2.cell 1, ← hl4]; rfl
    have s3 : ∀ w', Four mb nb c cb l1 l2 l3 l4 w' → w'.cell? ⟨mb, 1, none⟩ = some (.slice (some ⟨nb, 0, none⟩) 4 4) := fun w' h => by rw [h.1.cell 1, ← hl1]; rfl
    have s4 : ∀ w', Four mb nb c cb l1 l2 l3 l4 w' → w'.cell? ⟨nb, 3, none⟩ = some (.int .i64 p) := fun w' h => by rw [h.2.1.cell 3, ← hl2]; rfl
    have hmtF : mt ∈ Ft := hp.tr.mem
    have HNM : Hid (mb ≠ mt ∧ nb ≠ mt ∧ c ≠ mt ∧ cb ≠ mt) := hide ⟨by have := H.out.lt mt (H.out.mem.2.1 mt hmtF); omega, fun e => HNB.out.2.1 (e ▸ H.out.mem.2.1 mt hmtF), fun e => (H.out.dj.1.1 mt hmtF).1 e.symm, fun e => (H.out.dj.1.1 mt hmtF).2.1 (by rw [← e]; simp)⟩
    clear hmtF
    have hw40 : IntKind.i64.wrap (fr - 40) = fr - 40 := IntWalk.i64_in _ (by unfold i64ok at hfr; omega)
    have HSX := hide (And.intro hl1 (And.intro hl2 (And.intro hl3 hl4)))
    have HMB := hide hmb
    have HPD := hide hpd
    have HQ4 := hide (And.intro hMq (And.intro hNq (And.intro hCq hKq)))
    clear hl1 hl2 hl3 hl4 hp hpd hMq hNq hCq hKq e0 e1 e4 k0 m0 m1 m2 n0 n1 n2 r0
    go_upto_region 9 with fail
    rw [HMB.out]
    refine region_lqm (Four mb nb c cb l1 l2 l3 l4) [15] [(2, 0), (2, 1), (2, 2), (2, 3), (0, 4), (2, 5), (2, 6), (0, 7), (2, 9), (2, 10), (2, 11), (0, 12), (2, 13), (0, 14), (1, 8), (3, 15)] #[true, true, true, true, true, true, true, true, true, true, true, true, true, true, true, true] (by kernel_rfl) (by kernel_rfl) (by kernel_rfl) (by kernel_rfl) (by kernel_rfl) (by kernel_rfl) (fun _ _ _ _ _ h => h) (by (assumption)) (hL := rfl) ?_
    (apply lq_pure (by rfl); (focus (intro w; go_simp; (try with_reducible rfl); done)); intro K hK; simp only [Act.put, List.setIfInBounds_toArray, List.set_cons_zero, List.set_cons_succ]; refine hK _ ?_; clear hK K)
    (apply lq_pure (by rfl); (focus (intro w; go_simp; (try with_reducible rfl); done)); intro K hK; simp only [Act.put, List.setIfInBounds_toArray, List.set_cons_zero, List.set_cons_succ]; refine hK _ ?_; clear hK K)
    (apply lq_pure (by rfl); (focus (intro w; go_simp; (try with_reducible rfl); done)); intro K hK; simp only [Act.put, List.setIfInBounds_toArray, List.set_cons_zero, List.set_cons_succ]; refine hK _ ?_; clear hK K)
    (apply lq_pure (by rfl); (focus (intro w; go_simp; (try with_reducible rfl); done)); intro K hK; simp only [Act.put, List.setIfInBounds_toArray, List.set_cons_zero, List.set_cons_succ]; refine hK _ ?_; clear hK K)
    (apply lq_take (by rfl); (focus (intro w hw; (try dsimp only at hw); go_simp; (try with_reducible rfl); done)); intro K hK; simp only [Act.put, List.setIfInBounds_toArray, List.set_cons_zero, List.set_cons_succ]; refine hK _ ?_; clear hK K)
    (apply lq_pure (by rfl); (focus (intro w; go_simp; (try with_reducible rfl); done)); intro K hK; simp only [Act.put, List.setIfInBounds_toArray, List.set_cons_zero, List.set_cons_succ]; refine hK _ ?_; clear hK K)
    (apply lq_pure (by rfl); (focus (intro w; go_simp; (try with_reducible rfl); done)); intro K hK; simp only [Act.put, List.setIfInBounds_toArray, List.set_cons_zero, List.set_cons_succ]; refine hK _ ?_; clear hK K)
    (apply lq_take (by rfl); (focus (intro w hw; (try dsimp only at hw); go_simp; (try with_reducible rfl); done)); intro K hK; simp only [Act.put, List.setIfInBounds_toArray, List.set_cons_zero, List.set_cons_succ]; refine hK _ ?_; clear hK K)
    (apply lq_pure (by rfl); (focus (intro w; go_simp; (try with_reducible rfl); done)); intro K hK; simp only [Act.put, List.setIfInBounds_toArray, List.set_cons_zero, List.set_cons_succ]; refine hK _ ?_; clear hK K)
    (apply lq_pure (by rfl); (focus (intro w; go_simp; (try with_reducible rfl); done)); intro K hK; simp only [Act.put, List.setIfInBounds_toArray, List.set_cons_zero, List.set_cons_succ]; refine hK _ ?_; clear hK K)
    (apply lq_pure (by rfl); (focus (intro w; go_simp; (try with_reducible rfl); done)); intro K hK; simp only [Act.put, List.setIfInBounds_toArray, List.set_cons_zero, List.set_cons_succ]; refine hK _ ?_; clear hK K)
    (apply lq_take (by rfl); (focus (intro w hw; (try dsimp only at hw); go_simp; (try with_reducible rfl); done)); intro K hK; simp only [Act.put, List.setIfInBounds_toArray, List.set_cons_zero, List.set_cons_succ]; refine hK _ ?_; clear hK K)
    (apply lq_pure (by rfl); (focus (intro w; go_simp; (try with_reducible rfl); done)); intro K hK; simp only [Act.put, List.setIfInBounds_toArray, List.set_cons_zero, List.set_cons_succ]; refine hK _ ?_; clear hK K)
    (apply lq_take (by rfl); (focus (intro w hw; (try dsimp only at hw); go_simp; (try with_reducible rfl); done)); intro K hK; simp only [Act.put, List.setIfInBounds_toArray, List.set_cons_zero, List.set_cons_succ]; refine hK _ ?_; clear hK K)
    refine lq_eff (by rfl) ?_
    intro K Q1 hQ1 hK; clear hQ1; (go_simp; go_at_call 29; refine HTK.out.mono ?_; rintro e w5 ⟨tb, Fu, rfl, hg5, ht5, hc5, hf5, hn5⟩; have H5 := hide (And.intro hg5 (And.intro ht5 (And.intro hc5 (And.intro hf5 hn5)))); have hS9 : Four mb nb c cb l1 l2 l3 l4 w5 := hs0.chg H5.out.2.2.1 (by simpa using HNM.out.1) (by simpa using HNM.out.2.1) (by simpa using HNM.out.2.2.1) (by simpa using HNM.out.2.2.2); clear hg5 hc5 hf5 hn5 ht5); (try simp only [Act.put, List.setIfInBounds_toArray, List.set_cons_zero, List.set_cons_succ]); refine hK _ _ hS9 ?_; clear hK K Q1 hS9
    refine lq_effN (by rfl) ?_
    intro K Q1 hQ1 hK; clear hQ1; (go_simp; go_at_call 30; refine (tdone_calls w5 Fu tb n X.tr (fr - 40) p H5.out.2.1 hfr (by omega)).mono ?_; rintro e w6 ⟨rfl, F6, ht6, hc6, hf6, hn6⟩; have H6 := hide (And.intro ht6 (And.intro hc6 (And.intro hf6 hn6))); clear ht6 hc6 hf6 hn6); (try simp only [Act.put, List.setIfInBounds_toArray, List.set_cons_zero, List.set_cons_succ]); refine hK _ _ ?_; clear hK K Q1
    refine lq_nil ?_
    have hsq : wq.drew.heap.size = wq.heap.size := rfl
    have hL56 : ∀ z ∈ mt :: Fu, z ∈ Ft ∨ z ∈ ma :: cb :: rv.ownBlock.toList ∨ wq.drew.heap.size ≤ z := fun z hz => (H5.out.2.2.2.1 z hz).imp id Or.inr
    have hqz : ∀ z ∈ ma :: cb :: rv.ownBlock.toList, z ∉ mt :: Fu := fun z hz hx => by
      rcases H5.out.2.2.2.1 z hx with h3 | h3
      · exact (HPD.out.dj.1.2.1 z hz).2.1 h3
      · have := HPD.out.lt z (HPD.out.mem.2.2.1 z hz); omega
    have hcz : c ∉ mt :: Fu := fun hx => by
      rcases H5.out.2.2.2.1 c hx with h3 | h3
      · exact HPD.out.dj.2.2.1 h3
      · have := HPD.out.lt c HPD.out.mem.1; omega
    have hmbz : mb ∉ mt :: Fu := fun hx => by
      rcases H5.out.2.2.2.1 mb hx with h3 | h3
      · have h4 := H.out.lt mb (H.out.mem.2.1 mb h3); have := HMB.out; omega
      · have := HQ4.out.1.lt; omega
    have hnd := List.nodup_cons.1 H5.out.2.2.2.2
    have hch6 : Chg (mt :: Fu) wq.drew w6 := (H5.out.2.2.1.mono (fun z hz => Or.inl (by rw [List.mem_singleton.1 hz]; simp))).same (H6.out.2.1.mono (fun z hz => Or.inl (List.mem_cons_of_mem _ hz)))
    have hg6 := H5.out.1.chg H6.out.2.1 hnd.1
    have hw6 := HPD.out.work (n' := n + 1) (Ft' := mt :: F6) (Fc' := ma :: cb :: rv.ownBlock.toList) (cur' := .pointer (some ⟨cb, 0, none⟩)) (X' := { X with tr := X.tr.fin (fr - 40) p }) (U' := fun w Fc v => CurM w pr Fc v X.cur) hch6 hL56 (HPD.out.blk.chg hch6 hcz)
      (fun z hz => by
        rcases List.mem_cons.1 hz with rfl | hz
        · exact ⟨hL56 z (by simp), hg6.lt⟩
        · refine ⟨?_, H6.out.1.lt z hz⟩
          rcases H6.out.2.2.1 z hz with h3 | h3
          · exact hL56 z (List.mem_cons_of_mem _ h3)
          · exact Or.inr (Or.inr (Nat.le_trans H5.out.2.2.1.size h3)))
      (fun z hz => ⟨Or.inr (Or.inl hz), Nat.lt_of_lt_of_le (HPD.out.lt z (HPD.out.mem.2.2.1 z hz)) hch6.size⟩)
      (List.nodup_cons.2 ⟨fun hx => by
        rcases H6.out.2.2.1 mt hx with h3 | h3
        · exact hnd.1 h3
        · have := H5.out.1.lt; omega, H6.out.2.2.2⟩) HPD.out.dj.2.1.2.1
      (fun z hz hx => by
        rcases List.mem_cons.1 hz with rfl | hz
        · exact hqz z hx (by simp)
        · rcases H6.out.2.2.1 z hz with h3 | h3
          · exact hqz z hx (List.mem_cons_of_mem _ h3)
          · have h4 := HPD.out.lt z (HPD.out.mem.2.2.1 z hx); have := H5.out.2.2.1.size; omega)
      rfl rfl (Or.inr ⟨tb, F6, rfl, hg6, H6.out.1⟩) (CurM.chg HPD.out.cu hch6 hqz)
    have hFour := (hs0.chg hch6 hmbz (fun hx => by
      rcases H5.out.2.2.2.1 nb hx with h3 | h3
      · exact HNB.out.2.1 (H.out.mem.2.1 _ h3)
      · have := HQ4.out.2.1.lt; omega) hcz (hqz cb (by simp)))
    have hcW : Chg F w w6 := ((Chg.of_below (L := F) HBQ.out.1).drew).trans hch6 (fun z hz => by
      rcases H5.out.2.2.2.1 z hz with h3 | h3
      · exact Or.inl (H.out.mem.2.1 z h3)
      · exact Or.inr (Nat.le_trans HBQ.out.1.size h3))
    have hrB := HBB.out.chg hcW (fun z hz => Or.inl hz)
    have hrow6 : w6.ownsRow 0 5 1 rv k.read.length (bys k.read) := own_chg (own_chg HCU.out.2.2.2.1 ((Chg.of_below (L := []) HBQ.out.1).drew) (fun _ _ hx => by cases hx)) hch6 (fun g hg => hqz g (by simp [hg]))
    have r6 := Below.refl w6.heap.size w6
    have s5 : ∀ w', Four mb nb c cb l1 l2 l3 l4 w' → w'.cell? ⟨cb, 5, none⟩ = some rv := fun w' h => by rw [h.2.2.2.cell 5, ← HSX.out.2.2.2]; rfl
    have s6 : ∀ w', Four mb nb c cb l1 l2 l3 l4 w' → w'.cell? ⟨mb, 2, none⟩ = some (.slice B L.length cB) := fun w' h => by rw [h.1.cell 2, ← HSX.out.1]; rfl
    have hs6 : Four mb nb c cb l1 l2 l3 l4 w6.drew := ⟨hFour.1.drewT, hFour.2.1.drewT, hFour.2.2.1.drewT, hFour.2.2.2.drewT⟩
    have HOW : Hid (mb ∉ rv.ownBlock.toList ∧ nb ∉ rv.ownBlock.toList ∧ c ∉ rv.ownBlock.toList ∧ cb ∉ rv.ownBlock.toList) := hide ⟨fun hx => by
      have := H.out.lt mb (H.out.mem.2.2.1 mb (List.mem_cons_of_mem _ (List.mem_cons_of_mem _ hx)))
      have := HMB.out
      omega, fun hx => HNB.out.2.1 (H.out.mem.2.2.1 nb (List.mem_cons_of_mem _ (List.mem_cons_of_mem _ hx))), fun hx => (HPD.out.dj.1.2.1 c (List.mem_cons_of_mem _ (List.mem_cons_of_mem _ hx))).1 rfl, fun hx => (List.nodup_cons.1 (List.nodup_cons.1 HPD.out.dj.2.1.2.1).2).1 hx⟩
    obtain ⟨i0, hi, hz0, hz1, hz2⟩ := info_parts Tryz.infoB
    have HW6 := hide (And.intro hw6.1 (And.intro hw6.2 (And.intro hFour (And.intro hcW (And.intro hrB hrow6)))))
    have HQZ := hide (And.intro hqz HPD.out.dj.2.1.2.1)
    clear hL56 hqz hcz hmbz hnd hch6 hg6 hw6 hFour hcW hrB hrow6 s2 s3 s4 hs0
    go_upto_region 10 with fail
    refine region_lqm (Four mb nb c cb l1 l2 l3 l4) [16] [(2, 0), (2, 1), (2, 2), (0, 3), (2, 4), (2, 5), (2, 6), (0, 7), (2, 8), (2, 9), (0, 10), (2, 11), (0, 12), (1, 13), (2, 14), (2, 15), (3, 16)] #[true, true, true, true, true, true, true, true, true, true, true, true, true, true, true, true, true] (by kernel_rfl) (by kernel_rfl) (by kernel_rfl) (by kernel_rfl) (by kernel_rfl) (by kernel_rfl) (fun _ _ _ _ _ h => h) (by (assumption)) (hL := rfl) ?_
    (apply lq_pure (by rfl); (focus (intro w; go_simp; (try with_reducible rfl); done)); intro K hK; simp only [Act.put, List.setIfInBounds_toArray, List.set_cons_zero, List.set_cons_succ]; refine hK _ ?_; clear hK K)
    (apply lq_pure (by rfl); (focus (intro w; go_simp; (try with_reducible rfl); done)); intro K hK; simp only [Act.put, List.setIfInBounds_toArray, List.set_cons_zero, List.set_cons_succ]; refine hK _ ?_; clear hK K)
    (apply lq_pure (by rfl); (focus (intro w; go_simp; (try with_reducible rfl); done)); intro K hK; simp only [Act.put, List.setIfInBounds_toArray, List.set_cons_zero, List.set_cons_succ]; refine hK _ ?_; clear hK K)
    (apply lq_take (by rfl); (focus (intro w hw; (try dsimp only at hw); go_simp; (try with_reducible rfl); done)); intro K hK; simp only [Act.put, List.setIfInBounds_toArray, List.set_cons_zero, List.set_cons_succ]; refine hK _ ?_; clear hK K)
    (apply lq_pure (by rfl); (focus (intro w; go_simp; (try with_reducible rfl); done)); intro K hK; simp only [Act.put, List.setIfInBounds_toArray, List.set_cons_zero, List.set_cons_succ]; refine hK _ ?_; clear hK K)
    (apply lq_pure (by rfl); (focus (intro w; go_simp; (try with_reducible rfl); done)); intro K hK; simp only [Act.put, List.setIfInBounds_toArray, List.set_cons_zero, List.set_cons_succ]; refine hK _ ?_; clear hK K)
    (apply lq_pure (by rfl); (focus (intro w; go_simp; (try with_reducible rfl); done)); intro K hK; simp only [Act.put, List.setIfInBounds_toArray, List.set_cons_zero, List.set_cons_succ]; refine hK _ ?_; clear hK K)
    (apply lq_take (by rfl); (focus (intro w hw; (try dsimp only at hw); go_simp; (try with_reducible rfl); done)); intro K hK; simp only [Act.put, List.setIfInBounds_toArray, List.set_cons_zero, List.set_cons_succ]; refine hK _ ?_; clear hK K)
    (apply lq_pure (by rfl); (focus (intro w; go_simp; (try with_reducible rfl); done)); intro K hK; simp only [Act.put, List.setIfInBounds_toArray, List.set_cons_zero, List.set_cons_succ]; refine hK _ ?_; clear hK K)
    (apply lq_pure (by rfl); (focus (intro w; go_simp; (try with_reducible rfl); done)); intro K hK; simp only [Act.put, List.setIfInBounds_toArray, List.set_cons_zero, List.set_cons_succ]; refine hK _ ?_; clear hK K)
    (apply lq_take (by rfl); (focus (intro w hw; (try dsimp only at hw); go_simp; (try with_reducible rfl); done)); intro K hK; simp only [Act.put, List.setIfInBounds_toArray, List.set_cons_zero, List.set_cons_succ]; refine hK _ ?_; clear hK K)
    (apply lq_pure (by rfl); (focus (intro w; go_simp; (try with_reducible rfl); done)); intro K hK; simp only [Act.put, List.setIfInBounds_toArray, List.set_cons_zero, List.set_cons_succ]; refine hK _ ?_; clear hK K)
    (apply lq_take (by rfl); (focus (intro w hw; (try dsimp only at hw); go_simp; (try with_reducible rfl); done)); intro K hK; simp only [Act.put, List.setIfInBounds_toArray, List.set_cons_zero, List.set_cons_succ]; refine hK _ ?_; clear hK K)
    refine lq_eff (by rfl) ?_
    intro K Q1 hQ1 hK; clear hQ1; (refine wp_append_rd _ _ _ 23 rfl 5 i0 _ 1 1 Tryz.underlying23 hi hz0 hz1 hz2 rfl (by decide) rv k.read.length (bys k.read) rfl (own_chg HW6.out.2.2.2.2.2 (Chg.of_below (L := []) r6.drew) (fun _ _ hx => by cases hx)) B L.length cB w6.heap.size (bys L) rfl (HW6.out.2.2.2.2.1.rd.below r6.drew) (bys_one L) (by unfold maxLen; omega) (by omega) ?_; intro v7 w7 ho7 hc7 hg7; obtain ⟨A7, c7, rfl, _, _, _, _, _⟩ := own_view ho7; have hS9 := hs6.chg hc7 HOW.out.1 HOW.out.2.1 HOW.out.2.2.1 HOW.out.2.2.2; have f5 := hS9.2.2.2.cell 5; have f6 := hS9.2.2.2.cell 6; have ff := hS9.2.2.2.frozen; have c4 := hS9.2.2.1.cell 4; rw [← HSX.out.2.2.2] at f5 f6; rw [← HSX.out.2.2.1] at c4; simp only [List.getElem?_cons_succ, List.getElem?_cons_zero] at f5 f6 c4; have H7 := hide (And.intro ho7 (And.intro hc7 (And.intro hg7 hS9))); clear ho7 hc7 hg7); (try simp only [Act.put, List.setIfInBounds_toArray, List.set_cons_zero, List.set_cons_succ]); refine hK _ _ hS9 ?_; clear hK K Q1 hS9
    (apply lq_pure (by rfl); (focus (intro w; go_simp; (try with_reducible rfl); done)); intro K hK; simp only [Act.put, List.setIfInBounds_toArray, List.set_cons_zero, List.set_cons_succ]; refine hK _ ?_; clear hK K)
    (apply lq_pure (by rfl); (focus (intro w; go_simp; (try with_reducible rfl); done)); intro K hK; simp only [Act.put, List.setIfInBounds_toArray, List.set_cons_zero, List.set_cons_succ]; refine hK _ ?_; clear hK K)
    refine lq_effN (by rfl) ?_
    intro K Q1 hQ1 hK; clear hQ1; go_simp; refine hK _ _ ?_; clear hK K Q1
    refine lq_nil ?_
    have hdn : IntKind.i64.wrap ((k.done : Int) + 1) = ((k.done + 1 : Nat) : Int) := by have := HSE.out.bl; rw [IntWalk.i64_in _ (by omega)]; omega
    have hne : c ≠ cb := fun e => (HPD.out.dj.1.2.1 cb (by simp)).1 e.symm
    go_wp2_with fail
    obtain ⟨w9, hw9⟩ : ∃ w9, (w7.setCell ⟨cb, 5, none⟩ (.slice A7 (k.read.length + L.length) c7)).setCell ⟨cb, 6, none⟩ (.int .i64 ((k.done + 1 : Nat) : Int)) = w9 := ⟨_, rfl⟩
    obtain ⟨ov, hov⟩ : ∃ ov, (Value.slice A7 (k.read.length + L.length) c7).ownBlock = ov := ⟨_, rfl⟩
    have ho7 := H7.out.1
    have hg7 := H7.out.2.2.1
    rw [hov] at hg7
    have hcbL := HW6.out.1.lt cb (HW6.out.1.mem.2.2.1 cb (by simp))
    have hov2 : ∀ g, ov = some g → g ∈ rv.ownBlock.toList ∨ w6.heap.size ≤ g := fun g hg => (hg7 g hg).imp (fun h3 => by simp [h3]) (fun h3 => by rw [h3]; exact Nat.le_refl _)
    have hcb7 : ∀ g, ov = some g → g ≠ cb := fun g hg e => by
      rcases hov2 g hg with h3 | h3
      · exact HOW.out.2.2.2 (e ▸ h3)
      · omega
    have hc79 : Chg [cb] w7 w9 := hw9 ▸ ((Chg.refl _ _).setCell (Or.inl (by simp)) _).setCell (Or.inl (by simp)) _
    have hc9 : Chg (cb :: rv.ownBlock.toList) w6 w9 := (((Chg.of_below (L := cb :: rv.ownBlock.toList) r6.drew).trans H7.out.2.1 (fun z hz => Or.inl (List.mem_cons_of_mem _ hz)))).trans hc79 (fun z hz => Or.inl (by rw [List.mem_singleton.1 hz]; simp))
    have hbb9 : Blk w9 cb 82 [.int .i64 k.kind, .int .i64 4, .int .i64 k.from_, .int .i64 k.many, .slice B2 blen cB2, .slice A7 (k.read.length + L.length) c7, .int .i64 ((k.done + 1 : Nat) : Int), .int .i64 k.since, .map (some ma)] := by
      have h3 := H7.out.2.2.2.2.2.2
      rw [← HSX.out.2.2.2] at h3
      rw [← hw9]
      exact (h3.set 5 (.slice A7 (k.read.length + L.length) c7)).set 6 (.int .i64 ((k.done + 1 : Nat) : Int))
    have hbc9 : Blk w9 c 62 [.int .i64 X.id, .int .i64 X.num, xp, .map (some mt), .pointer (some ⟨cb, 0, none⟩), ans, out] := by
      have h3 := H7.out.2.2.2.2.2.1
      rw [← HSX.out.2.2.1] at h3
      rw [← hw9]
      exact (h3.oth hne _).oth hne _
    have how9 : w9.ownsRow 0 5 1 (.slice A7 (k.read.length + L.length) c7) (k.read ++ L).length (bys (k.read ++ L)) := by
      rw [bys_app, List.length_append]
      exact own_chg ho7 hc79 (fun g hg hx => hcb7 g (by rw [← hov]; exact hg) (List.mem_singleton.1 hx))
    have hw := HW6.out.1.work (n' := n + 1) (Ft' := mt :: F6) (Fc' := cb :: ov.toList) (cur' := .pointer (some ⟨cb, 0, none⟩)) (X' := { X with tr := X.tr.fin (fr - 40) p }) (U' := fun w Fc v => CurB w Fc v { k with read := k.read ++ L, done := k.done + 1 } (.map (some ma))) hc9
      (fun z hz => Or.inr (Or.inl (List.mem_cons_of_mem _ hz))) hbc9
      (fun z hz => ⟨Or.inl hz, Nat.lt_of_lt_of_le (HW6.out.1.lt z (HW6.out.1.mem.2.1 z hz)) hc9.size⟩)
      (fun z hz => by
        rcases List.mem_cons.1 hz with rfl | hz
        · exact ⟨Or.inr (Or.inl (by simp)), Nat.lt_of_lt_of_le hcbL hc9.size⟩
        · have hz' : ov = some z := by simpa using hz
          exact ⟨(hov2 z hz').elim (fun h3 => Or.inr (Or.inl (by simp at h3 ⊢; simp [h3]))) (fun h3 => Or.inr (Or.inr h3)), Nat.lt_of_lt_of_le (own_lt ho7 (by rw [hov]; exact hz')) hc79.size⟩)
      HW6.out.1.dj.2.1.1
      (List.nodup_cons.2 ⟨fun hx => hcb7 cb (by simpa using hx) rfl, by cases ov <;> simp⟩)
      (fun z hz hx => by
        rcases List.mem_cons.1 hx with rfl | hx
        · exact (HW6.out.1.dj.1.1 z hz).2.1 (by simp)
        · rcases hov2 z (by simpa using hx) with h3 | h3
          · exact (HW6.out.1.dj.1.1 z hz).2.1 (List.mem_cons_of_mem _ (List.mem_cons_of_mem _ h3))
          · have := HW6.out.1.lt z (HW6.out.1.mem.2.1 z hz); omega) rfl rfl
      (HW6.out.1.tr.chg hc9 (fun z hz hx => (HW6.out.1.dj.1.1 z hz).2.1 (List.mem_cons_of_mem _ hx)))
      ⟨cb, .slice A7 (k.read.length + L.length) c7, B2, cB2, blen, rfl, by rw [hov], hbb9, HCU.out.2.1, HCU.out.2.2.1, by rw [List.length_append]; rw [List.length_append] at how9; exact how9⟩
    have HNX := hide (cnext_calls (w := w9) (X := { X with tr := X.tr.fin (fr - 40) p }) (k := { k with read := k.read ++ L, done := k.done + 1 }) (n := n + 1) ⟨_, _, _, _, _, _, _, _, _, _, hw.1⟩ HSE.out h1 (by simp only []; omega) (by omega) (by simp only []; omega) ho)
    have HWB := hide (And.intro hc9 (And.intro hw.2 (And.intro HW6.out.1.mem HW6.out.2.1)))
    rw [show ((k.done : Int) + 1) = ((k.done + 1 : Nat) : Int) from by omega, hw9]
    clear hw hc9 hc79 hbb9 hbc9 how9 hov2 hcb7 hg7 ho7
    refine HNX.out.mono ?_
    rintro e w' ⟨rfl, hco⟩
    have HCO := hide hco
    clear hco
    go_wp2
    go_end0
    refine ⟨rfl, ?_⟩
    refine (HCO.out.back (HWB.out.1.mono (fun z hz => Or.inl (HWB.out.2.2.1.2.2.1 z (List.mem_cons_of_mem _ hz)))) HWB.out.2.1).back HW6.out.2.2.2.1 (fun z hz => (HWB.out.2.2.2 z hz).imp id (fun h3 => Nat.le_trans HBQ.out.1.size h3))
end
end Go.Proofs.YtanfdnpnkdiiiaaGreat
