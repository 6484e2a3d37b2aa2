/- slices.Values and slices.Collect over a heap's entries: the iterator's contract; what is collected. -/
import Derived.RangeFuncNested
import Derived.RangeFuncBound
import Derived.RangeFuncCalls
import Derived.RangeFuncLeaves
import Derived.Shelf.Abstract
import Derived.Shelf.RegionOpen
import Derived.WalkKit
import Derived.OwnWalkIn
import Derived.TacticsInMore
import Derived.LoopNIn
import Derived.LoopIn
import Derived.Maps.AppendAt
import Derived.Test.YtjdkafamaoeifaaLoad
import Derived.Test.YtjdkafamaoeifaaSep
-- PARTIAL
namespace Go.Proofs.Ytjdkafamaoeifaa
open Go.RowKit Go.Proofs Go.Shelf
set_option linter.unusedVariables false

attribute [local go_sem] Oper.semAt_some

theorem ldc (xs : List Ld) (k : Nat) (hk : k < xs.length) : (ldCells xs)[k * 2]? = some (.int .i64 (xs[k]?.getD ⟨0, 0⟩).id) ∧ (ldCells xs)[k * 2 + 1]? = some (.int .i64 (xs[k]?.getD ⟨0, 0⟩).n) := by
  have h0 := ldCells_get xs k 0 hk (by omega)
  have h1 := ldCells_get xs k 1 hk (by omega)
  rw [show xs[k]?.getD ⟨0, 0⟩ = xs[k] by simp [hk]]
  exact ⟨h0, h1⟩
theorem ldCells_app (xs : List Ld) (x : Ld) : ldCells (xs ++ [x]) = ldCells xs ++ [.int .i64 x.id, .int .i64 x.n] := by
  unfold ldCells
  simp [Ld.cells]
set_option maxRecDepth 100000 in
set_option maxHeartbeats 2000000 in
theorem vals1_in (F : Fence) (n : Nat) (h7 : F.fn 83) (hro : F.round = none) (hn : 1 ≤ n) (l Bs n₀ cap : Nat) (A : Option Addr) (zs : List Ld) (hlen : zs.length ≤ 1000000) (J Jx : List Ld → World → Prop)
    (hY : ∀ pre x W, J pre W → pre.length < zs.length → YieldAt F (n - 1) Try.prog l #[.agg #[.int .i64 x.id, .int .i64 x.n]] W fun e W' =>
      (e = .returned (.bool true) ∧ J (pre ++ [x]) W' ∧ Below n₀ W W') ∨ (e = .returned (.bool false) ∧ Jx (pre ++ [x]) W'))
    (W : World) (hJ : AbidesFrom W.heap.size J) (hn0 : n₀ ≤ W.heap.size) (hBs : W.cell? ⟨Bs, 0, none⟩ = some (.slice A zs.length cap)) (hR : Reads W n₀ 2 A zs.length (ldCells zs)) (h0 : J [] W) :
    CallsIn F n Try.prog 83 #[.func (.yield l) #[] #[], .pointer (some ⟨Bs, 0, none⟩)] W fun e W' => (∃ v, e = .returned v) ∧
      ((∃ ys, ys = zs ∧ J ys W') ∨ (∃ pre, pre <+: zs ∧ Jx pre W')) := by
  refine callsIn_of_wp Try.func83 rfl h7 ?_ hro
  simp only [Try.ntmps83, List.size_toArray, List.length_cons, List.length_nil, Nat.reduceAdd, Nat.reduceSub, Array.replicate_succ, Array.replicate_zero, List.push_toArray, List.append_toArray, List.nil_append, List.cons_append]
  gi_wp2
  gi_loopw [7] (fun i wr => ∃ k : Nat, k ≤ zs.length ∧ i = .int .i64 k ∧ J (zs.take k) wr ∧ Below n₀ W wr)
    (fun i _ => zs.length - (intOf i).toNat)
  case atStart => exact ⟨0, Nat.zero_le _, rfl, h0, Below.refl _ _⟩
  case round =>
    obtain ⟨k, hk, rfl, hJs, hnx⟩ := hrel
    by_cases hlt : k < zs.length
    · obtain ⟨b, o, rfl, hb, hc⟩ := hR.2 (by omega)
      have i1 : (k : Int) < zs.length := by omega
      obtain ⟨e0, e1⟩ := ldc zs k hlt
      have c0 := (hnx.cell (p := ⟨b, o + k * 2, none⟩) hb).trans (hc _ _ e0)
      have c1 := (hnx.cell (p := ⟨b, o + (k * 2 + 1), none⟩) hb).trans (hc _ _ e1)
      rw [← Nat.add_assoc] at c1
      obtain ⟨x, hx⟩ : ∃ x, zs[k]?.getD ⟨0, 0⟩ = x := ⟨_, rfl⟩
      rw [hx] at c0 c1
      have hsz := hnx.size
      have hJ2 : J (zs.take k) (wr.alloc (.cells #[.int .i64 x.id, .int .i64 x.n] 111)) := hJ _ _ _ none hJs (World.grownBy_alloc _ _ none) (fun r e => by cases e)
      have hb2 : Below n₀ wr (wr.alloc (.cells #[.int .i64 x.id, .int .i64 x.n] 111)) := (Below.refl _ _).alloc (by omega) _
      obtain ⟨fn, tmps, assign, body, hy, hR2⟩ := hY _ x _ hJ2 (by rw [List.length_take]; omega)
      clear hJ2
      gi_wp2
      refine hR2.mono ?_
      rintro e W3 (⟨rfl, hJ3, hk3⟩ | ⟨rfl, hJx3⟩)
      · gi_wp2
        go_roundw
        case rel => exact ⟨k + 1, by omega, by go_num, by rw [← hx] at hJ3; rw [List.take_succ_eq_append_getElem hlt]; simpa [hlt] using hJ3, (hnx.trans hb2).trans hk3⟩
        case measure => simp [intOf]; omega
      · gi_wp2
        refine bodyPost_ret (results_none rfl _ _ _) rfl ?_
        exact ⟨⟨_, rfl⟩, .inr ⟨_, List.take_prefix (k + 1) zs, by rw [← hx] at hJx3; rw [List.take_succ_eq_append_getElem hlt]; simpa [hlt] using hJx3⟩⟩
    · obtain rfl : k = zs.length := by omega
      have i1 : ¬ ((zs.length : Int) < zs.length) := by omega
      gi_wp2
      go_end0
      exact ⟨⟨_, rfl⟩, .inl (by simpa using hJs)⟩
set_option maxHeartbeats 1000000 in
theorem vals_in (F : Fence) (n : Nat) (h5 : F.fn 73) (hro : F.round = none) (a : Option Addr) (len cap : Nat) (w : World) :
    CallsIn F n Try.prog 73 #[.slice a len cap] w fun e w' => e = .returned (.func (.func 83) #[] #[.pointer (some ⟨w.heap.size, 0, none⟩)]) ∧ w' = w.alloc (.cells #[.slice a len cap] 79) := by
  refine callsIn_of_wp Try.func73 rfl h5 ?_ hro
  simp only [Try.ntmps73, List.size_toArray, List.length_cons, List.length_nil, Nat.reduceAdd, Nat.reduceSub, Array.replicate_succ, Array.replicate_zero, List.push_toArray, List.append_toArray, List.nil_append, List.cons_append]
  gi_wp2
  go_ret
  exact ⟨rfl, rfl⟩
theorem vals_stops (F : Fence) (n : Nat) (h7 : F.fn 83) (hro : F.round = none) (hn : 1 ≤ n) (Bs n₀ cap : Nat) (A : Option Addr) (zs : List Ld) (hlen : zs.length ≤ 1000000) (w : World) (hBs : Bs < w.heap.size) (hn₀ : n₀ ≤ w.heap.size)
    (hc : w.cell? ⟨Bs, 0, none⟩ = some (.slice A zs.length cap)) (hR : Reads w n₀ 2 A zs.length (ldCells zs)) :
    SeqStopsK F n Try.prog 83 #[.pointer (some ⟨Bs, 0, none⟩)] (fun x : Ld => #[Value.agg #[.int .i64 x.id, .int .i64 x.n]]) (Below n₀) (fun ys => ys = zs) (fun pre => pre <+: zs) zs.length w := fun l J Jx W hW hJ _ hY h0 =>
  vals1_in F n h7 hro hn l Bs n₀ cap A zs hlen J Jx hY W hJ (Nat.le_trans hn₀ hW.size) ((hW.cell (p := ⟨Bs, 0, none⟩) hBs).trans hc) (hR.below (hW.mono hn₀)) h0
theorem cell_one2 (w : World) (u v : Value) (t : TypeId) : ∀ j x, [u, v][j]? = some x → (w.alloc (.cells #[u, v] t)).cell? ((⟨w.heap.size, 0, none⟩ : Addr).add j) = some x := by
  have h : (w.alloc (.cells #[u, v] t)).heap[w.heap.size]? = some (.cells #[u, v] t (0, 0)) := World.alloc_heap_new w _
  exact World.news_of_block (cs := #[u, v]) h
theorem Try.infoEntS : (Try.prog.info? 111).map (fun i => (i.zero, i.size, i.bytes)) = some (some (.agg #[.int .i64 0, .int .i64 0]), 2, 16) := by kernel_rfl
theorem blk_kept {W W' : World} {row : Option Nat} {B : Nat} {t : TypeId} {cs : Array Value} (h : W.heap[B]? = some (.cells cs t (0, 0))) (hg : W.grownBy W' row) (hr : ∀ r, row = some r → ∃ o : Obj, W.heap[r]? = some o ∧ o.isCells = false) : W'.heap[B]? = some (.cells cs t (0, 0)) :=
  (hg.block B (Array.getElem?_eq_some_iff.1 h).1 (fun e => by obtain ⟨o, ho, hc⟩ := hr B e.symm; rw [h] at ho; cases ho; cases hc)).trans h
set_option maxRecDepth 100000 in
set_option maxHeartbeats 4000000 in
theorem apseq_in (F : Fence) (n : Nat) (hf : F.fn 97) (hg : F.fn 83) (hro : F.round = none) (hn : 4 ≤ n) (Bs cap : Nat) (A : Option Addr) (zs : List Ld) (hlen : zs.length ≤ 1000000) (w : World) (hBs : Bs < w.heap.size)
    (hc : w.cell? ⟨Bs, 0, none⟩ = some (.slice A zs.length cap)) (hR : Reads w w.heap.size 2 A zs.length (ldCells zs)) :
    CallsIn F n Try.prog 97 #[.slice none 0 0, .func (.func 83) #[] #[.pointer (some ⟨Bs, 0, none⟩)]] w fun e W' => ∃ v, e = .returned v ∧ W'.ownsRow w.heap.size 111 2 v zs.length (ldCells zs) ∧ Below w.heap.size w W' := by
  have h1 : 1 ≤ n := by omega
  obtain ⟨i0, hi, hz0, hz1, hz2⟩ := info_parts Try.infoEntS
  refine callsIn_of_wp_marks Try.func97 rfl hf ?_ hro
  simp only [Try.ntmps97, List.size_toArray, List.length_cons, List.length_nil, Nat.reduceAdd, Nat.reduceSub, Array.replicate_succ, Array.replicate_zero, List.push_toArray, List.append_toArray, List.nil_append, List.cons_append]
  gi_wp2
  have bO := Boxed.new w 79 (.slice none 0 0)
  have hB0 : Below w.heap.size w (w.alloc (.cells #[.slice none 0 0] 79)) := (Below.refl _ w).alloc (Nat.le_refl _) _
  refine wpIn_rangeFunc_ownH hro h1 (gf := 83) (lb := #[.pointer (some ⟨Bs, 0, none⟩)]) rfl hg (enters_of Try.func83 (by kernel_rfl) rfl)
    (vals_stops F (n - 1) hg hro (by omega) Bs w.heap.size cap A zs hlen (w.alloc (.cells #[.slice none 0 0] 79)) (by simp; omega) (by simp) ((hB0.cell (p := ⟨Bs, 0, none⟩) hBs).trans hc) (hR.below hB0)) belowK_t (belowK_b (by simp)) (Below.refl _ _) (fun _ => rfl)
    (fun pre W => (∃ v, Boxed W w.heap.size 79 v ∧ W.ownsRow w.heap.size 111 2 v pre.length (ldCells pre) ∧ True) ∧ Below w.heap.size w W)
    (fun _ _ _ => False)
    (OwnFrom.and (Own.from (holdsRow_own w.heap.size w.heap.size 79 111 2 (fun pre => pre.length) (fun pre => ldCells pre) (fun pre v => True)) _) (ownFrom_below (Nat.le_refl _) (by simp)))
    (fun _ _ _ _ _ hs _ _ => hs)
    ⟨⟨_, bO, World.ownsRow_nil _ _ _ _, trivial⟩, hB0⟩
    (fun x a' W => ∃ Bx, w.heap.size < Bx ∧ W.heap[Bx]? = some (.cells #[.int .i64 x.id, .int .i64 x.n] 111 (0, 0)) ∧ a' = { tmps := #[.slice none 0 0, .func (.func 83) #[] #[.pointer (some ⟨Bs, 0, none⟩)], .pointer (some ⟨w.heap.size, 0, none⟩), undef, .slice none 0 0, .pointer (some ⟨Bx, 0, none⟩), .func (.func 83) #[] #[.pointer (some ⟨Bs, 0, none⟩)], .agg #[.int .i64 x.id, .int .i64 x.n], undef, undef, undef, undef, undef], defers := [] })
    (fun x a' _ X Y row hs hg hr => by obtain ⟨Bx, h1, h2, h3⟩ := hs; exact ⟨Bx, h1, blk_kept h2 hg (fun r e => (hr r e).2), h3⟩)
    ?assign ?body ?done ?stop
  case assign =>
    rintro l pre x W K ⟨⟨v, bS1, hrow, _⟩, hB1⟩ hK
    gi_wp2
    exact hK _ _ ((KeepsOthers.alloc _ _).from _) ((Below.refl _ W).alloc hB1.size _) ⟨⟨v, bS1.alloc _, hrow.alloc _, trivial⟩, hB1.alloc hB1.size _⟩ ⟨W.heap.size, bS1.lt, World.alloc_heap_new W _, rfl⟩
  case body =>
    rintro l pre x a' W hl ⟨r, hr⟩ ⟨⟨v, hv, hrow, _⟩, hB⟩ ⟨Bx, hBx, bX, rfl⟩ hlt
    have hc := hv.cell
    have x0 : W.cell? ⟨Bx, 0, none⟩ = some (.int .i64 x.id) := by simp [World.cell?, bX]
    have x1 : W.cell? ⟨Bx, 1, none⟩ = some (.int .i64 x.n) := by simp [World.cell?, bX]
    gi_wp2_with (gi_at_builtin; refine wpListIn_append_own _ rfl _ _ 79 rfl w.heap.size 111 i0 (.agg #[.int .i64 0, .int .i64 0]) 2 16 Try.underlying79 hi hz0 hz1 hz2 rfl (by decide) _ _ _ rfl (hrow.alloc _) ⟨W.heap.size, 0, none⟩ 1 1 [.int .i64 x.id, .int .i64 x.n] rfl rfl (cell_one2 _ _ _ _) (by simp [Value.oneCell']) (by unfold maxLen; omega) (by omega) (by have := hB.size; simp; omega) ?_; intro v' w1 hown' hgrow _; obtain ⟨g', cap', rfl⟩ := ownsRow_succ hown'; obtain ⟨hv1, hv2, hr2, hk2, hb2⟩ := hv.appended (by decide) hrow hB.size (Nat.le_refl _) hown' hgrow; have hc1 := hv1.cell; have hf1 := hv1.frozen)
    exact ⟨hk2.from _, hb2, ⟨_, hv2, by rw [ldCells_app, List.length_append]; exact hr2, trivial⟩, hB.trans hb2⟩
  case done =>
    rintro D ys W hD rfl ⟨⟨v, hv, hrow, _⟩, hB⟩ hK
    have hc := hv.cell
    gi_wp2
    refine ⟨by simp, .inl ⟨_, _, rfl, run_takeDeferred hK, ?_⟩⟩
    exact ⟨_, results_tmp rfl _ _ _, v, rfl, ownsRow_putObj hrow _ hK rfl, hB.trans (belowK_b (w := w) (Nat.le_refl _) W D _ _ (by simp at hD; omega) hK rfl rfl)⟩
  case stop =>
    rintro D c pre W _ _ h _
    exact h.elim
/-- a new slice of entries -/
def OutLds (w w' : World) (e : Ending) (zs : List Ld) : Prop :=
  ∃ A' cap', e = .returned (.slice A' zs.length cap') ∧ w'.ownsRow w.heap.size 111 2 (.slice A' zs.length cap') zs.length (ldCells zs) ∧ Below w.heap.size w w'
theorem apseq_calls (Bs cap : Nat) (A : Option Addr) (zs : List Ld) (hlen : zs.length ≤ 1000000) (w : World) (hBs : Bs < w.heap.size)
    (hc : w.cell? ⟨Bs, 0, none⟩ = some (.slice A zs.length cap)) (hR : Reads w w.heap.size 2 A zs.length (ldCells zs)) :
    Calls Try.prog 97 #[.slice none 0 0, .func (.func 83) #[] #[.pointer (some ⟨Bs, 0, none⟩)]] w fun e W' => OutLds w W' e zs := by
  refine (callsIn_wide.1 (apseq_in Fence.wide 10 trivial trivial rfl (by omega) Bs cap A zs hlen w hBs hc hR)).mono ?_
  rintro e W' ⟨v, rfl, ho, hb⟩
  have ho0 := own_base ho
  obtain ⟨A', c', rfl, _⟩ := own_view ho0
  exact ⟨A', c', rfl, ho, hb⟩
set_option maxHeartbeats 1000000 in
theorem collect_calls (Bs cap : Nat) (A : Option Addr) (zs : List Ld) (hlen : zs.length ≤ 1000000) (w : World) (hBs : Bs < w.heap.size)
    (hc : w.cell? ⟨Bs, 0, none⟩ = some (.slice A zs.length cap)) (hR : Reads w w.heap.size 2 A zs.length (ldCells zs)) :
    Calls Try.prog 81 #[.func (.func 83) #[] #[.pointer (some ⟨Bs, 0, none⟩)]] w fun e W' => OutLds w W' e zs := by
  have h := apseq_calls Bs cap A zs hlen w hBs hc hR
  clear hc hR
  go_enter Try.func81, Try.ntmps81
  go_wp2_with fail
  refine h.mono ?_
  rintro e w' ⟨A', c', rfl, ho, hb⟩
  go_wp2
  go_ret
  exact ⟨A', c', rfl, ho, hb⟩
theorem vals_calls (a : Option Addr) (len cap : Nat) (w : World) :
    Calls Try.prog 73 #[.slice a len cap] w fun e w' => e = .returned (.func (.func 83) #[] #[.pointer (some ⟨w.heap.size, 0, none⟩)]) ∧ w' = w.alloc (.cells #[.slice a len cap] 79) :=
  callsIn_wide.1 (vals_in Fence.wide 10 trivial rfl a len cap w)
end Go.Proofs.Ytjdkafamaoeifaa
