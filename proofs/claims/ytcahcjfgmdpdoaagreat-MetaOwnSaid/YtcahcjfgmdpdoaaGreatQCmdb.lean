/- One text of: Cmdb. -/
import Derived.Test.YtcahcjfgmdpdoaaGreatGrows
import Derived.Test.YtcahcjfgmdpdoaaGreatQVC
import Derived.Test.YtcahcjfgmdpdoaaGreatQPack
import Derived.Test.YtcahcjfgmdpdoaaGreatQP0
import Derived.Test.YtcahcjfgmdpdoaaGreatQSR
import Derived.Test.YtcahcjfgmdpdoaaGreatQOP
set_option maxHeartbeats 4000000
set_option maxRecDepth 100000
namespace Go.Proofs.YtcahcjfgmdpdoaaGreat
open Go.RowKit Go.Proofs Go.Lib
set_option linter.unusedVariables false
set_option linter.unusedSimpArgs false

theorem growI_calls (n : Nat) (w : World) (hn : n ≤ 1000000) :
  Calls Tryz.prog 73 #[.slice none 0 0, .int .i64 (n : Int)] w fun e w' => ∃ A c, e = .returned (.slice A 0 c) ∧ w'.ownsRow 0 3 1 (.slice A 0 c) 0 [] ∧ (∀ g, A.map Addr.block = some g → w.heap.size ≤ g) ∧ Below w.heap.size w w' := by
 rcases Nat.eq_zero_or_pos n with rfl | hp
 ·refine Calls.mono (Any8.slices_Grow_room Go.Proofs.YtcahcjfgmdpdoaaGreat.growI none 0 0 0 w (Nat.le_refl _) (by omega) (by omega) (Nat.le_refl _)) fun e w' ⟨he, hw⟩ => ?_
  subst hw
  exact ⟨none, 0, he, World.ownsRow_nil _ _ _ _, (fun g hg => by cases hg), Below.refl _ _⟩
 ·obtain ⟨i0, hi, hz0, hz1, hz2⟩ := info_parts Tryz.infoI3
  refine Calls.mono (Any8.slices_Grow_grow Go.Proofs.YtcahcjfgmdpdoaaGreat.growI i0 _ hi hz0 (by rw [hz1]; decide) none 0 0 n [] w (Nat.le_refl _) (by omega) (by rw [hz2]; omega) (by omega) (by simp) (fun _ => rfl) (fun a ha => by cases ha)) fun e w' ⟨he, hw⟩ => ?_
  subst hw
  refine ⟨_, _, he, ?_, fun g hg => ?_, (Below.refl _ w).drew.alloc (Nat.le_refl _) _⟩
  ·have h1 := grownCap_ge w (0 + n) 0 (Go.Proofs.YtcahcjfgmdpdoaaGreat.growI_ren.t 25)
   have h2 := grownCap_le_maxLen w (0 + n) 0 (Go.Proofs.YtcahcjfgmdpdoaaGreat.growI_ren.t 25) (by unfold maxLen; omega)
   exact World.ownsRow_made w.drew _ _ (Nat.zero_le _) h2 (by
    have hz : (Value.int IntKind.i64 0).cells.size = 1 := rfl; rw [Array.size_append, Array.size_append, size_zeroCells, size_zeroCells, hz]; simp only [List.size_toArray, List.length_nil]
    omega)
  ·cases hg
   exact Nat.le_refl _
structure SlI where
 A : Option Addr
 c : Nat
 l : List Int
def SlI.val (x : SlI) : Value := .slice x.A x.l.length x.c
def catI : List SlI → List Int
 |[] => []
 |x :: t => x.l ++ catI t
theorem catI_cons (x : SlI) (t : List SlI) : catI (x :: t) = x.l ++ catI t := rfl
theorem catI_app (a b : List SlI) : catI (a ++ b) = catI a ++ catI b := by
 induction a with
 |nil => rfl
 |cons x t ih => rw [List.cons_append, catI_cons, catI_cons, ih, List.append_assoc]
theorem catI_take (L : List SlI) (k : Nat) (h : k < L.length) : catI (L.take (k + 1)) = catI (L.take k) ++ L[k].l := by
 rw [List.take_succ_eq_append_getElem h, catI_app, catI_cons]
 simp [catI]
theorem catI_le (L : List SlI) (k : Nat) : (catI (L.take k)).length ≤ (catI L).length := by
 conv => rhs; rw [← List.take_append_drop k L, catI_app, List.length_append]
 omega
theorem concat_calls (w : World) (no : List Nat) (q : Nat) (L : List SlI) (hq : Blk w q 28 (L.map SlI.val)) (hs : ∀ x ∈ L, Sl w no x.A x.c x.l ∧ x.l ≠ []) (hL : L.length ≤ 1000) (hl : (catI L).length ≤ 100000) :
  Calls Tryz.prog 32 #[.slice (some ⟨q, 0, none⟩) L.length L.length] w fun e w' => ∃ A c, e = .returned (.slice A (catI L).length c) ∧ OwnI w w' A c (catI L) ∧ Below w.heap.size w w' := by
 obtain ⟨i0, hi, hz0, hz1, hz2⟩ := info_parts Tryz.infoI3; have HQ := hide hq; have HS := hide hs; have HLL := hide hl; clear hq hs hl
 go_enter Tryz.func32, Tryz.ntmps32
 go_wp2
 go_loopw [3, 5, 11, 12, 13, 14, 15, 16, 17, 18, 19, 20, 21, 22] (fun sz _ ix _ _ _ _ _ _ _ _ _ _ _ wr => ∃ k : Nat, k ≤ L.length ∧ ix = .int .i64 k ∧ sz = .int .i64 (catI (L.take k)).length ∧ wr = w) (fun _ _ ix _ _ _ _ _ _ _ _ _ _ _ _ => L.length - (intOf ix).toNat)
 case atStart => exact ⟨0, Nat.zero_le _, rfl, rfl, rfl⟩
 case round =>
  obtain ⟨k, hk, rfl, rfl, rfl⟩ := hrel
  by_cases hlt : k < L.length
  ·have i1 : (k : Int) < L.length := by omega
   have g0 := HQ.out.cell k; simp only [List.getElem?_map, List.getElem?_eq_getElem hlt, Option.map_some, SlI.val] at g0; have ht := congrArg List.length (catI_take L k hlt); rw [List.length_append] at ht; have hle := catI_le L (k + 1); have HT := hd2 ht hle; obtain ⟨a, ha⟩ : ∃ a, (catI (L.take k)).length = a := ⟨_, rfl⟩; obtain ⟨x, hx⟩ : ∃ x, L[k] = x := ⟨_, rfl⟩; rw [ha, hx] at HT; rw [hx] at g0; rw [ha]; have hw : IntKind.i64.wrap ((a : Int) + x.l.length) = a + x.l.length := IntWalk.i64_in _ (by have := HT.out; have := HLL.out; omega)
   have hn : ¬ ((a : Int) + x.l.length < 0) := by omega
   clear ht hle ha hx; go_wp2
   go_roundw
   case rel => exact ⟨k + 1, by omega, by go_num, by rw [HT.out.1]; go_num, by first | exact rfl | trivial⟩
   case measure => simp [intOf]; omega
  ·have e : k = L.length := by omega
   subst e; rw [List.take_length]; have HG := hide (growI_calls (catI L).length wr (by have := HLL.out; omega)); go_wp2_with fail; refine HG.out.mono ?_; rintro e w1 ⟨A1, c1, rfl, ho, hg, hb⟩; have HO := hide ho; have HGG := hide hg; have HB := hide hb; have HQ1 := hide (HQ.out.below hb); have HS1 := hide (fun x hx => And.intro ((HS.out x hx).1.below hb) (HS.out x hx).2); clear HG ho hg hb hlt hk; obtain ⟨wo, rfl⟩ : ∃ wo, wo = wr := ⟨_, rfl⟩; go_wp2
   go_loopw [6, 8, 27, 28, 29, 30, 31, 32, 33, 34] (fun v _ ix _ _ _ _ _ _ _ wq => ∃ (k : Nat) (A2 : Option Addr) (c2 : Nat), k ≤ L.length ∧ ix = .int .i64 k ∧ v = .slice A2 (catI (L.take k)).length c2 ∧ wq.ownsRow 0 3 1 v (catI (L.take k)).length ((catI (L.take k)).map (Value.int .i64)) ∧ (∀ g, A2.map Addr.block = some g → wo.heap.size ≤ g) ∧ Below wo.heap.size wo wq) (fun _ _ ix _ _ _ _ _ _ _ _ => L.length - (intOf ix).toNat)
   case atStart => exact ⟨0, A1, c1, Nat.zero_le _, by first | exact rfl | trivial, by simp [catI], by simpa [catI] using HO.out, HGG.out, HB.out⟩
   case round =>
    obtain ⟨k, A2, c2, hk, rfl, rfl, ho, hg, hb⟩ := hrel; have HO2 := hide ho; have HG2 := hide hg; have HB2 := hide hb
    by_cases hlt : k < L.length
    ·have i1 : (k : Int) < L.length := by omega
     have g0 := (HQ.out.below hb).cell k; simp only [List.getElem?_map, List.getElem?_eq_getElem hlt, Option.map_some, SlI.val] at g0; have ht := catI_take L k hlt; have hle := catI_le L (k + 1); have hsl := HS.out L[k] (List.getElem_mem hlt); obtain ⟨x, hx⟩ : ∃ x, L[k] = x := ⟨_, rfl⟩; rw [hx] at ht g0 hsl; have hpos : 0 < x.l.length := List.length_pos_iff.2 hsl.2; obtain ⟨bA, oA, eA, hbA, hcell⟩ := (hsl.1.below hb).rd.2 hpos; have htl := congrArg List.length ht; rw [List.length_append] at htl; have HT := hide ht; have HTL := hd2 htl hle; obtain ⟨a, ha⟩ : ∃ a, catI (L.take k) = a := ⟨_, rfl⟩; obtain ⟨a', ha'⟩ : ∃ a', catI (L.take (k + 1)) = a' := ⟨_, rfl⟩; rw [ha, ha'] at HT HTL; have HA' := hide ha'; rw [ha] at HO2 ⊢; obtain ⟨A, c, l⟩ := x; simp only [] at g0 eA hcell hpos HT HTL; subst eA; clear ht hle htl hx ho hg hb ha ha' hsl
     go_wp2_with (at_builtin; refine wpList_append_lies _ rfl _ _ 28 rfl 0 3 i0 _ 1 8 Tryz.underlying28 hi hz0 hz1 hz2 rfl (by decide) (.slice A2 a.length c2) a.length (a.map (Value.int .i64)) rfl HO2.out ⟨bA, oA, none⟩ l.length c (l.map (Value.int .i64)) rfl (by simp) (fun j u hu => by rw [add_addr]; exact hcell j u hu) ?c1 hpos ?c3 ?c4 (Nat.zero_le _) _ rfl ?_)
     case c1 => intro u hu; obtain ⟨z, _, rfl⟩ := List.mem_map.1 hu; rfl
     case c3 => have := HTL.out; have := HLL.out; unfold maxLen; omega
     case c4 => have := HTL.out; have := HLL.out; omega
     intro g2 cap2 w4 hown2 hgr2 hor2 hlt2
     have hch2 := Chg.of_grown hgr2; rw [owS] at hch2 hor2
     have HG4 : Hid (wo.heap.size ≤ g2) := hide (by
      rcases hor2 with h | h
      ·exact HG2.out _ h
      ·have := HB2.out.size; omega)
     have HB4 := hide (Chg.onto HB2.out HB2.out.size hch2 (fun x hx => HG2.out x (by simpa using hx)))
     have HO4 : Hid (w4.ownsRow 0 3 1 (.slice (some ⟨g2, 0, none⟩) a'.length cap2) a'.length (a'.map (Value.int .i64))) := hide (by
      rw [HT.out, List.map_append, List.length_append]
      exact hown2)
     have hal : Hid (a.length + l.length = a'.length) := hide (by have := HTL.out.1; omega); clear hown2 hgr2 hor2 hlt2 hch2 hcell g0; go_wp2
     go_roundw
     case rel => exact ⟨k + 1, some ⟨g2, 0, none⟩, cap2, by omega, by go_num, by rw [HA'.out, hal.out], by
      rw [HA'.out, hal.out]
      exact HO4.out, fun g hg => by cases hg; exact HG4.out, HB4.out⟩
     case measure => simp [intOf]; omega
    ·have e : k = L.length := by omega
     subst e; rw [List.take_length] at HO2 ⊢; clear ho hg hb hlt; go_wp2; go_ret
     exact ⟨A2, c2, rfl, ⟨HO2.out, HG2.out⟩, HB2.out⟩
end Go.Proofs.YtcahcjfgmdpdoaaGreat

namespace Go.Proofs.YtcahcjfgmdpdoaaGreat
open Go.RowKit Go.Proofs
set_option linter.unusedVariables false
set_option linter.unusedSimpArgs false

theorem Blk.drewC {w : World} {b : Nat} {t : TypeId} {cs : List Value} (h : Blk w b t cs) : Blk w.drew b t cs := h
theorem two_sl {w : World} {x y : SlI} (h1 : Sl w [] x.A x.c x.l) (h2 : Sl w [] y.A y.c y.l) (n1 : x.l ≠ []) (n2 : y.l ≠ []) : ∀ z ∈ [x, y], Sl w [] z.A z.c z.l ∧ z.l ≠ [] := by
 intro z hz
 simp only [List.mem_cons, List.mem_nil_iff, or_false] at hz
 rcases hz with rfl | rfl
 ·exact ⟨h1, n1⟩
 ·exact ⟨h2, n2⟩
theorem Sl.ofReads {w : World} {no : List Nat} {g n : Nat} {l : List Int} (h : Reads w w.heap.size 1 (some ⟨g, 0, none⟩) n (l.map (Value.int .i64))) (hn : l.length = n) (h1 : n ≤ 1024) (hp : 0 < n) (hg : g ∉ no) : Sl w no (some ⟨g, 0, none⟩) n l := by
 subst hn
 exact ⟨Nat.le_refl _, h1, h, fun a ha => by
  cases ha
  obtain ⟨b, o, e, hb, _⟩ := h.2 hp
  cases e
  exact ⟨rfl, hg, hb⟩⟩
theorem Blk.sl {w : World} {no : List Nat} {g n : Nat} {l : List Int} (h : Blk w g 3 (l.map (Value.int .i64))) (hn : l.length = n) (h1 : n ≤ 1024) (hg : g ∉ no) : Sl w no (some ⟨g, 0, none⟩) n l := by
 subst hn
 refine ⟨Nat.le_refl _, h1, ⟨by simp, fun _ => ⟨g, 0, rfl, h.lt, fun j u hu => by rw [Nat.zero_add, h.cell j]; exact hu⟩⟩, fun a ha => by cases ha; exact ⟨rfl, hg, h.lt⟩⟩
theorem concat2_calls (w : World) (q g1 g2 : Nat) (l1 l2 : List Int) (n1 : l1.length = 4) (n2 : l2.length = 4) (hq : Blk w q 28 [.slice (some ⟨g1, 0, none⟩) 4 4, .slice (some ⟨g2, 0, none⟩) 4 4]) (s1 : Sl w [] (some ⟨g1, 0, none⟩) 4 l1) (s2 : Sl w [] (some ⟨g2, 0, none⟩) 4 l2) :
  Calls Tryz.prog 32 #[.slice (some ⟨q, 0, none⟩) 2 2] w fun e w' => ∃ A c, e = .returned (.slice A (l1 ++ l2).length c) ∧ OwnI w w' A c (l1 ++ l2) ∧ Below w.heap.size w w' := by
 have h := concat_calls w [] q [⟨some ⟨g1, 0, none⟩, 4, l1⟩, ⟨some ⟨g2, 0, none⟩, 4, l2⟩] (by simpa [SlI.val, n1, n2] using hq) (two_sl s1 s2 (fun e => by simp only [] at e; rw [e] at n1; cases n1) (fun e => by simp only [] at e; rw [e] at n2; cases n2)) (by simp) (by simp [catI, n1, n2])
 simpa [catI] using h
def Cmd.nums (q : Cmd) : List Int := [q.k, q.a, q.b, q.c, q.p.r, q.p.w, q.p.l, q.p.b]
def Cmd.bytes (q : Cmd) : List Nat := encs (q.nums.map Int.toNat)
theorem vput_calls (w : World) (q : Cmd) (hq : ∀ n ∈ q.nums, n < 2 ^ 63) :
    Calls Tryz.prog 23 #[q.val] w fun e w' => ∃ A c, e = .returned (.slice A q.bytes.length c) ∧ OwnB w w' A c q.bytes ∧ Below w.heap.size w w' := by
  obtain ⟨k0, a0, b0, c0, ⟨qr, qw, ql, qb⟩⟩ := q; have HQ := hide hq; clear hq; unfold Cmd.val Cmd.cells; simp only []
  go_enter Tryz.func23, Tryz.ntmps23
  go_wp2_with fail; obtain ⟨w0, hw0⟩ : ∃ w0, (w.alloc (.cells #[.int .i64 k0, .int .i64 a0, .int .i64 b0, .int .i64 c0, .int .i64 qr, .int .i64 qw, .int .i64 ql, .int .i64 qb] 35)).alloc (.cells #[.slice none 0 0] 78) = w0 := ⟨_, rfl⟩
  have d0 : Blk w0 w.heap.size 35 [.int .i64 k0, .int .i64 a0, .int .i64 b0, .int .i64 c0, .int .i64 qr, .int .i64 qw, .int .i64 ql, .int .i64 qb] := hw0 ▸ (Blk.new rfl).alloc _
  have hwr : WR w0 (w.heap.size + 1) none [] := by
    have := WR.new (w.alloc (.cells #[.int .i64 k0, .int .i64 a0, .int .i64 b0, .int .i64 c0, .int .i64 qr, .int .i64 qw, .int .i64 ql, .int .i64 qb] 35)); rw [hw0] at this
    simpa using this
  have hb0 : Below w.heap.size w w0 := hw0 ▸ ((Below.refl w.heap.size w).alloc (Nat.le_refl _) _).alloc (by simp) _
  have x0 := d0.rule 0 _ rfl; have x1 := d0.rule 1 _ rfl; have x2 := d0.rule 2 _ rfl; have x3 := d0.rule 3 _ rfl; have x4 := d0.rule 4 _ rfl; have x5 := d0.rule 5 _ rfl; have x6 := d0.rule 6 _ rfl; have x7 := d0.rule 7 _ rfl; have HWR := hide hwr; have HB0 := hide hb0; have r0 := Below.refl w0.heap.size w0; have HW0 := hide hw0; clear hwr hb0 d0; rw [hw0]; clear hw0
  refine region_lxf (fun w' => Below w0.heap.size w0 w') [] 5 [(2,0),(0,1),(2,2),(0,3),(2,4),(0,5),(2,6),(0,7),(2,9),(0,10),(2,15)] (bzA 16 34559) (by (first | exact r0.drew | exact (r0.drew).alloc (Nat.le_refl _) _ | exact (r0.alloc (Nat.le_refl _) _).drew | exact hb1' | exact hb2' | exact hb1'.alloc hb1'.size _ | exact (hb1'.alloc hb1'.size _).alloc (by have := hb1'.size; simp; omega) _ | assumption)) (fun hS0 => ?_)
  (iterate 11 (first | refine lxt ?_ | refine lxp ?_))
  refine lxN (lxf2 8 11 (bzA 16 34815) (bzA 16 36607) ?_ ?_)
  focus
    refine lxa ?_
    go_simp
    refine lxB (by (first | exact r0.drew | exact (r0.drew).alloc (Nat.le_refl _) _ | exact (r0.alloc (Nat.le_refl _) _).drew | exact hb1' | exact hb2' | exact hb1'.alloc hb1'.size _ | exact (hb1'.alloc hb1'.size _).alloc (by have := hb1'.size; simp; omega) _ | assumption)) (fun hS1 => ?_)
    refine lxm 0 [(1,11),(1,12),(1,13),(2,14)] (bzA 16 65535) ?_
    (refine lxe ?_; go_simp; (first
            | (go_at_call 33; refine (nums_calls ⟨qr, qw, ql, qb⟩ _).mono ?_; rintro e w1 ⟨rfl, hr1, hb1⟩; have hb1' : Below w0.heap.size w0 w1 := (by first | exact ((r0.alloc (Nat.le_refl _) _).drew).trans (hb1.mono (by simp)) | exact r0.drew.trans hb1); (try rw [show (w0.alloc (.cells #[.int .i64 k0, .int .i64 a0, .int .i64 b0, .int .i64 c0] 3)).drew.heap.size = w0.heap.size + 1 from by simp] at hr1); have HR1 := hide hr1; have HB1 := hide hb1; clear hr1 hb1)
            | (go_at_call 32; (first | (with_reducible refine (concat2_calls _ w1.heap.size w0.heap.size (w0.heap.size + 1 + 1) [k0, a0, b0, c0] [qr, qw, ql, qb] rfl rfl ?_ ?_ ?_).mono ?_) | (with_reducible refine (concat2_calls _ (w1.heap.size + 1) w1.heap.size (w0.heap.size + 1) [k0, a0, b0, c0] [qr, qw, ql, qb] rfl rfl ?_ ?_ ?_).mono ?_)); (focus first | exact Blk.new rfl | exact Blk.new (by simp)); (focus first | exact Sl.below (Blk.sl ((Blk.drewC (Blk.new (cs := [.int .i64 k0, .int .i64 a0, .int .i64 b0, .int .i64 c0]) rfl)).below HB1.out) rfl (by omega) (by simp)) ((Below.refl _ _).alloc (Nat.le_refl _) _) | exact Sl.below (Blk.sl (Blk.new (cs := [.int .i64 k0, .int .i64 a0, .int .i64 b0, .int .i64 c0]) rfl) rfl (by omega) (by simp)) ((Below.refl _ _).alloc (Nat.le_refl _) _)); (focus first | exact Sl.below (Sl.ofReads HR1.out rfl (by omega) (by omega) (by simp)) ((Below.refl _ _).alloc (Nat.le_refl _) _) | exact Sl.below (Sl.below (Sl.ofReads HR1.out rfl (by omega) (by omega) (by simp)) ((Below.refl _ _).alloc (Nat.le_refl _) _)) ((Below.refl _ _).alloc (Nat.le_refl _) _)); rintro e w2 ⟨A2, c2, rfl, ho2, hb2⟩; have hb2' : Below w0.heap.size w0 w2 := (show Below w0.heap.size w0 _ from by assumption).trans (hb2.mono (by have := hb1'.size; simp; omega)); have HO2 := hide (ho2.back (w := w0) (show Below w0.heap.size w0 _ from by assumption)); clear ho2 hb2)); refine lxB (by (first | exact r0.drew | exact (r0.drew).alloc (Nat.le_refl _) _ | exact (r0.alloc (Nat.le_refl _) _).drew | exact hb1' | exact hb2' | exact hb1'.alloc hb1'.size _ | exact (hb1'.alloc hb1'.size _).alloc (by have := hb1'.size; simp; omega) _ | assumption)) (fun hS1 => ?_))
    (refine lxe ?_; go_simp; refine lxB (by (first | exact r0.drew | exact (r0.drew).alloc (Nat.le_refl _) _ | exact (r0.alloc (Nat.le_refl _) _).drew | exact hb1' | exact hb2' | exact hb1'.alloc hb1'.size _ | exact (hb1'.alloc hb1'.size _).alloc (by have := hb1'.size; simp; omega) _ | assumption)) (fun hS1 => ?_))
    (refine lxe ?_; go_simp; (first
            | (go_at_call 33; refine (nums_calls ⟨qr, qw, ql, qb⟩ _).mono ?_; rintro e w1 ⟨rfl, hr1, hb1⟩; have hb1' : Below w0.heap.size w0 w1 := (by first | exact ((r0.alloc (Nat.le_refl _) _).drew).trans (hb1.mono (by simp)) | exact r0.drew.trans hb1); (try rw [show (w0.alloc (.cells #[.int .i64 k0, .int .i64 a0, .int .i64 b0, .int .i64 c0] 3)).drew.heap.size = w0.heap.size + 1 from by simp] at hr1); have HR1 := hide hr1; have HB1 := hide hb1; clear hr1 hb1)
            | (go_at_call 32; (first | (with_reducible refine (concat2_calls _ w1.heap.size w0.heap.size (w0.heap.size + 1 + 1) [k0, a0, b0, c0] [qr, qw, ql, qb] rfl rfl ?_ ?_ ?_).mono ?_) | (with_reducible refine (concat2_calls _ (w1.heap.size + 1) w1.heap.size (w0.heap.size + 1) [k0, a0, b0, c0] [qr, qw, ql, qb] rfl rfl ?_ ?_ ?_).mono ?_)); (focus first | exact Blk.new rfl | exact Blk.new (by simp)); (focus first | exact Sl.below (Blk.sl ((Blk.drewC (Blk.new (cs := [.int .i64 k0, .int .i64 a0, .int .i64 b0, .int .i64 c0]) rfl)).below HB1.out) rfl (by omega) (by simp)) ((Below.refl _ _).alloc (Nat.le_refl _) _) | exact Sl.below (Blk.sl (Blk.new (cs := [.int .i64 k0, .int .i64 a0, .int .i64 b0, .int .i64 c0]) rfl) rfl (by omega) (by simp)) ((Below.refl _ _).alloc (Nat.le_refl _) _)); (focus first | exact Sl.below (Sl.ofReads HR1.out rfl (by omega) (by omega) (by simp)) ((Below.refl _ _).alloc (Nat.le_refl _) _) | exact Sl.below (Sl.below (Sl.ofReads HR1.out rfl (by omega) (by omega) (by simp)) ((Below.refl _ _).alloc (Nat.le_refl _) _)) ((Below.refl _ _).alloc (Nat.le_refl _) _)); rintro e w2 ⟨A2, c2, rfl, ho2, hb2⟩; have hb2' : Below w0.heap.size w0 w2 := (show Below w0.heap.size w0 _ from by assumption).trans (hb2.mono (by have := hb1'.size; simp; omega)); have HO2 := hide (ho2.back (w := w0) (show Below w0.heap.size w0 _ from by assumption)); clear ho2 hb2)); refine lxB (by (first | exact r0.drew | exact (r0.drew).alloc (Nat.le_refl _) _ | exact (r0.alloc (Nat.le_refl _) _).drew | exact hb1' | exact hb2' | exact hb1'.alloc hb1'.size _ | exact (hb1'.alloc hb1'.size _).alloc (by have := hb1'.size; simp; omega) _ | assumption)) (fun hS1 => ?_))
    refine lxp ?_
    refine lxN (lxd ?_)
  rotate_left
  focus
    refine lxa ?_
    go_simp
    (first
            | (go_at_call 33; refine (nums_calls ⟨qr, qw, ql, qb⟩ _).mono ?_; rintro e w1 ⟨rfl, hr1, hb1⟩; have hb1' : Below w0.heap.size w0 w1 := (by first | exact ((r0.alloc (Nat.le_refl _) _).drew).trans (hb1.mono (by simp)) | exact r0.drew.trans hb1); (try rw [show (w0.alloc (.cells #[.int .i64 k0, .int .i64 a0, .int .i64 b0, .int .i64 c0] 3)).drew.heap.size = w0.heap.size + 1 from by simp] at hr1); have HR1 := hide hr1; have HB1 := hide hb1; clear hr1 hb1)
            | (go_at_call 32; (first | (with_reducible refine (concat2_calls _ w1.heap.size w0.heap.size (w0.heap.size + 1 + 1) [k0, a0, b0, c0] [qr, qw, ql, qb] rfl rfl ?_ ?_ ?_).mono ?_) | (with_reducible refine (concat2_calls _ (w1.heap.size + 1) w1.heap.size (w0.heap.size + 1) [k0, a0, b0, c0] [qr, qw, ql, qb] rfl rfl ?_ ?_ ?_).mono ?_)); (focus first | exact Blk.new rfl | exact Blk.new (by simp)); (focus first | exact Sl.below (Blk.sl ((Blk.drewC (Blk.new (cs := [.int .i64 k0, .int .i64 a0, .int .i64 b0, .int .i64 c0]) rfl)).below HB1.out) rfl (by omega) (by simp)) ((Below.refl _ _).alloc (Nat.le_refl _) _) | exact Sl.below (Blk.sl (Blk.new (cs := [.int .i64 k0, .int .i64 a0, .int .i64 b0, .int .i64 c0]) rfl) rfl (by omega) (by simp)) ((Below.refl _ _).alloc (Nat.le_refl _) _)); (focus first | exact Sl.below (Sl.ofReads HR1.out rfl (by omega) (by omega) (by simp)) ((Below.refl _ _).alloc (Nat.le_refl _) _) | exact Sl.below (Sl.below (Sl.ofReads HR1.out rfl (by omega) (by omega) (by simp)) ((Below.refl _ _).alloc (Nat.le_refl _) _)) ((Below.refl _ _).alloc (Nat.le_refl _) _)); rintro e w2 ⟨A2, c2, rfl, ho2, hb2⟩; have hb2' : Below w0.heap.size w0 w2 := (show Below w0.heap.size w0 _ from by assumption).trans (hb2.mono (by have := hb1'.size; simp; omega)); have HO2 := hide (ho2.back (w := w0) (show Below w0.heap.size w0 _ from by assumption)); clear ho2 hb2))
    refine lxB (by (first | exact r0.drew | exact (r0.drew).alloc (Nat.le_refl _) _ | exact (r0.alloc (Nat.le_refl _) _).drew | exact hb1' | exact hb2' | exact hb1'.alloc hb1'.size _ | exact (hb1'.alloc hb1'.size _).alloc (by have := hb1'.size; simp; omega) _ | assumption)) (fun hS1 => ?_)
    refine lxm 0 [(1,8),(1,12),(1,13),(2,14)] (bzA 16 65535) ?_
    (iterate 2 ((refine lxe ?_; go_simp; refine lxB (by (first | exact r0.drew | exact (r0.drew).alloc (Nat.le_refl _) _ | exact (r0.alloc (Nat.le_refl _) _).drew | exact hb1' | exact hb2' | exact hb1'.alloc hb1'.size _ | exact (hb1'.alloc hb1'.size _).alloc (by have := hb1'.size; simp; omega) _ | assumption)) (fun hS1 => ?_))))
    (refine lxe ?_; go_simp; (first
            | (go_at_call 33; refine (nums_calls ⟨qr, qw, ql, qb⟩ _).mono ?_; rintro e w1 ⟨rfl, hr1, hb1⟩; have hb1' : Below w0.heap.size w0 w1 := (by first | exact ((r0.alloc (Nat.le_refl _) _).drew).trans (hb1.mono (by simp)) | exact r0.drew.trans hb1); (try rw [show (w0.alloc (.cells #[.int .i64 k0, .int .i64 a0, .int .i64 b0, .int .i64 c0] 3)).drew.heap.size = w0.heap.size + 1 from by simp] at hr1); have HR1 := hide hr1; have HB1 := hide hb1; clear hr1 hb1)
            | (go_at_call 32; (first | (with_reducible refine (concat2_calls _ w1.heap.size w0.heap.size (w0.heap.size + 1 + 1) [k0, a0, b0, c0] [qr, qw, ql, qb] rfl rfl ?_ ?_ ?_).mono ?_) | (with_reducible refine (concat2_calls _ (w1.heap.size + 1) w1.heap.size (w0.heap.size + 1) [k0, a0, b0, c0] [qr, qw, ql, qb] rfl rfl ?_ ?_ ?_).mono ?_)); (focus first | exact Blk.new rfl | exact Blk.new (by simp)); (focus first | exact Sl.below (Blk.sl ((Blk.drewC (Blk.new (cs := [.int .i64 k0, .int .i64 a0, .int .i64 b0, .int .i64 c0]) rfl)).below HB1.out) rfl (by omega) (by simp)) ((Below.refl _ _).alloc (Nat.le_refl _) _) | exact Sl.below (Blk.sl (Blk.new (cs := [.int .i64 k0, .int .i64 a0, .int .i64 b0, .int .i64 c0]) rfl) rfl (by omega) (by simp)) ((Below.refl _ _).alloc (Nat.le_refl _) _)); (focus first | exact Sl.below (Sl.ofReads HR1.out rfl (by omega) (by omega) (by simp)) ((Below.refl _ _).alloc (Nat.le_refl _) _) | exact Sl.below (Sl.below (Sl.ofReads HR1.out rfl (by omega) (by omega) (by simp)) ((Below.refl _ _).alloc (Nat.le_refl _) _)) ((Below.refl _ _).alloc (Nat.le_refl _) _)); rintro e w2 ⟨A2, c2, rfl, ho2, hb2⟩; have hb2' : Below w0.heap.size w0 w2 := (show Below w0.heap.size w0 _ from by assumption).trans (hb2.mono (by have := hb1'.size; simp; omega)); have HO2 := hide (ho2.back (w := w0) (show Below w0.heap.size w0 _ from by assumption)); clear ho2 hb2)); refine lxB (by (first | exact r0.drew | exact (r0.drew).alloc (Nat.le_refl _) _ | exact (r0.alloc (Nat.le_refl _) _).drew | exact hb1' | exact hb2' | exact hb1'.alloc hb1'.size _ | exact (hb1'.alloc hb1'.size _).alloc (by have := hb1'.size; simp; omega) _ | assumption)) (fun hS1 => ?_))
    refine lxp ?_
    refine lxN (lxd ?_)
  rotate_left
  all_goals
    have HM := hide HO2.out.made; obtain ⟨wk, hwk⟩ : ∃ wk, wk = w.heap.size + 1 := ⟨_, rfl⟩; have HWK := hide (show wk < w0.heap.size ∧ w.heap.size ≤ wk by have := HWR.out.lt; omega); have HW2 := hide (show WR w2 wk none [] by rw [hwk]; exact HWR.out.below hb2'); have HB2 := hide (HB0.out.trans (hb2'.mono HB0.out.size)); have HNL : Hid ([k0, a0, b0, c0] ++ [qr, qw, ql, qb] = (⟨k0, a0, b0, c0, ⟨qr, qw, ql, qb⟩⟩ : Cmd).nums) := hide rfl; rw [HNL.out] at HM; obtain ⟨N, hN⟩ : ∃ N, (⟨k0, a0, b0, c0, ⟨qr, qw, ql, qb⟩⟩ : Cmd).nums = N := ⟨_, rfl⟩
    have hNl : N.length = 8 := by rw [← hN]; rfl
    rw [hN] at HM HQ; rw [HNL.out, hN]; rw [← hwk]; have HN := hide hN; have HNLN := hide hNl; clear hN hNl HNL hwk HR1 HB1 HO2 hb1' hb2' hS0 hS1 x0 x1 x2 x3 x4 x5 x6 x7; go_wp2
    go_loopw [5, 21, 22, 23, 24, 25, 26, 27] (fun _ ix _ _ _ _ _ _ wr => ∃ k : Nat, k ≤ 8 ∧ ix = .int .i64 k ∧ Wrote w2 wr wk none (encs ((N.take k).map Int.toNat))) (fun _ ix _ _ _ _ _ _ _ => 8 - (intOf ix).toNat)
    case atStart => exact ⟨0, by omega, rfl, by simpa [encs] using Wrote.refl HW2.out⟩
    case round =>
      obtain ⟨k, hk, rfl, hwr⟩ := hrel; have HWT := hide hwr; clear hwr
      by_cases hlt : k < 8
      · have hkN : k < N.length := by rw [HNLN.out]; exact hlt
        obtain ⟨bA, oA, eA, hbA, hcell⟩ := HM.out.rd.2 (by rw [HNLN.out]; omega); obtain ⟨g1, hw1, hch1, hor1⟩ := HWT.out
        have hne : bA ≠ wk := by have := (HM.out.ap _ eA).2.1; simp only [] at this; have := HWK.out.1; omega
        have g0 := (hch1.cell (p := ⟨bA, oA + k, none⟩) hbA (by simpa using hne)).trans (hcell k (.int .i64 N[k]) (by simp [hkN]))
        have i1 : (k : Int) < 8 := by omega
        have hx := HQ.out N[k] (List.getElem_mem hkN)
        have ht : encs ((N.take (k + 1)).map Int.toNat) = encs ((N.take k).map Int.toNat) ++ enc (N[k]).toNat := by
          rw [List.take_succ_eq_append_getElem hkN, List.map_append, encs_app]
          simp [encs]
        have hln : (encs ((N.take k).map Int.toNat)).length ≤ 100 := by
          have := encs_len ((N.take k).map Int.toNat) (fun n hn => by
            obtain ⟨z, hz, rfl⟩ := List.mem_map.1 hn; have := HQ.out z (List.mem_of_mem_take hz)
            omega)
          simp only [List.length_map, List.length_take] at this
          omega
        obtain ⟨x, hx0⟩ : ∃ x, N[k] = x := ⟨_, rfl⟩; rw [hx0] at g0 hx ht; have HT := hide ht; have HC := hide (wnum_calls wr wk g1 _ x hw1 hx (by omega)); have HG1 := hd2 hch1 hor1; subst eA; clear hcell hx hx0 ht hw1 hch1 hor1 hln; go_wp2_with fail; refine HC.out.mono ?_; rintro e w3 ⟨rfl, hw3⟩
        have HW3 : Hid (Wrote w2 w3 wk none (encs ((N.take (k + 1)).map Int.toNat))) := hide (by
          rw [HT.out]
          exact Wrote.step HG1.out.1 HG1.out.2 hw3)
        clear hw3 g0 HC; go_wp2
        go_roundw
        case rel => exact ⟨k + 1, by omega, by go_num, HW3.out⟩
        case measure => simp [intOf]; omega
      · have e : k = 8 := by omega
        subst e; obtain ⟨g1, hw1, hch1, hor1⟩ := HWT.out; rw [List.take_of_length_le (by rw [HNLN.out]; omega)] at hw1
        have hln := encs_len (N.map Int.toNat) (fun n hn => by
            obtain ⟨z, hz, rfl⟩ := List.mem_map.1 hn; have := HQ.out z hz
            omega)
        have HC := hide (wbytes_calls wr wk g1 _ hw1 (by simp only [List.length_map, HNLN.out] at hln; omega)); have HBR := hide (Chg.onto HB2.out HB2.out.size hch1 (fun x hx => by simp at hx; subst hx; exact HWK.out.2)); clear hw1 hch1 hor1 hln hlt hk; go_wp2_with fail; refine HC.out.mono ?_; rintro e w3 ⟨A3, c3, rfl, ho3, hb3⟩; have HR3 := hd2 (ho3.back HBR.out.size) (HBR.out.trans (hb3.mono HBR.out.size)); clear ho3 hb3 HC; go_wp2; go_ret
        refine ⟨A3, c3, ?_, ?_, HR3.out.2⟩
        · unfold Cmd.bytes; rw [HN.out]; rfl
        · unfold Cmd.bytes; rw [HN.out]; exact HR3.out.1

def Cmd.zero : Cmd := ⟨0, 0, 0, 0, ⟨0, 0, 0, 0⟩⟩
def Cmd.of (l : List Nat) : Cmd := ⟨(l.getD 0 0 : Nat), (l.getD 1 0 : Nat), (l.getD 2 0 : Nat), (l.getD 3 0 : Nat), ⟨(l.getD 4 0 : Nat), (l.getD 5 0 : Nat), (l.getD 6 0 : Nat), (l.getD 7 0 : Nat)⟩⟩
def rcmd (L : List Nat) : Cmd × Bool :=
 if ((⟨L, 0⟩ : Rdr).nums 9223372036854775807 8).2.fin = 0 then (Cmd.of ((⟨L, 0⟩ : Rdr).nums 9223372036854775807 8).1, true) else (Cmd.zero, false)
def arr8 (l : List Nat) : List Value := l.map (fun n : Nat => Value.int .i64 n) ++ List.replicate (8 - l.length) (.int .i64 0)
theorem arr8_set {l : List Nat} {n : Nat} (h : l.length < 8) : (arr8 l).set l.length (.int .i64 (n : Int)) = arr8 (l ++ [n]) := by
 unfold arr8; obtain ⟨m, hm⟩ : ∃ m, 8 - l.length = m + 1 := ⟨8 - l.length - 1, by omega⟩
 have e : 8 - (l ++ [n]).length = m := by simp; omega
 rw [e, hm, List.replicate_succ]
 simp
theorem arr8_get {l : List Nat} (h : l.length = 8) {k : Nat} (hk : k < 8) : (arr8 l)[k]? = some (.int .i64 (l.getD k 0 : Nat)) := by
 unfold arr8; rw [List.getElem?_append_left (by simp; omega), List.getElem?_map, List.getD_eq_getElem?_getD, List.getElem?_eq_getElem (by omega)]
 rfl
theorem vread_calls (w : World) (A : Option Addr) (c : Nat) (L : List Nat) (h : Reads w w.heap.size 1 A L.length (bys L)) (hl : L.length ≤ 1000000) (hby : ∀ x ∈ L, x < 256) :
  Calls Tryz.prog 46 #[.slice A L.length c] w fun e w' => e = .returned (.tuple #[(rcmd L).1.val, .bool (rcmd L).2]) ∧ Below w.heap.size w w' := by
 have hb0 := (Below.refl w.heap.size w).alloc (Nat.le_refl _) (.cells #[.int .i64 0, .int .i64 0, .int .i64 0, .int .i64 0, .int .i64 0, .int .i64 0, .int .i64 0, .int .i64 0] 35); have HR := hide (rread_calls _ [] (by simp) A c L ((h.below hb0).more hb0.size) hl hby); have HB0 := hide hb0; have HL := hide hl; clear h hb0
 go_enter Tryz.func46, Tryz.ntmps46
 go_wp2_with fail; refine HR.out.mono ?_; rintro e w1 ⟨b, rfl, hr1, hbl, hb1⟩
 have hs0 : (w.alloc (.cells #[.int .i64 0, .int .i64 0, .int .i64 0, .int .i64 0, .int .i64 0, .int .i64 0, .int .i64 0, .int .i64 0] 35)).heap.size = w.heap.size + 1 := by simp
 have hz1 : Blk w1 w.heap.size 35 [.int .i64 0, .int .i64 0, .int .i64 0, .int .i64 0, .int .i64 0, .int .i64 0, .int .i64 0, .int .i64 0] := (Blk.new rfl).below hb1
 have hbb : w.heap.size < b := by omega
 obtain ⟨w2, hw2⟩ : ∃ w2, w1.alloc (.cells #[.int .i64 0, .int .i64 0, .int .i64 0, .int .i64 0, .int .i64 0, .int .i64 0, .int .i64 0, .int .i64 0] 177) = w2 := ⟨_, rfl⟩
 have hR2 : RO w2 b [w1.heap.size] ⟨L, 0⟩ := hw2 ▸ (hr1.plus (no' := [w1.heap.size]) (by simp)).below ((Below.refl _ _).alloc (Nat.le_refl _) _)
 have hZ2 : Blk w2 w.heap.size 35 [.int .i64 0, .int .i64 0, .int .i64 0, .int .i64 0, .int .i64 0, .int .i64 0, .int .i64 0, .int .i64 0] := hw2 ▸ hz1.alloc _
 have hA2 : Blk w2 w1.heap.size 177 [.int .i64 0, .int .i64 0, .int .i64 0, .int .i64 0, .int .i64 0, .int .i64 0, .int .i64 0, .int .i64 0] := hw2 ▸ Blk.new rfl
 have hB2 : Below w.heap.size w w2 := hw2 ▸ (HB0.out.trans (hb1.mono (by omega))).alloc (by have := hb1.size; omega) _
 obtain ⟨ab, hab⟩ : ∃ ab, w1.heap.size = ab := ⟨_, rfl⟩
 have hne : b ≠ ab ∧ w.heap.size ≠ ab ∧ w.heap.size < ab := by have := hr1.lt; have := hb1.size; omega
 rw [hab] at hA2 hR2; have H2 := hd4 hR2 hZ2 hA2 hB2; have HNE := hide hne; have HBB := hide hbb; have HAB := hide hab; have HW2 := hide hw2; clear hb1 hr1 hbl hz1 hbb hs0 hR2 hZ2 hA2 hB2 HR hne hab hw2; go_wp2_with fail; rw [HW2.out, HAB.out]
 go_loopw [6, 9, 10, 11, 12, 13, 14, 15, 16] (fun _ ix _ _ _ _ _ _ _ wr => ∃ k : Nat, k ≤ 8 ∧ ix = .int .i64 k ∧ RO wr b [ab] ((⟨L, 0⟩ : Rdr).nums 9223372036854775807 k).2 ∧ Blk wr ab 177 (arr8 ((⟨L, 0⟩ : Rdr).nums 9223372036854775807 k).1) ∧ Chg [b, ab] w2 wr) (fun _ ix _ _ _ _ _ _ _ _ => 8 - (intOf ix).toNat)
 case atStart => exact ⟨0, by omega, rfl, H2.out.1, H2.out.2.2.1, Chg.refl _ _⟩
 case round =>
  obtain ⟨k, hk, rfl, hro, hbk, hch⟩ := hrel; have HRO := hide hro; have HBK := hide hbk; have HCH := hide hch; clear hro hbk hch; have hlen := Rdr.nums_len (⟨L, 0⟩ : Rdr) 9223372036854775807 k
  by_cases hlt : k < 8
  ·have i1 : (k : Int) < 8 := by omega
   have hle : ((⟨L, 0⟩ : Rdr).nums 9223372036854775807 k).2.b.length ≤ 1000000 := Nat.le_trans (Rdr.nums_le _ _ _) HL.out; have HN : Hid (Calls Tryz.prog 51 #[.pointer (some ⟨b, 0, none⟩), .int .i64 9223372036854775807] wr _) := hide (rnum_calls wr b [ab] _ 9223372036854775807 HRO.out hle (by decide)); have hsu : (⟨L, 0⟩ : Rdr).nums 9223372036854775807 (k + 1) = (((⟨L, 0⟩ : Rdr).nums 9223372036854775807 k).1 ++ [(((⟨L, 0⟩ : Rdr).nums 9223372036854775807 k).2.num 9223372036854775807).1], (((⟨L, 0⟩ : Rdr).nums 9223372036854775807 k).2.num 9223372036854775807).2) := rfl; have HSU := hide hsu; have HLN := hide hlen; clear hsu hlen hle; go_wp2_with fail; refine HN.out.mono ?_; rintro e w3 ⟨rfl, hro3, hch3⟩; have hb3 := HBK.out.chg hch3 (by simpa using HNE.out.1.symm); have c3 := hb3.cell k; have f3 := hb3.frozen k
   have hc3 : (arr8 ((⟨L, 0⟩ : Rdr).nums 9223372036854775807 k).1)[k]? = some (.int .i64 0) := by
    unfold arr8; rw [List.getElem?_append_right (by simp [HLN.out]), List.length_map, HLN.out, Nat.sub_self, List.getElem?_replicate, if_pos (by omega)]
   rw [hc3] at c3; have hs3 := hb3.set k (.int .i64 (((((⟨L, 0⟩ : Rdr).nums 9223372036854775807 k).2.num 9223372036854775807).1 : Nat) : Int)); have ha := arr8_set (l := ((⟨L, 0⟩ : Rdr).nums 9223372036854775807 k).1) (n := (((⟨L, 0⟩ : Rdr).nums 9223372036854775807 k).2.num 9223372036854775807).1) (by rw [HLN.out]; exact hlt); rw [HLN.out] at ha; rw [ha] at hs3; obtain ⟨v, hv⟩ : ∃ v, (((⟨L, 0⟩ : Rdr).nums 9223372036854775807 k).2.num 9223372036854775807).1 = v := ⟨_, rfl⟩; rw [hv] at hs3; have hset : Chg [ab] w3 (w3.setCell ⟨ab, k, none⟩ (.int .i64 (v : Int))) := (Chg.refl _ _).setCell (Or.inl (by simp)) _
   have HS3 : Hid (RO (w3.setCell ⟨ab, k, none⟩ (.int .i64 (v : Int))) b [ab] ((⟨L, 0⟩ : Rdr).nums 9223372036854775807 (k + 1)).2 ∧ Blk (w3.setCell ⟨ab, k, none⟩ (.int .i64 (v : Int))) ab 177 (arr8 ((⟨L, 0⟩ : Rdr).nums 9223372036854775807 (k + 1)).1) ∧ Chg [b, ab] w2 (w3.setCell ⟨ab, k, none⟩ (.int .i64 (v : Int)))) := hide (by
    rw [HSU.out]
    refine ⟨?_, by rw [hv]; exact hs3, ((HCH.out.trans hch3 (by simp)).trans hset (by simp))⟩
    exact hro3.chg hset (by simpa using HNE.out.1) (by simp))
   rw [hv]; clear hv hs3 ha hc3 hb3 hro3 hch3 hset HN; go_wp2
   go_roundw
   case rel => exact ⟨k + 1, by omega, by go_num, HS3.out.1, HS3.out.2.1, HS3.out.2.2⟩
   case measure => simp [intOf]; omega
  ·have e : k = 8 := by omega
   subst e; have HN := hide (rend_calls wr b [ab] _ HRO.out); go_wp2_with fail; refine HN.out.mono ?_; rintro e w3 ⟨rfl, hro3, hch3⟩; have hk3 := HBK.out.chg hch3 (by simpa using HNE.out.1.symm); have hz3 := (H2.out.2.1.chg HCH.out (by have := HNE.out.2.1; have := HBB.out; simp; omega)).chg hch3 (by have := HBB.out; simp; omega); have hB3 := Chg.onto H2.out.2.2.2 H2.out.2.2.2.size (HCH.out.trans hch3 (by simp)) (fun x hx => by simp at hx; have := HNE.out.2.2; have := HBB.out; rcases hx with rfl | rfl <;> omega); have HK3 := hide hk3; have HZ3 := hide hz3; have HB3 := hide hB3; have HLEN := hide hlen; have z0 := hz3.cell 0; have z1 := hz3.cell 1; have z2 := hz3.cell 2; have z3 := hz3.cell 3; have z4 := hz3.cell 4; have z5 := hz3.cell 5; have z6 := hz3.cell 6; have z7 := hz3.cell 7; have zf := hz3.frozen; simp only [List.getElem?_cons_succ, List.getElem?_cons_zero] at z0 z1 z2 z3 z4 z5 z6 z7; have hfin : rcmd L = if ((⟨L, 0⟩ : Rdr).nums 9223372036854775807 8).2.fin = 0 then (Cmd.of ((⟨L, 0⟩ : Rdr).nums 9223372036854775807 8).1, true) else (Cmd.zero, false) := rfl; have HFIN := hide hfin; obtain ⟨p, hp⟩ : ∃ p, (⟨L, 0⟩ : Rdr).nums 9223372036854775807 8 = p := ⟨_, rfl⟩; rw [hp] at HFIN HK3 HLEN hk3; rw [hp]; clear hro3 hch3 hz3 hB3 hlen hfin hlt hk HN hp H2
   by_cases hf : p.2.fin = 0
   ·rw [if_pos hf] at HFIN
    rw [hf]; have y0 := (hk3.cell 0).trans (arr8_get HLEN.out (by omega)); have y1 := (hk3.cell 1).trans (arr8_get HLEN.out (by omega)); have y2 := (hk3.cell 2).trans (arr8_get HLEN.out (by omega)); have y3 := (hk3.cell 3).trans (arr8_get HLEN.out (by omega)); have y4 := (hk3.cell 4).trans (arr8_get HLEN.out (by omega)); have y5 := (hk3.cell 5).trans (arr8_get HLEN.out (by omega)); have y6 := (hk3.cell 6).trans (arr8_get HLEN.out (by omega)); have y7 := (hk3.cell 7).trans (arr8_get HLEN.out (by omega)); have HCM : Hid (Cmd.of p.1 = ⟨(p.1.getD 0 0 : Nat), (p.1.getD 1 0 : Nat), (p.1.getD 2 0 : Nat), (p.1.getD 3 0 : Nat), ⟨(p.1.getD 4 0 : Nat), (p.1.getD 5 0 : Nat), (p.1.getD 6 0 : Nat), (p.1.getD 7 0 : Nat)⟩⟩) := hide rfl; obtain ⟨e0, he0⟩ : ∃ e0, p.1.getD 0 0 = e0 := ⟨_, rfl⟩; obtain ⟨e1, he1⟩ : ∃ e0, p.1.getD 1 0 = e0 := ⟨_, rfl⟩; obtain ⟨e2, he2⟩ : ∃ e0, p.1.getD 2 0 = e0 := ⟨_, rfl⟩; obtain ⟨e3, he3⟩ : ∃ e0, p.1.getD 3 0 = e0 := ⟨_, rfl⟩; obtain ⟨e4, he4⟩ : ∃ e0, p.1.getD 4 0 = e0 := ⟨_, rfl⟩; obtain ⟨e5, he5⟩ : ∃ e0, p.1.getD 5 0 = e0 := ⟨_, rfl⟩; obtain ⟨e6, he6⟩ : ∃ e0, p.1.getD 6 0 = e0 := ⟨_, rfl⟩; obtain ⟨e7, he7⟩ : ∃ e0, p.1.getD 7 0 = e0 := ⟨_, rfl⟩; rw [he0, he1, he2, he3, he4, he5, he6, he7] at HCM; rw [he0] at y0; rw [he1] at y1; rw [he2] at y2; rw [he3] at y3; rw [he4] at y4; rw [he5] at y5; rw [he6] at y6; rw [he7] at y7; clear hk3 he0 he1 he2 he3 he4 he5 he6 he7 hf; have hi0 : w.heap.size ≤ w.heap.size := Nat.le_refl _; go_wp2
    refine bodyPost_ret (v := .tuple #[.agg #[.int .i64 (e0 : Int), .int .i64 (e1 : Int), .int .i64 (e2 : Int), .int .i64 (e3 : Int), .int .i64 (e4 : Int), .int .i64 (e5 : Int), .int .i64 (e6 : Int), .int .i64 (e7 : Int)], .bool true]) (by simp [results, Tryz.results46, go_sem, *]) rfl ?_
    rw [HFIN.out, HCM.out]
    refine And.intro (by simp only [Cmd.val, Cmd.cells]) ?_
    have q := HB3.out
    iterate 8 (refine Below.setCell ?_ (show w.heap.size ≤ w.heap.size from Nat.le_refl _) _)
    exact q
   ·rw [if_neg hf] at HFIN
    obtain ⟨fz, hfz⟩ : ∃ fz, p.2.fin = fz := ⟨_, rfl⟩; rw [hfz] at hf ⊢
    have hf' : ((fz : Int) != 0) = true := by simp; omega
    clear hk3 hfz hf HRO HBK; go_wp2
    refine bodyPost_ret (v := .tuple #[.agg #[.int .i64 0, .int .i64 0, .int .i64 0, .int .i64 0, .int .i64 0, .int .i64 0, .int .i64 0, .int .i64 0], .bool false]) (by simp [results, Tryz.results46, go_sem, *]) rfl ?_
    rw [HFIN.out]
    refine And.intro (by simp only [Cmd.val, Cmd.cells, Cmd.zero]) ?_
    have q := HB3.out
    iterate 8 (refine Below.setCell ?_ (show w.heap.size ≤ w.heap.size from Nat.le_refl _) _)
    exact q
end Go.Proofs.YtcahcjfgmdpdoaaGreat

namespace Go.Proofs.YtcahcjfgmdpdoaaGreat
open Go.ChangeShapes Go.WideShapes Go.ChangeAt Go.RowKit Go.Joins Go.Deep Go.Proofs
set_option linter.unusedVariables false
set_option linter.unusedSimpArgs false

theorem cmdStood : Tryz.prog.stoodInHeld 35 = false := by kernel_rfl
theorem run_eqCmdIn (n : Nat) (a b c d e f g h a' b' c' d' e' f' g' h' : Int) (w : World) : (Op.equalIn (n + 3) 35 (.agg #[.int .i64 a, .int .i64 b, .int .i64 c, .int .i64 d, .int .i64 e, .int .i64 f, .int .i64 g, .int .i64 h]) (.agg #[.int .i64 a', .int .i64 b', .int .i64 c', .int .i64 d', .int .i64 e', .int .i64 f', .int .i64 g', .int .i64 h'])).run Tryz.prog w = .ok (a == a' && (b == b' && (c == c' && (d == d' && (e == e' && (f == f' && (g == g' && h == h'))))))) w := by
 have hI := run_eqI (n + 1); have hP := run_eqPolIn n; have hp := cmdStood; unfold Op.equalIn
 simp [run_underlying Tryz.underlying35, part, go_sem, Tryz.isAgg3, Tryz.isAgg33, hI, hP]
 by_cases e1 : a = a' <;> by_cases e2 : b = b' <;> by_cases e3 : c = c' <;> by_cases e4 : d = d' <;> simp [e1, e2, e3, e4]
 all_goals (by_cases e5 : e = e' <;> by_cases e6 : f = f' <;> by_cases e7 : g = g' <;> by_cases e8 : h = h' <;> simp [e5, e6, e7, e8])
def eqCmd (x y : Cmd) : Bool := x.k == y.k && (x.a == y.a && (x.b == y.b && (x.c == y.c && (x.p.r == y.p.r && (x.p.w == y.p.w && (x.p.l == y.p.l && x.p.b == y.p.b))))))
theorem run_eqCmd (a b c d e f g h a' b' c' d' e' f' g' h' : Int) (w : World) : (binOp .eql 35 (.agg #[.int .i64 a, .int .i64 b, .int .i64 c, .int .i64 d, .int .i64 e, .int .i64 f, .int .i64 g, .int .i64 h]) (.agg #[.int .i64 a', .int .i64 b', .int .i64 c', .int .i64 d', .int .i64 e', .int .i64 f', .int .i64 g', .int .i64 h'])).run Tryz.prog w = .ok (.bool (eqCmd ⟨a, b, c, d, ⟨e, f, g, h⟩⟩ ⟨a', b', c', d', ⟨e', f', g', h'⟩⟩)) w := by
 simp only [binOp]
 simp [Op.equal, Op.maxDepth, run_eqCmdIn 9997, eqCmd]
def Cmd.max0 (q : Cmd) : Cmd := ⟨max q.k 0, max q.a 0, max q.b 0, max q.c 0, ⟨max q.p.r 0, max q.p.w 0, max q.p.l 0, max q.p.b 0⟩⟩
theorem rcmd_bytes (q : Cmd) (hq : ∀ n ∈ q.nums, n < 2 ^ 63) : rcmd q.bytes = (q.max0, true) := by
 have h := Rdr.nums_enc (l := q.nums.map Int.toNat) (most := 9223372036854775807) [] (fun n hn => by
  obtain ⟨z, hz, rfl⟩ := List.mem_map.1 hn; have := hq z hz
  omega) 8 (by simp [Cmd.nums])
 rw [List.append_nil, List.append_nil, List.take_of_length_le (by simp [Cmd.nums]), List.drop_of_length_le (by simp [Cmd.nums])] at h; unfold rcmd; have hf : (List.map Int.toNat q.nums, (⟨encs [], 0⟩ : Rdr)).2.fin = 0 := rfl; rw [show q.bytes = encs (q.nums.map Int.toNat) from rfl, h, if_pos hf]; obtain ⟨k, a, b, c, ⟨r, w, l, bb⟩⟩ := q; simp only [Cmd.nums, List.map_cons, List.map_nil, Cmd.of, Cmd.max0, List.getD_cons_zero, List.getD_cons_succ, Int.toNat_eq_max]
theorem rcmd_ok {L : List Nat} (hb : ∀ x ∈ L, x < 256) (h : (rcmd L).2 = true) : (rcmd L).1.bytes = L ∧ ∀ n ∈ (rcmd L).1.nums, n < 2 ^ 63 := by
 unfold rcmd at h ⊢; obtain ⟨p, hp⟩ : ∃ p, (⟨L, 0⟩ : Rdr).nums 9223372036854775807 8 = p := ⟨_, rfl⟩; have hl := Rdr.nums_len (⟨L, 0⟩ : Rdr) 9223372036854775807 8; have ho := Rdr.nums_ok (r := ⟨L, 0⟩) (most := 9223372036854775807) hb 8; rw [hp] at h hl ho ⊢
 by_cases hf : p.2.fin = 0
 ·rw [if_pos hf]
  have he : p.2.e = 0 ∧ p.2.b = [] := by
   unfold Rdr.fin at hf
   split at hf
   ·omega
   ·rename_i h2
    refine ⟨hf, List.eq_nil_of_length_eq_zero ?_⟩
    have : ¬ (0 < p.2.b.length) := fun h3 => h2 ⟨h3, hf⟩
    omega
  obtain ⟨_, h2, h3⟩ := ho he.1; rw [he.2, List.append_nil] at h2; obtain ⟨l, r⟩ := p; simp only [] at hl h2 h3 ⊢
  match l, hl with
  |[x0, x1, x2, x3, x4, x5, x6, x7], _ =>
   refine ⟨?_, fun n hn => ?_⟩
   ·rw [h2]
    simp [Cmd.bytes, Cmd.of, Cmd.nums]
   ·simp only [Cmd.of, Cmd.nums, List.getD_cons_zero, List.getD_cons_succ, List.mem_cons, List.mem_nil_iff, or_false] at hn
    have h4 : ∃ x ∈ [x0, x1, x2, x3, x4, x5, x6, x7], n = (x : Int) := by
     rcases hn with rfl | rfl | rfl | rfl | rfl | rfl | rfl | rfl <;> exact ⟨_, by simp, rfl⟩
    obtain ⟨x, hx, rfl⟩ := h4; have := (h3 x hx).2
    omega
 ·rw [if_neg hf] at h
  cases h
theorem rcmd_no {L : List Nat} (h : (rcmd L).2 = false) : (rcmd L).1 = Cmd.zero := by
 unfold rcmd at h ⊢
 split at h
 ·cases h
 ·rename_i h2
  rw [if_neg h2]
end Go.Proofs.YtcahcjfgmdpdoaaGreat
