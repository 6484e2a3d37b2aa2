/- One text of: Qrm Qrn Qrp. -/
import Derived.Sort.OwnSortedInts
import Derived.Test.YtcahcjfgmdpdoaaGreatQWE
set_option maxHeartbeats 1000000
namespace Go.Proofs.YtcahcjfgmdpdoaaGreat
open Go.RowKit Go.Proofs Go.Maps
set_option linter.unusedVariables false
set_option linter.unusedSimpArgs false

def okAt (l : List Int) (j : Nat) : Prop := (0 ≤ l.getD j 0 ∧ l.getD j 0 ≤ 15) ∧ (0 < j → l.getD (j - 1) 0 < l.getD j 0)
instance (l : List Int) (j : Nat) : Decidable (okAt l j) := by unfold okAt; infer_instance
def RightP (l : List Int) : Prop := (∀ j, j < l.length → okAt l j) ∧ 1 ≤ l.length ∧ l.length ≤ 7
instance (l : List Int) : Decidable (RightP l) := by unfold RightP; infer_instance
section
variable {w : World} {no : List Nat} {A : Option Addr} {c : Nat} {l : List Int}
theorem Sl.get (h : Sl w no A c l) {k : Nat} (hk : k < l.length) : ∃ b o, A = some ⟨b, o, none⟩ ∧ ∀ j, j < l.length → w.cell? ⟨b, o + j, none⟩ = some (.int .i64 (l.getD j 0)) := by
 obtain ⟨b, o, e, _, hc⟩ := h.rd.at_ (by omega : 0 < l.length)
 exact ⟨b, o, e, fun j hj => hc j _ (by rw [List.getElem?_map, List.getElem?_eq_getElem hj, List.getD_eq_getElem?_getD, List.getElem?_eq_getElem hj]; rfl)⟩
theorem qisid_calls (k : Int) (w : World) : Calls Tryz.prog 128 #[.int .i64 k] w fun e w' => e = .returned (.bool (decide (0 ≤ k ∧ k ≤ 15))) ∧ w = w' := by
 go_enter Tryz.func128, Tryz.ntmps128
 go_wp2
 all_goals (go_ret; exact ⟨ret_bool (by grind), rfl⟩)
theorem qright_calls (h : Sl w no A c l) : Calls Tryz.prog 81 #[.slice A l.length c] w fun e w' => e = .returned (.bool (decide (RightP l))) ∧ w = w' := by
 have hln := h.ln; have HG := hide (fun k hk => h.get (k := k) hk); obtain ⟨n, hn⟩ : ∃ n, l.length = n := ⟨_, rfl⟩; have HN := hide hn; rw [hn] at hln ⊢; clear h hn
 go_enter Tryz.func81, Tryz.ntmps81
 go_wp2
 go_loopw [3, 4, 7, 8, 9, 10, 11, 12, 13, 14, 15, 16, 17, 18, 19, 20, 21, 22, 23, 24, 25, 26, 27, 28] (fun _ _ iv _ _ _ _ _ _ _ _ _ _ _ _ _ _ _ _ _ _ _ _ _ wr => ∃ k : Nat, k ≤ n ∧ iv = .int .i64 k ∧ wr = w ∧ ∀ j, j < k → okAt l j) (fun _ _ iv _ _ _ _ _ _ _ _ _ _ _ _ _ _ _ _ _ _ _ _ _ _ => n - (Go.RowKit.intOf iv).toNat)
 case atStart => exact ⟨0, Nat.zero_le _, rfl, rfl, fun j hj => by omega⟩
 case round =>
  obtain ⟨k, hk, rfl, rfl, hok⟩ := hrel; have HOK := hide hok; clear hok
  by_cases hlt : k < n
  ·have i1 : (k : Int) < n := by omega
   obtain ⟨b, o, rfl, hc⟩ := HG.out k (by rw [HN.out]; exact hlt); have g1 := hc k (by rw [HN.out]; exact hlt); have g2 := hc (k - 1) (by rw [HN.out]; omega); obtain ⟨x, hx⟩ : ∃ x, l.getD k 0 = x := ⟨_, rfl⟩; obtain ⟨y, hy⟩ : ∃ y, l.getD (k - 1) 0 = y := ⟨_, rfl⟩; rw [hx] at g1; rw [hy] at g2; have HX := hd2 hx hy
   have bad : ¬ okAt l k → decide (RightP l) = false := fun hb => decide_eq_false (fun hr => hb (hr.1 k (by rw [HN.out]; exact hlt)))
   have HBAD := hide bad; clear hc hx hy bad
   by_cases h1 : 0 ≤ x ∧ x ≤ 15
   ·have d1 : decide (0 ≤ x ∧ x ≤ 15) = true := decide_eq_true h1
    by_cases h0 : 0 < k
    ·have u0 : (0 : Int) < k := by omega
     have q1 : IntKind.i64.wrap ((k : Int) - 1) = ((k - 1 : Nat) : Int) := by rw [IntWalk.i64_in _ (by omega)]; omega
     by_cases hxy : x ≤ y
     ·have HE := hide (HBAD.out (fun h => by have := h.2 h0; rw [HX.out.1, HX.out.2] at this; omega))
      clear HBAD HX h1; go_wp2_with fail
      refine (qisid_calls x _).mono ?_
      rintro e w' ⟨rfl, rfl⟩; rw [d1]; go_wp2; go_ret
      exact ⟨by rw [HE.out]; rfl, rfl⟩
     ·have HE : Hid (okAt l k) := hide ⟨by rw [HX.out.1]; exact h1, fun _ => by rw [HX.out.1, HX.out.2]; omega⟩
      clear HBAD HX h1; go_wp2_with fail
      refine (qisid_calls x _).mono ?_
      rintro e w' ⟨rfl, rfl⟩; rw [d1]; go_wp2
      go_roundw
      case rel => exact ⟨k + 1, by omega, by go_num, by trivial, fun j hj => (Nat.lt_or_ge j k).elim (HOK.out j) (fun h => (show k = j by omega) ▸ HE.out)⟩
      case measure => simp [Go.RowKit.intOf]; omega
    ·have u0 : ¬ (0 : Int) < k := by omega
     have HE : Hid (okAt l k) := hide ⟨by rw [HX.out.1]; exact h1, fun h => absurd h h0⟩; clear HBAD HX h1 g2; go_wp2_with fail
     refine (qisid_calls x _).mono ?_
     rintro e w' ⟨rfl, rfl⟩; rw [d1]; go_wp2
     go_roundw
     case rel => exact ⟨k + 1, by omega, by go_num, by trivial, fun j hj => (Nat.lt_or_ge j k).elim (HOK.out j) (fun h => (show k = j by omega) ▸ HE.out)⟩
     case measure => simp [Go.RowKit.intOf]; omega
   ·have d1 : decide (0 ≤ x ∧ x ≤ 15) = false := decide_eq_false h1
    have HE := hide (HBAD.out (fun h => h1 (by have := h.1; rw [HX.out.1] at this; exact this))); clear HBAD HX h1 g2; go_wp2_with fail
    refine (qisid_calls x _).mono ?_
    rintro e w' ⟨rfl, rfl⟩; rw [d1]; go_wp2; go_ret
    exact ⟨by rw [HE.out]; rfl, rfl⟩
  ·have i1 : ¬ (k : Int) < n := by omega
   obtain rfl : k = n := by omega
   have hr : decide (RightP l) = decide (1 ≤ k ∧ k ≤ 7) := by
    refine decide_eq_decide.2 ⟨fun h => ?_, fun h => ⟨fun j hj => HOK.out j (by rw [← HN.out]; exact hj), by rw [HN.out]; exact h⟩⟩
    have := h.2; rw [HN.out] at this
    exact this
   have HR := hide hr; clear hr HOK HG HN hk hlt; go_wp2
   all_goals (go_ret; exact ⟨by rw [HR.out]; exact ret_bool (by grind), rfl⟩)
end
end Go.Proofs.YtcahcjfgmdpdoaaGreat

namespace Go.Proofs.YtcahcjfgmdpdoaaGreat
open Go.RowKit Go.Proofs Go.Maps Go.Sort
set_option linter.unusedVariables false
set_option linter.unusedSimpArgs false

abbrev sortL (l : List Int) : List Int := l.mergeSort fun x y => decide (x ≤ y)
theorem sortI_calls {w0 w : World} {A : Option Addr} {c : Nat} {l : List Int} (h : OwnI w0 w A c l) (hl : l.length ≤ 1000000) :
  Calls Tryz.prog 118 #[.slice A l.length c] w fun e w' => e = .returned (.tuple #[]) ∧ OwnI w0 w' A c (sortL l) ∧ Chg (A.map Addr.block).toList w w' := by
 obtain ⟨⟨hln, h2⟩, h3⟩ := h
 rcases h2 with ⟨h4, h5⟩ | ⟨g, cap, cur, h4, hb, hg, hn, hcap, hsz, ht⟩
 ·have h0 := List.eq_nil_of_length_eq_zero h5
  subst h0; simp only [List.length_nil, Value.slice.injEq] at h4; obtain ⟨rfl, _, rfl⟩ := h4
  refine (AnyM.slices_Sort_int_none YtcahcjfgmdpdoaaGreat.sortI none 0 w).mono fun e w' ⟨he, hw⟩ => ⟨he, ?_⟩
  subst hw; rw [show sortL [] = [] by simp [sortL]]
  exact ⟨⟨⟨rfl, Or.inl ⟨rfl, rfl⟩⟩, h3⟩, Chg.refl _ _⟩
 ·cases h4
  rw [Nat.mul_one] at ht; have hH := holds_of_blockI hg ht
  refine (AnyM.slices_Sort_int YtcahcjfgmdpdoaaGreat.sortI g 0 c l w hH (Array.getElem?_eq_some_iff.1 hg).1 (by omega)).mono fun e w' ⟨he, n, os, hw⟩ => ⟨he, ?_⟩
  subst hw; have hsl : (sortL l).length = l.length := List.length_mergeSort ..; have ho := ownsRow_sortedI (base := 0) (n := n) (os := os) hsl (Nat.zero_le _) hg hn hcap hsz
  exact ⟨⟨by rw [hsl]; exact ho, h3⟩, Chg.of_grown (row := some g) (grownBy_sortedI _)⟩
theorem wpList_appendI {ops : Array Oper} {rest : List Oper} {o : Oper} {a : Act} {Q : Exit → Act → World → Prop} {w1 w2 : World} (hgd : o.guard = none) (s x : Operand)
  (ho : o.op = .call { callee := .builtin .append, args := #[s, x], argTypes := #[28, 28] }) {A : Option Addr} {c : Nat} {L : List Int} {t : Int}
  (hO : OwnI w1 w2 A c L) (hb : Below w1.heap.size w1 w2) (hl : L.length ≤ 100000) (hs : a.eval s = .slice A L.length c) (hx : a.eval x = .slice (some ⟨w2.heap.size, 0, none⟩) 1 1)
  (h : ∀ A3 c3 w', OwnI w1 w' A3 c3 (L ++ [t]) → Below w1.heap.size w1 w' → wpList Tryz.prog ops Q rest (a.put o.dst (.slice A3 (L.length + 1) c3)) w') : wpList Tryz.prog ops Q (o :: rest) a (w2.alloc (.cells #[.int .i64 t] 3)) := by
 obtain ⟨iS, hiS, hzS, hz1S, hz2S⟩ := info_parts Tryz.infoI3; have hwA : Below w2.heap.size w2 (w2.alloc (.cells #[.int .i64 t] 3)) := belowL (Below.refl _ _) _; have x2' := own_chg hO.1 (Chg.of_below (L := []) hwA) (fun _ _ hx => by cases hx); have bN : Blk (w2.alloc (.cells #[.int .i64 t] 3)) w2.heap.size 3 [.int .i64 t] := Blk.new rfl
 refine wpList_append_rd hgd s x 28 ho 3 iS _ 1 8 Tryz.underlying28 hiS hzS hz1S hz2S rfl (by decide) (.slice A L.length c) L.length (L.map (Value.int .i64)) hs x2' (some ⟨w2.heap.size, 0, none⟩) 1 1 (w2.heap.size + 1) [.int .i64 t] hx ⟨rfl, fun _ => ⟨w2.heap.size, 0, rfl, by omega, fun j u hu => by rw [Nat.zero_add, bN.cell j]; exact hu⟩⟩ (by intro u hu; simp at hu; subst hu; rfl) (by unfold maxLen; omega) (by omega) ?_
 intro v3 w3 ho3 hc3 hg3
 obtain ⟨A3, c3, rfl, _⟩ := own_view ho3; rw [owS] at hc3
 refine h A3 c3 w3 ⟨by simpa using ho3, fun g hg => ?_⟩ (Chg.onto (belowA hwA hb) (belowA hwA hb).size hc3 (fun z hz => hO.2 z (by simpa using hz)))
 rcases hg3 g (by rw [owS]; exact hg) with h | h
 ·rw [owS] at h
  exact hO.2 g h
 ·rw [h]
  exact Nat.le_trans hb.size hwA.size
theorem qmaj_calls (n : Nat) (w : World) (h1 : 1 ≤ n) (h2 : n ≤ 1000000) : Calls Tryz.prog 139 #[.int .i64 n] w fun e w' => e = .returned (.int .i64 ((n / 2 + 1 : Nat) : Int)) ∧ w = w' := by
 have u1 : ¬ (n : Int) < 1 := by omega
 have q1 : IntKind.i64.wrap ((n : Int) / 2) = (n : Int) / 2 := IntWalk.i64_in _ (by omega)
 have q2 : IntKind.i64.wrap ((n : Int) / 2 + 1) = ((n / 2 + 1 : Nat) : Int) := by rw [IntWalk.i64_in _ (by omega)]; omega
 clear h1 h2
 go_enter Tryz.func139, Tryz.ntmps139
 go_wp2; go_ret
 exact ⟨by first | rfl | (congr 2), rfl⟩
def wonP (l ys : List Int) : Prop := RightP l ∧ l.length / 2 + 1 ≤ (l.filter fun x => ys.contains x).length
instance (l ys : List Int) : Decidable (wonP l ys) := by unfold wonP; infer_instance
section
variable {w : World} {no : List Nat} {A B : Option Addr} {c d : Nat} {l ys : List Int}
theorem qwon_calls (h : Sl w no A c l) (hy : Sl w no B d ys) : Calls Tryz.prog 138 #[.slice A l.length c, .slice B ys.length d] w fun e w' => e = .returned (.bool (decide (wonP l ys))) ∧ Below w.heap.size w w' := by
 have hln := h.ln; have HS := hd2 h hy; obtain ⟨n, hn⟩ : ∃ n, l.length = n := ⟨_, rfl⟩; have HN := hide hn; rw [hn] at hln ⊢; have r0 := Below.refl w.heap.size w; clear h hy hn
 go_enter Tryz.func138, Tryz.ntmps138
 go_wp2
 go_loopw [5, 7, 10, 11, 12, 13, 14, 15, 16, 17, 18, 19] (fun nv _ iv _ _ _ _ _ _ _ _ _ wr => ∃ k m : Nat, k ≤ n ∧ iv = .int .i64 k ∧ nv = .int .i64 m ∧ Hid (m = ((l.take k).filter fun x => ys.contains x).length) ∧ Below w.heap.size w wr) (fun _ _ iv _ _ _ _ _ _ _ _ _ _ => n - (Go.RowKit.intOf iv).toNat)
 case atStart => exact ⟨0, 0, Nat.zero_le _, rfl, rfl, hide rfl, r0⟩
 case round =>
  obtain ⟨k, m, hk, rfl, rfl, hm, hbr⟩ := hrel; have hS1 := HS.out.1.below hbr; have hS2 := HS.out.2.below hbr; have HB := hide hbr
  by_cases hlt : k < n
  ·have i1 : (k : Int) < n := by omega
   have hkl : k < l.length := by rw [HN.out]; exact hlt
   obtain ⟨b, o, rfl, hc⟩ := hS1.get hkl; have g1 := hc k hkl; obtain ⟨x, hx⟩ : ∃ x, l.getD k 0 = x := ⟨_, rfl⟩; rw [hx] at g1
   have hlx : l[k] = x := by rw [← hx, List.getD_eq_getElem?_getD, List.getElem?_eq_getElem hkl]; rfl
   have hml : m ≤ k := by rw [hm.out]; exact Nat.le_trans (List.length_filter_le _ _) (by rw [List.length_take]; omega)
   have hnx : ((l.take (k + 1)).filter fun x => ys.contains x).length = m + (if ys.contains x then 1 else 0) := by
    rw [← List.take_append_getElem hkl, List.filter_append, List.length_append, ← hm.out, hlx]; rw [List.filter_cons, List.filter_nil]
    by_cases hcx : ys.contains x = true
    ·rw [if_pos hcx, if_pos hcx]; rfl
    ·rw [if_neg hcx, if_neg hcx]; rfl
   have HC := contains_calls B ys.length d ys x wr rfl (by have := hS2.ln; omega) hS2.rd; obtain ⟨bo, hbo⟩ : ∃ bo, ys.contains x = bo := ⟨_, rfl⟩; rw [hbo] at HC hnx; have HC := hide HC; have HNX := hd2 hnx hml; clear hc hx hlx hnx hbo hS1 hS2 hbr hml hm hkl; go_wp2_with fail; refine HC.out.mono ?_; rintro e w' ⟨rfl, q, rfl⟩; have hb' := below_drewN HB.out q; have HB' := hide hb'; clear hb' HC g1
   cases bo with
   |true =>
    have q1 : IntKind.i64.wrap ((m : Int) + 1) = ((m + 1 : Nat) : Int) := by rw [IntWalk.i64_in _ (by have := HNX.out.2; omega)]; omega
    go_wp2
    go_roundw
    case rel => exact ⟨k + 1, m + 1, by omega, by go_num, by first | rfl | go_num, hide (by have := HNX.out.1; simpa using this.symm), HB'.out⟩
    case measure => simp [Go.RowKit.intOf]; omega
   |false =>
    go_wp2
    go_roundw
    case rel => exact ⟨k + 1, m, by omega, by go_num, rfl, hide (by have := HNX.out.1; simpa using this.symm), HB'.out⟩
    case measure => simp [Go.RowKit.intOf]; omega
  ·have i1 : ¬ (k : Int) < n := by omega
   obtain rfl : k = n := by omega
   have hQ := qright_calls hS1; rw [HN.out] at hQ; have HQ := hide hQ; have hmv := hm.out; rw [List.take_of_length_le (by rw [HN.out]; exact Nat.le_refl _)] at hmv; have HM := hide hmv; clear hm hmv hQ hS1 hS2 hbr
   by_cases hr : RightP l
   ·have d1 : decide (RightP l) = true := decide_eq_true hr
    have hk1 : 1 ≤ k ∧ k ≤ 7 := by have := hr.2; rw [HN.out] at this; exact this
    have HMJ := hide (qmaj_calls k wr hk1.1 (by omega)); have HW : Hid (decide (wonP l ys) = decide (k / 2 + 1 ≤ m)) := hide (decide_eq_decide.2 ⟨fun h => by have := h.2; rw [HN.out, ← HM.out] at this; exact this, fun h => ⟨hr, by rw [HN.out, ← HM.out]; exact h⟩⟩); clear hr HM; go_wp2_with fail; refine HQ.out.mono ?_; rintro e w' ⟨rfl, rfl⟩; rw [d1]; go_wp2_with fail; refine HMJ.out.mono ?_; rintro e w' ⟨rfl, rfl⟩; go_wp2; go_ret
    exact ⟨by rw [HW.out]; exact ret_bool (by grind), HB.out⟩
   ·have d1 : decide (RightP l) = false := decide_eq_false hr
    have HW : Hid (decide (wonP l ys) = false) := hide (decide_eq_false (fun h => hr h.1)); clear hr HM; go_wp2_with fail; refine HQ.out.mono ?_; rintro e w' ⟨rfl, rfl⟩; rw [d1]; go_wp2; go_ret
    exact ⟨by rw [HW.out]; rfl, HB.out⟩
def idxP (l : List Int) (f : Int → Option Int) : Int := if RightP l then (sortL (l.map fun x => (f x).getD 0)).getD (l.length - (l.length / 2 + 1)) 0 else 0
theorem qindex_calls (h : Sl w no A c l) {mb n : Nat} {f : Int → Option Int} (hm : IM w mb n f) : Calls Tryz.prog 101 #[.slice A l.length c, .map (some mb)] w fun e w' => e = .returned (.int .i64 (idxP l f)) ∧ Below w.heap.size w w' := by
 have HQ := hide (qright_calls h); have r0 := Below.refl w.heap.size w; obtain ⟨R, hR⟩ : ∃ R, idxP l f = R := ⟨_, rfl⟩; rw [hR]
 by_cases hr : RightP l
 ·have hI : idxP l f = (sortL (l.map fun x => (f x).getD 0)).getD (l.length - (l.length / 2 + 1)) 0 := if_pos hr
  rw [hR] at hI; have d1 : decide (RightP l) = true := decide_eq_true hr; have HR := hide hr; have HS := hd2 h hm; have hnl := hr.2; obtain ⟨N, hN⟩ : ∃ N, l.length = N := ⟨_, rfl⟩; rw [hN] at hnl HQ hI ⊢; have HI := hide hI; have HN := hide hN; have hO0 : OwnI w w none 0 [] := ⟨ownsRow_nil _ _ _, fun g hg => by cases hg⟩; clear h hm hr hN hI hR
  go_enter Tryz.func101, Tryz.ntmps101
  go_wp2_with fail; refine HQ.out.mono ?_; rintro e w' ⟨rfl, rfl⟩; rw [d1]; clear d1 HQ; go_wp2
  go_loopw [5, 7, 13, 14, 15, 16, 17, 18, 19, 20, 21, 22, 23] (fun lv _ iv _ _ _ _ _ _ _ _ _ _ wr => ∃ (k : Nat) (L : List Int) (A2 : Option Addr) (c2 : Nat), k ≤ N ∧ iv = .int .i64 k ∧ lv = .slice A2 L.length c2 ∧ Hid (L = (l.map fun x => (f x).getD 0).take k) ∧ Hid (OwnI w wr A2 c2 L ∧ Below w.heap.size w wr)) (fun _ _ iv _ _ _ _ _ _ _ _ _ _ _ => N - (Go.RowKit.intOf iv).toNat)
  case atStart => exact ⟨0, [], none, 0, Nat.zero_le _, rfl, rfl, hide rfl, hide ⟨hO0, r0⟩⟩
  case round =>
   obtain ⟨k, L, A2, c2, hk, rfl, rfl, hL, hO⟩ := hrel
   by_cases hlt : k < N
   ·have i1 : (k : Int) < N := by omega
    have hkl : k < l.length := by rw [HN.out]; exact hlt
    obtain ⟨b, o, rfl, hc⟩ := (HS.out.1.below hO.out.2).get hkl; have g1 := hc k hkl; obtain ⟨x, hx⟩ : ∃ x, l.getD k 0 = x := ⟨_, rfl⟩; rw [hx] at g1
    have hxr : 0 ≤ x ∧ x ≤ 15 := by rw [← hx]; exact (HR.out.1 k hkl).1
    have hlx : l[k] = x := by rw [← hx, List.getD_eq_getElem?_getD, List.getElem?_eq_getElem hkl]; rfl
    have hlk : ∀ w' : World, Below w.heap.size w w' → (Instr.lookup 72 (.map (some mb)) (.int .i64 x) false).run Tryz.prog w' = .ok (.int .i64 ((f x).getD 0)) w' := fun w' hb => (HS.out.2.chg (L := []) (Chg.of_below hb) (by simp)).look (by unfold i64ok; omega)
    have hlk1 := hlk wr hO.out.2
    have hL2 : Hid (L ++ [(f x).getD 0] = (l.map fun x => (f x).getD 0).take (k + 1)) := hide (by
     rw [hL.out, ← hlx, ← List.take_append_getElem (l := l.map fun x => (f x).getD 0) (i := k) (by simpa using hkl), List.getElem_map])
    obtain ⟨t, ht⟩ : ∃ t, (f x).getD 0 = t := ⟨_, rfl⟩; rw [ht] at hlk1 hL2
    have hLl : L.length ≤ 100000 := by rw [hL.out, List.length_take]; omega
    have HLL := hide hLl; clear hc hx hlx hlk ht hxr hkl hLl
    go_wp2_with (at_builtin; refine wpList_appendI rfl _ _ rfl hO.out.1 hO.out.2 HLL.out rfl rfl ?_)
    intro A3 c3 w3 hO3 hb3
    have H3 := hd2 hO3 hb3; clear hO3 hb3 g1 hlk1; go_wp2
    go_roundw
    case rel => exact ⟨k + 1, L ++ [t], A3, c3, by omega, by go_num, by first | rfl | simp, hL2, H3⟩
    case measure => simp [Go.RowKit.intOf]; omega
   ·have i1 : ¬ (k : Int) < N := by omega
    obtain rfl : k = N := by omega
    have hLR := hL.out; rw [List.take_of_length_le (by rw [List.length_map, HN.out]; exact Nat.le_refl _)] at hLR
    have hLl : L.length = k := by rw [hLR, List.length_map, HN.out]
    have HSO := sortI_calls hO.out.1 (by omega); rw [hLl] at HSO ⊢; have HSO := hide HSO; have HMJ := hide (fun w' => qmaj_calls k w' hnl.1 (by omega)); have HLR := hd2 hLR hLl; obtain ⟨j, hj⟩ : ∃ j, k - (k / 2 + 1) = j := ⟨_, rfl⟩
    have q1 : IntKind.i64.wrap ((k : Int) - ((k / 2 + 1 : Nat) : Int)) = (j : Int) := by rw [IntWalk.i64_in _ (by omega)]; omega
    obtain ⟨mj, hmj⟩ : ∃ mj, k / 2 + 1 = mj := ⟨_, rfl⟩; rw [hmj] at q1 hj
    have hjm : k - (k / 2 + 1) = j := by omega
    have HMJ := HMJ.out; rw [hmj] at HMJ; have HMJ := hide HMJ; have HJ := hide hj
    have hjk : j < k := by omega
    clear hLR hLl hL hmj hj; go_wp2_with fail; refine HSO.out.mono ?_; rintro e w3 ⟨rfl, ho3, hc3⟩; have hb3 := Chg.onto hO.out.2 hO.out.2.size hc3 (fun z hz => hO.out.1.2 z (by simpa using hz)); obtain ⟨S, hS⟩ : ∃ S, sortL L = S := ⟨_, rfl⟩
    have hSl : S.length = k := by rw [← hS, List.length_mergeSort, HLR.out.2]
    have hRS : R = S.getD j 0 := by rw [HI.out, ← HLR.out.1, hS, hjm]
    rw [hS] at ho3; obtain ⟨A9, c9, e9, _, _, _, _, hrd⟩ := own_view ho3.1
    cases e9
    obtain ⟨b, o, rfl, hbA, hcA⟩ := (hrd _ (fun g hg => own_lt ho3.1 hg)).at_ (by omega); have g1 := hcA j (.int .i64 (S.getD j 0)) (by rw [List.getElem?_map, List.getElem?_eq_getElem (by omega : j < S.length), List.getD_eq_getElem?_getD, List.getElem?_eq_getElem (by omega : j < S.length)]; rfl); have HB3 := hide hb3; obtain ⟨z, hz⟩ : ∃ z, S.getD j 0 = z := ⟨_, rfl⟩; rw [hz] at g1 hRS; subst hRS; clear hb3 ho3 hc3 hrd hbA hcA hS hz HSO; go_wp2_with fail
    refine (HMJ.out _).mono ?_
    rintro e w' ⟨rfl, rfl⟩; go_wp2; go_ret
    exact ⟨rfl, HB3.out⟩
 ·have hI : idxP l f = 0 := if_neg hr
  rw [hR] at hI; subst hI; have d1 : decide (RightP l) = false := decide_eq_false hr; clear hr h hm hR
  go_enter Tryz.func101, Tryz.ntmps101
  go_wp2_with fail; refine HQ.out.mono ?_; rintro e w' ⟨rfl, rfl⟩; rw [d1]; go_wp2; go_ret
  exact ⟨rfl, r0⟩
def qbytes (l : List Int) : List Nat := enc l.length ++ l.flatMap fun x => enc x.toNat
theorem qbytes_len {l : List Int} (hl : l.length ≤ 7) (hx : ∀ x ∈ l, 0 ≤ x ∧ x ≤ 15) : (qbytes l).length ≤ 72 ∧ ∀ x ∈ qbytes l, x < 256 := by
 have h1 : ∀ t : List Int, (∀ x ∈ t, 0 ≤ x ∧ x ≤ 15) → (t.flatMap fun x => enc x.toNat).length ≤ 9 * t.length := by
  intro t
  induction t with
  |nil => intro _; exact Nat.le_refl _
  |cons y t ih =>
   intro h
   have := ih (fun x hx => h x (List.mem_cons_of_mem _ hx)); have h2 := enc_len9 (n := y.toNat) (by have := h y (List.mem_cons_self ..); omega); rw [List.flatMap_cons, List.length_append, List.length_cons]
   omega
 have h2 := h1 l hx; have h3 := enc_len9 (n := l.length) (by omega)
 refine ⟨by unfold qbytes; rw [List.length_append]; omega, fun x hx => ?_⟩
 unfold qbytes at hx
 rcases List.mem_append.1 hx with hx | hx
 ·exact enc_byte _ x hx
 ·obtain ⟨y, _, hy⟩ := List.mem_flatMap.1 hx
  exact enc_byte _ x hy
theorem qbytes_calls (h : Sl w no A c l) (hl : l.length ≤ 7) (hx : ∀ x ∈ l, 0 ≤ x ∧ x ≤ 15) : Calls Tryz.prog 132 #[.slice A l.length c] w fun e w' => ∃ A' c', e = .returned (.slice A' (qbytes l).length c') ∧ OwnB w w' A' c' (qbytes l) ∧ Below w.heap.size w w' := by
 have r0 := Below.refl w.heap.size w; obtain ⟨R, hR⟩ : ∃ R, qbytes l = R := ⟨_, rfl⟩; rw [hR]; obtain ⟨n, hn⟩ : ∃ n, l.length = n := ⟨_, rfl⟩; obtain ⟨w1, hw1⟩ : ∃ w1, w.alloc (.cells #[.slice none 0 0] 78) = w1 := ⟨_, rfl⟩; obtain ⟨wb, hwb⟩ : ∃ wb, w.heap.size = wb := ⟨_, rfl⟩
 have hwf : Wf w w1 wb [] := by rw [← hw1, ← hwb]; exact Wf.new r0
 have HN1 := hide (hwf.num n (by omega) (by simp)); have hn1 := enc_len9 (n := n) (by omega); have HW := hd2 hw1 hwb; have HS := hd4 h hl hx hn1; have hq := qbytes_len hl hx; rw [hR] at hq; have HQL := hide hq; have HR := hide hR; rw [hn] at hl ⊢; have HN := hide hn; clear h hx hw1 hwb hwf hn hn1 hq hR
 go_enter Tryz.func132, Tryz.ntmps132
 go_upto_region 2 with fail
 (try rw [HW.out.1])
 (try rw [HW.out.2])
 go_wp2_with fail
 with_reducible refine HN1.out.mono ?_
 rintro e w2 ⟨rfl, hf2⟩; rw [List.nil_append] at hf2; have H2 := hide hf2; clear hf2 HN1; go_wp2
 go_loopw [5, 11, 12, 13, 14, 15, 16, 17] (fun _ iv _ _ _ _ _ _ wr => ∃ (k : Nat) (L : List Nat), k ≤ n ∧ iv = .int .i64 k ∧ Hid (L = enc n ++ (l.take k).flatMap fun x => enc x.toNat) ∧ Hid (Wf w wr wb L ∧ L.length ≤ 9 + 9 * k)) (fun _ iv _ _ _ _ _ _ _ => n - (Go.RowKit.intOf iv).toNat)
 case atStart => exact ⟨0, enc n, Nat.zero_le _, rfl, hide (by simp), hide ⟨H2.out, by have := HS.out.2.2.2; omega⟩⟩
 case round =>
  obtain ⟨k, L, hk, rfl, hL, hW⟩ := hrel
  by_cases hlt : k < n
  ·have i1 : (k : Int) < n := by omega
   have hkl : k < l.length := by rw [HN.out]; exact hlt
   obtain ⟨b, o, rfl, hc⟩ := (HS.out.1.below hW.out.1.be).get hkl; have g1 := hc k hkl
   have hlx : l[k] = l.getD k 0 := by rw [List.getD_eq_getElem?_getD, List.getElem?_eq_getElem hkl]; rfl
   have hxr := HS.out.2.2.1 l[k] (List.getElem_mem _); obtain ⟨x, hx⟩ : ∃ x : Nat, l.getD k 0 = x := ⟨(l.getD k 0).toNat, by rw [hlx] at hxr; omega⟩; rw [hx] at g1 hlx; rw [hlx] at hxr; have HN2 := hide (hW.out.1.num x (by omega) (by have := hW.out.2; omega))
   have hL2 : Hid (L ++ enc x = enc n ++ (l.take (k + 1)).flatMap fun x => enc x.toNat) := hide (by
    rw [← List.take_append_getElem hkl, List.flatMap_append, ← List.append_assoc, ← hL.out, hlx]
    simp)
   have hle : Hid ((L ++ enc x).length ≤ 9 + 9 * (k + 1)) := hide (by have := enc_len9 (n := x) (by omega); have := hW.out.2; rw [List.length_append]; omega); clear hc hx hlx hxr hkl; go_wp2_with fail
   with_reducible refine HN2.out.mono ?_
   rintro e w3 ⟨rfl, hf3⟩; have H3 := hide hf3; clear hf3 HN2 g1; go_wp2
   go_roundw
   case rel => exact ⟨k + 1, L ++ enc x, by omega, by go_num, hL2, hide ⟨H3.out, hle.out⟩⟩
   case measure => simp [Go.RowKit.intOf]; omega
  ·have i1 : ¬ (k : Int) < n := by omega
   obtain rfl : k = n := by omega
   have hLR := hL.out; rw [List.take_of_length_le (by rw [HN.out]; exact Nat.le_refl _)] at hLR
   obtain rfl : R = L := by rw [hLR, ← HR.out]; unfold qbytes; rw [HN.out]
   have HBY := hide (hW.out.1.bytes (by have := hW.out.2; omega)); clear hLR hL; go_wp2_with fail
   with_reducible refine HBY.out.mono ?_
   rintro e w4 ⟨A4, c4, rfl, ho4, hb4⟩; have H4 := hd2 ho4 hb4; clear ho4 hb4 HBY; go_wp2; go_ret
   exact ⟨A4, c4, rfl, H4.out⟩
end
end Go.Proofs.YtcahcjfgmdpdoaaGreat

namespace Go.Proofs.YtcahcjfgmdpdoaaGreat
open Go.RowKit Go.Proofs Go.Maps
set_option linter.unusedVariables false
set_option linter.unusedSimpArgs false

def ebytes (t k : Nat) (b : List Nat) : List Nat := enc t ++ enc k ++ encT b
theorem ebytes_ok {t k : Nat} {b : List Nat} (ht : t < 2 ^ 60) (hk : k < 2 ^ 60) (hb : ∀ x ∈ b, x < 256) (hl : b.length ≤ 100000) : (ebytes t k b).length ≤ b.length + 27 ∧ ∀ x ∈ ebytes t k b, x < 256 := by
 have h1 := enc_len9 (n := t) (by omega); have h2 := enc_len9 (n := k) (by omega); have h3 := enc_len9 (n := b.length) (by omega)
 refine ⟨by unfold ebytes encT; simp only [List.length_append]; omega, fun x hx => ?_⟩
 unfold ebytes encT at hx; simp only [List.mem_append] at hx
 rcases hx with (hx | hx) | (hx | hx)
 ·exact enc_byte _ x hx
 ·exact enc_byte _ x hx
 ·exact enc_byte _ x hx
 ·exact hb x hx
section
variable {w : World} {no : List Nat} {A B : Option Addr} {c d : Nat}
theorem entb_calls (t k : Nat) {b : List Nat} (hb : Rb w [] A c b) (ht : t < 2 ^ 60) (hk : k < 2 ^ 60) (hl : b.length ≤ 100000) :
  Calls Tryz.prog 100 #[.agg #[.int .i64 t, .int .i64 k, .slice A b.length c]] w fun e w' => ∃ A' c', e = .returned (.slice A' (ebytes t k b).length c') ∧ OwnB w w' A' c' (ebytes t k b) ∧ Below w.heap.size w w' := by
 have hlen := enc_len9 (n := t) (by omega); have hlen2 := enc_len9 (n := k) (by omega); have hlen3 := enc_len9 (n := b.length) (by omega); obtain ⟨R, hR⟩ : ∃ R, ebytes t k b = R := ⟨_, rfl⟩; rw [hR]; obtain ⟨w0, hw0⟩ : ∃ w0, w.alloc (.cells #[.int .i64 t, .int .i64 k, .slice A b.length c] 157) = w0 := ⟨_, rfl⟩; obtain ⟨xb, hxb⟩ : ∃ xb, w.heap.size = xb := ⟨_, rfl⟩
 have hb0 : Below w.heap.size w w0 := hw0 ▸ belowL (Below.refl _ _) _
 have bX : Blk w0 xb 157 [.int .i64 t, .int .i64 k, .slice A b.length c] := by rw [← hw0, ← hxb]; exact Blk.new rfl
 obtain ⟨w1, hw1⟩ : ∃ w1, w0.alloc (.cells #[.slice none 0 0] 78) = w1 := ⟨_, rfl⟩; obtain ⟨wb, hwb⟩ : ∃ wb, xb + 1 = wb := ⟨_, rfl⟩
 have hwb' : w0.heap.size = wb := by rw [← hw0, ← hwb, ← hxb]; simp
 have hwf : Wf w0 w1 wb [] := by rw [← hw1, ← hwb']; exact Wf.new (Below.refl _ _)
 have HW := hd4 hw0 hxb hw1 hwb; have HB0 := hide hb0; have HX := hide bX; have HN1 := hide (hwf.num t (by omega) (by simp)); have y0 := HX.out.rule 0 _ rfl w1 hwf.be; have HL := hd7 hlen hlen2 hlen3 (hb.below hb0) hl hR hk; clear hlen hlen2 hlen3 hb hl hR hw0 hxb hb0 bX hw1 hwb hwb' hwf ht hk
 go_enter Tryz.func100, Tryz.ntmps100
 go_upto_region 2 with fail
 (try rw [HW.out.1])
 (try rw [HW.out.2.1])
 (try rw [HW.out.2.2.1])
 (try rw [HW.out.2.2.2])
 go_wp2_with fail
 with_reducible refine HN1.out.mono ?_
 rintro e w2 ⟨rfl, hf2⟩; rw [List.nil_append] at hf2; have y1 := HX.out.rule 1 _ rfl w2 hf2.be; have HN2 := hide (hf2.num k (by have := HL.out.2.2.2.2.2.2; omega) (by have := HL.out.1; omega)); clear hf2 HN1 y0; go_wp2_with fail
 with_reducible refine HN2.out.mono ?_
 rintro e w3 ⟨rfl, hf3⟩; have y2 := HX.out.rule 2 _ rfl w3 hf3.be; have HT := hide (hf3.text HL.out.2.2.2.1 (by rw [List.length_append]; have := HL.out; omega) (by have := HL.out.2.2.2.2.1; omega)); clear hf3 HN2 y1; go_wp2_with fail
 with_reducible refine HT.out.mono ?_
 rintro e w4 ⟨rfl, hf4⟩; rw [show enc t ++ enc k ++ encT b = R from HL.out.2.2.2.2.2.1] at hf4; have HBY := hide (hf4.bytes (by rw [← HL.out.2.2.2.2.2.1]; unfold ebytes encT; simp only [List.length_append]; have := HL.out; omega)); clear hf4 HT y2; go_wp2_with fail
 with_reducible refine HBY.out.mono ?_
 rintro e w5 ⟨A5, c5, rfl, ho5, hb5⟩; have H5 := hd2 (ho5.back HB0.out.size) (belowA hb5 HB0.out); clear ho5 hb5 HBY; go_wp2; go_ret
 exact ⟨A5, c5, rfl, H5.out⟩
def bbytes (t v : Int) : List Nat := enc t.toNat ++ enc (v + 1).toNat
theorem bbytes_ok {t v : Int} (ht : t < 2 ^ 60) (hv : v < 2 ^ 60) : (bbytes t v).length ≤ 18 ∧ ∀ x ∈ bbytes t v, x < 256 := by
 have h1 := enc_len9 (n := t.toNat) (by omega); have h2 := enc_len9 (n := (v + 1).toNat) (by omega)
 refine ⟨by unfold bbytes; rw [List.length_append]; omega, fun x hx => ?_⟩
 rcases List.mem_append.1 hx with hx | hx
 ·exact enc_byte _ x hx
 ·exact enc_byte _ x hx
theorem ballb_calls (t v : Int) (ht : 0 ≤ t ∧ t < 2 ^ 60) (hv : -1 ≤ v ∧ v < 2 ^ 60) :
  Calls Tryz.prog 137 #[.agg #[.int .i64 t, .int .i64 v]] w fun e w' => ∃ A' c', e = .returned (.slice A' (bbytes t v).length c') ∧ OwnB w w' A' c' (bbytes t v) ∧ Below w.heap.size w w' := by
 obtain ⟨n, rfl⟩ : ∃ n : Nat, t = n := ⟨t.toNat, by omega⟩; obtain ⟨m, rfl⟩ : ∃ m : Nat, v = (m : Int) - 1 := ⟨(v + 1).toNat, by omega⟩; have hlen := enc_len9 (n := n) (by omega); have hlen2 := enc_len9 (n := m) (by omega); obtain ⟨R, hR⟩ : ∃ R, bbytes n ((m : Int) - 1) = R := ⟨_, rfl⟩; rw [hR]; obtain ⟨v, hvm⟩ : ∃ v, (m : Int) - 1 = v := ⟨_, rfl⟩; rw [hvm] at hR ⊢
 have q1 : IntKind.i64.wrap (v + 1) = (m : Int) := by rw [IntWalk.i64_in _ (by omega)]; omega
 have hRe : enc n ++ enc m = R := by rw [← hR, bbytes, Int.toNat_natCast, show v + 1 = (m : Int) by omega, Int.toNat_natCast]
 obtain ⟨w0, hw0⟩ : ∃ w0, w.alloc (.cells #[.int .i64 n, .int .i64 v] 105) = w0 := ⟨_, rfl⟩; obtain ⟨xb, hxb⟩ : ∃ xb, w.heap.size = xb := ⟨_, rfl⟩
 have hb0 : Below w.heap.size w w0 := hw0 ▸ belowL (Below.refl _ _) _
 have bX : Blk w0 xb 105 [.int .i64 n, .int .i64 v] := by rw [← hw0, ← hxb]; exact Blk.new rfl
 obtain ⟨w1, hw1⟩ : ∃ w1, w0.alloc (.cells #[.slice none 0 0] 78) = w1 := ⟨_, rfl⟩; obtain ⟨wb, hwb⟩ : ∃ wb, xb + 1 = wb := ⟨_, rfl⟩
 have hwb' : w0.heap.size = wb := by rw [← hw0, ← hwb, ← hxb]; simp
 have hwf : Wf w0 w1 wb [] := by rw [← hw1, ← hwb']; exact Wf.new (Below.refl _ _)
 have HW := hd4 hw0 hxb hw1 hwb; have HB0 := hide hb0; have HX := hide bX; have HN1 := hide (hwf.num n (by omega) (by simp)); have y0 := HX.out.rule 0 _ rfl w1 hwf.be; have HL := hd4 hlen hlen2 hRe (show m < 2 ^ 63 by omega); clear hlen hlen2 hR hRe hw0 hxb hb0 bX hw1 hwb hwb' hwf hvm ht hv
 go_enter Tryz.func137, Tryz.ntmps137
 go_upto_region 2 with fail
 (try rw [HW.out.1])
 (try rw [HW.out.2.1])
 (try rw [HW.out.2.2.1])
 (try rw [HW.out.2.2.2])
 go_wp2_with fail
 with_reducible refine HN1.out.mono ?_
 rintro e w2 ⟨rfl, hf2⟩; rw [List.nil_append] at hf2; have y1 := HX.out.rule 1 _ rfl w2 hf2.be; have HN2 := hide (hf2.num m HL.out.2.2.2 (by have := HL.out.1; omega)); clear hf2 HN1 y0; go_wp2_with fail
 with_reducible refine HN2.out.mono ?_
 rintro e w4 ⟨rfl, hf4⟩; rw [HL.out.2.2.1] at hf4; have HBY := hide (hf4.bytes (by rw [← HL.out.2.2.1, List.length_append]; have := HL.out; omega)); clear hf4 HN2 y1; go_wp2_with fail
 with_reducible refine HBY.out.mono ?_
 rintro e w5 ⟨A5, c5, rfl, ho5, hb5⟩; have H5 := hd2 (ho5.back HB0.out.size) (belowA hb5 HB0.out); clear ho5 hb5 HBY; go_wp2; go_ret
 exact ⟨A5, c5, rfl, H5.out⟩
def sbytes (i t : Nat) (m : List Int) (b : List Nat) : List Nat := enc i ++ enc t ++ encT (qbytes m) ++ encT b
theorem snapb_calls (i t : Nat) {l : List Int} {b : List Nat} (hm : Sl w no A c l) (hml : l.length ≤ 7) (hmx : ∀ x ∈ l, 0 ≤ x ∧ x ≤ 15) (hb : b = [] ∨ Rb w [] B d b) (ht : t < 2 ^ 60) (hi : i < 2 ^ 60) (hl : b.length ≤ 100000) :
  Calls Tryz.prog 86 #[.agg #[.int .i64 i, .int .i64 t, .slice A l.length c, .slice B b.length d]] w fun e w' => ∃ A' c', e = .returned (.slice A' (sbytes i t l b).length c') ∧ OwnB w w' A' c' (sbytes i t l b) ∧ Below w.heap.size w w' := by
 have hlen := enc_len9 (n := t) (by omega); have hlen2 := enc_len9 (n := i) (by omega); have hlen3 := enc_len9 (n := b.length) (by omega); have hq := (qbytes_len hml hmx).1; have hlen4 := enc_len9 (n := (qbytes l).length) (by omega); obtain ⟨R, hR⟩ : ∃ R, sbytes i t l b = R := ⟨_, rfl⟩; rw [hR]; obtain ⟨w0, hw0⟩ : ∃ w0, w.alloc (.cells #[.int .i64 i, .int .i64 t, .slice A l.length c, .slice B b.length d] 107) = w0 := ⟨_, rfl⟩; obtain ⟨xb, hxb⟩ : ∃ xb, w.heap.size = xb := ⟨_, rfl⟩
 have hb0 : Below w.heap.size w w0 := hw0 ▸ belowL (Below.refl _ _) _
 have bX : Blk w0 xb 107 [.int .i64 i, .int .i64 t, .slice A l.length c, .slice B b.length d] := by rw [← hw0, ← hxb]; exact Blk.new rfl
 obtain ⟨w1, hw1⟩ : ∃ w1, w0.alloc (.cells #[.slice none 0 0] 78) = w1 := ⟨_, rfl⟩; obtain ⟨wb, hwb⟩ : ∃ wb, xb + 1 = wb := ⟨_, rfl⟩
 have hwb' : w0.heap.size = wb := by rw [← hw0, ← hwb, ← hxb]; simp
 have hwf : Wf w0 w1 wb [] := by rw [← hw1, ← hwb']; exact Wf.new (Below.refl _ _)
 have HW := hd4 hw0 hxb hw1 hwb; have HB0 := hide hb0; have HX := hide bX; have HN1 := hide (hwf.num i (by omega) (by simp)); have y0 := HX.out.rule 0 _ rfl w1 hwf.be; have HL := hd9 hlen hlen2 hlen3 (hb.imp id (fun h => h.below hb0)) hl hR ht hq hlen4; have HM := hd3 (hm.below hb0) hml hmx; clear hlen hlen2 hlen3 hlen4 hq hb hl hR hw0 hxb hb0 bX hw1 hwb hwb' hwf ht hi hm hml hmx
 go_enter Tryz.func86, Tryz.ntmps86
 go_upto_region 2 with fail
 (try rw [HW.out.1])
 (try rw [HW.out.2.1])
 (try rw [HW.out.2.2.1])
 (try rw [HW.out.2.2.2])
 go_wp2_with fail
 with_reducible refine HN1.out.mono ?_
 rintro e w2 ⟨rfl, hf2⟩; rw [List.nil_append] at hf2; have y1 := HX.out.rule 1 _ rfl w2 hf2.be; have HN2 := hide (hf2.num t (by have := HL.out.2.2.2.2.2.2.1; omega) (by have := HL.out.2.1; omega)); clear hf2 HN1 y0; go_wp2_with fail
 with_reducible refine HN2.out.mono ?_
 rintro e w3 ⟨rfl, hf3⟩; have y2 := HX.out.rule 2 _ rfl w3 hf3.be; have HQB := hide (qbytes_calls (HM.out.1.below hf3.be) HM.out.2.1 HM.out.2.2); have H3 := hide hf3; clear hf3 HN2 y1; go_wp2_with fail
 with_reducible refine HQB.out.mono ?_
 rintro e w4 ⟨A4, c4, rfl, ho4, hb4⟩; have HT := hide (H3.out.textN hb4 ho4 (by rw [List.length_append]; have := HL.out; omega) (by have := HL.out; omega)); clear ho4 hb4 HQB y2; go_wp2_with fail
 with_reducible refine HT.out.mono ?_
 rintro e w5 ⟨rfl, hf5⟩; have y3 := HX.out.rule 3 _ rfl w5 hf5.be; have HT2 := hide (hf5.textZ HL.out.2.2.2.1 (by unfold encT; simp only [List.length_append]; have := HL.out; omega) (by have := HL.out.2.2.2.2.1; omega)); clear hf5 HT H3; go_wp2_with fail
 with_reducible refine HT2.out.mono ?_
 rintro e w6 ⟨rfl, hf6⟩; rw [show enc i ++ enc t ++ encT (qbytes l) ++ encT b = R from HL.out.2.2.2.2.2.1] at hf6; have HBY := hide (hf6.bytes (by rw [← HL.out.2.2.2.2.2.1]; unfold sbytes encT; simp only [List.length_append]; have := HL.out; omega)); clear hf6 HT2 y3; go_wp2_with fail
 with_reducible refine HBY.out.mono ?_
 rintro e w7 ⟨A5, c5, rfl, ho5, hb5⟩; have H5 := hd2 (ho5.back HB0.out.size) (belowA hb5 HB0.out); clear ho5 hb5 HBY; go_wp2; go_ret
 exact ⟨A5, c5, rfl, H5.out⟩
theorem bstand_calls (t v me : Int) (ht : 0 ≤ t ∧ t < 2 ^ 60) : Calls Tryz.prog 96 #[.agg #[.int .i64 t, .int .i64 v], .int .i64 me] w fun e w' => e = .returned (.agg #[.int .i64 (t + 1), .int .i64 me]) ∧ Below w.heap.size w w' := by
 have q1 : IntKind.i64.wrap (t + 1) = t + 1 := IntWalk.i64_in _ (by omega); have r0 := Below.refl w.heap.size w; clear ht
 go_enter Tryz.func96, Tryz.ntmps96
 go_wp2
 exact bodyPost_ret (v := .agg #[.int .i64 (t + 1), .int .i64 me]) (by simp [results, Tryz.results96, go_sem, *]) rfl ⟨rfl, belowL (belowL r0 _) _⟩
end
end Go.Proofs.YtcahcjfgmdpdoaaGreat
