/- One text of: Byp Byq. -/
import Derived.Test.YtcahcjfgmdpdoaaGreatQBY
import Derived.Test.YtcahcjfgmdpdoaaGreatQVG
import Derived.Test.YtcahcjfgmdpdoaaGreatQCmdb
import Derived.Test.YtcahcjfgmdpdoaaGreatQSR
set_option maxHeartbeats 16000000
set_option maxRecDepth 100000
namespace Go.Proofs.YtcahcjfgmdpdoaaGreat
open Go.RowKit Go.Proofs Go.Maps
set_option linter.unusedVariables false
set_option linter.unusedSimpArgs false

theorem vnums_calls (w : World) (b : Nat) (g : Option Nat) (L : List Nat) (A : Option Addr) (c : Nat) (l : List Int) (h : WR w b g L) (hS : Sl w (b :: g.toList) A c l) (hl : L.length ≤ 900000) (hx : ∀ x ∈ l, x < 2 ^ 63) :
  Calls Tryz.prog 30 #[.pointer (some ⟨b, 0, none⟩), .slice A l.length c] w fun e w' => e = .returned (.tuple #[]) ∧ Wrote w w' b g (L ++ encs (lst (toN l))) := by
 have hln := hS.ln; have H0 := hide (wnum_calls w b g L (l.length : Int) h (by omega) (by omega)); have HS := hide hS; have HX := hide hx; have HLN := hd2 hl hln; clear h hS hx hl hln
 go_enter Tryz.func30, Tryz.ntmps30
 go_wp2_with fail; refine H0.out.mono ?_; rintro e w1 ⟨rfl, hw1⟩; have HW1 := hide hw1; clear hw1 H0; go_wp2
 go_loopw [5, 12, 13, 14, 15, 16, 17, 18, 19] (fun _ ix _ _ _ _ _ _ _ wr => ∃ k : Nat, k ≤ l.length ∧ ix = .int .i64 k ∧ Wrote w wr b g (L ++ encs (l.length :: (toN l).take k))) (fun _ ix _ _ _ _ _ _ _ _ => l.length - (intOf ix).toNat)
 case atStart => exact ⟨0, by omega, rfl, by simpa [encs] using HW1.out⟩
 case round =>
  obtain ⟨k, hk, rfl, hwr⟩ := hrel; have HWT := hide hwr; clear hwr; have hlnn : l.length ≤ 1024 := HLN.out.2
  by_cases hlt : k < l.length
  ·obtain ⟨bA, oA, eA, hbA, hcell⟩ := HS.out.rd.2 (by omega)
   obtain ⟨g1, hw1, hch1, hor1⟩ := HWT.out
   have hne : bA ∉ b :: g.toList := by have := (HS.out.ap _ eA).2.1; simpa using this
   have g0 := (hch1.cell (p := ⟨bA, oA + k, none⟩) hbA hne).trans (hcell k (.int .i64 l[k]) (by simp [hlt]))
   have i1 : (k : Int) < l.length := by omega
   have hx := HX.out l[k] (List.getElem_mem hlt)
   have hkN : k < (toN l).length := by simpa [toN] using hlt
   have ht : encs (l.length :: (toN l).take (k + 1)) = encs (l.length :: (toN l).take k) ++ enc (l[k]).toNat := by
    rw [List.take_succ_eq_append_getElem hkN, ← List.cons_append, encs_app]
    simp [encs, toN]
   have hln2 : (encs (l.length :: (toN l).take k)).length ≤ 9 * 1025 := by
    have h1 := encs_len (l.length :: (toN l).take k) (fun n hn => by
     have := HLN.out.2
     rcases List.mem_cons.1 hn with rfl | hn
     ·omega
     ·obtain ⟨z, hz, rfl⟩ := List.mem_map.1 (List.mem_of_mem_take hn)
      have := HX.out z hz
      omega)
    have := HLN.out.2; simp only [List.length_cons, List.length_take] at h1
    omega
   obtain ⟨x, hx0⟩ : ∃ x, l[k] = x := ⟨_, rfl⟩; rw [hx0] at g0 hx ht; have HT := hide ht; have HC := hide (wnum_calls wr b g1 _ x hw1 hx (by have := HLN.out.1; rw [List.length_append]; omega)); have HG1 := hd2 hch1 hor1; subst eA; clear hcell hx hx0 ht hw1 hch1 hor1 hln2 hne hbA hkN; go_wp2_with fail; refine HC.out.mono ?_; rintro e w3 ⟨rfl, hw3⟩
   have HW3 : Hid (Wrote w w3 b g (L ++ encs (l.length :: (toN l).take (k + 1)))) := hide (by
    rw [HT.out, ← List.append_assoc]
    exact Wrote.step HG1.out.1 HG1.out.2 hw3)
   clear hw3 g0 HC; go_wp2
   go_roundw
   case rel => exact ⟨k + 1, by omega, by go_num, HW3.out⟩
   case measure => simp [intOf]; omega
  ·have e : k = l.length := by omega
   have hfin : Wrote w wr b g (L ++ encs (lst (toN l))) := by
    have := HWT.out; rw [e, List.take_of_length_le (by simp [toN])] at this; unfold lst; rw [show (toN l).length = l.length by simp [toN]]
    exact this
   have HF := hide hfin; clear hfin
   have hge : ¬ k < l.length := by omega
   go_wp2
   go_end0
   exact ⟨rfl, HF.out⟩
def NumsOut (w w' : World) (b : Nat) (no : List Nat) (r : Rdr) (e : Ending) : Prop :=
 ∃ A c, e = .returned (.slice A r.list.1.length c) ∧ OwnI w w' A c (toI r.list.1) ∧ RO w' b no r.list.2 ∧ Chg [b] w w'
theorem items_more (r : Rdr) (h : r.e = 0) (k : Nat) : r.items (k + 1) = ((r.num maxN).1 :: ((r.num maxN).2.items k).1, ((r.num maxN).2.items k).2) := by
 conv => lhs; unfold Rdr.items
 rw [if_pos h]
theorem vreadn_calls (w : World) (b : Nat) (no : List Nat) (r : Rdr) (h : RO w b no r) (hl : r.b.length ≤ 1000000) :
  Calls Tryz.prog 52 #[.pointer (some ⟨b, 0, none⟩)] w fun e w' => NumsOut w w' b no r e := by
 obtain ⟨i0, hi, hz0, hz1, hz2⟩ := info_parts Tryz.infoI3; have H0 : Hid (Calls Tryz.prog 51 #[.pointer (some ⟨b, 0, none⟩), .int .i64 512] w _) := hide (rnum_calls w b no r 512 h hl (by decide)); have HB := hide h.lt; obtain ⟨n, hn⟩ : ∃ n, (r.num 512).1 = n := ⟨_, rfl⟩; obtain ⟨r1, hr1⟩ : ∃ r1, (r.num 512).2 = r1 := ⟨_, rfl⟩
 have hl1 : r1.b.length ≤ 1000000 := by rw [← hr1]; exact Nat.le_trans (Rdr.num_len 512) hl
 have hn1 : n ≤ 512 := by rw [← hn]; exact Rdr.num_le 512
 have hli : r.list = r1.items n := by unfold Rdr.list; rw [hn, hr1]
 rw [hn, hr1] at H0; have HLI := hide hli; have HL1 := hd2 hl1 hn1; clear h hl hn hr1 hl1 hn1 hli; unfold NumsOut; rw [HLI.out]; obtain ⟨R, hR⟩ : ∃ R, r1.items n = R := ⟨_, rfl⟩; have HR := hide hR; rw [hR]; clear hR
 go_enter Tryz.func52, Tryz.ntmps52
 go_wp2_with fail; refine H0.out.mono ?_; rintro e w1 ⟨rfl, hro1, hch1⟩; have H1 := hd2 hro1 hch1; clear hro1 hch1 H0; go_wp2
 go_loopw [3, 6, 7, 8, 9, 10, 11, 12, 13, 14, 15, 16] (fun v ix _ _ _ _ _ _ _ _ _ _ wr => ∃ (k : Nat) (A : Option Addr) (c : Nat) (pre : List Nat) (rr : Rdr), k ≤ n ∧ ix = .int .i64 k ∧ v = .slice A k c ∧ pre.length = k ∧ OwnI w wr A c (toI pre) ∧ RO wr b ((A.map Addr.block).toList ++ no) rr ∧ Chg [b] w wr ∧ R = (pre ++ (rr.items (n - k)).1, (rr.items (n - k)).2) ∧ rr.b.length ≤ 1000000) (fun v ix _ _ _ _ _ _ _ _ _ _ _ => n - (intOf ix).toNat)
 case atStart => exact ⟨0, none, 0, [], r1, Nat.zero_le _, rfl, rfl, rfl, ⟨World.ownsRow_nil _ _ _ _, fun g hg => by cases hg⟩, by simpa using H1.out.1, H1.out.2, by simp [HR.out], HL1.out.1⟩
 case round =>
  obtain ⟨k, A, c, pre, rr, hk, rfl, rfl, hpl, how, hro, hch, hRR, hrl⟩ := hrel; have HOW := hide how; have HRO := hd3 hro hch hrl; have HPL := hide hpl; have HRR := hide hRR; have hn1 := HL1.out.2; clear hpl how hro hch hrl hRR
  by_cases hlt : k < n
  ·have i1 : (k : Int) < n := by omega
   have HE := hide (rerr_calls wr b _ rr HRO.out.1); obtain ⟨ee, hee⟩ : ∃ ee, rr.e = ee := ⟨_, rfl⟩; rw [hee] at HE; have HEE := hide hee; clear hee; go_wp2_with fail; refine HE.out.mono ?_; rintro e w2 ⟨rfl, hb2⟩; have HB2 := hide hb2; clear hb2 HE
   by_cases h0 : ee = 0
   ·subst h0
    have HN : Hid (Calls Tryz.prog 51 #[.pointer (some ⟨b, 0, none⟩), .int .i64 4611686018427387904] w2 _) := hide (rnum_calls w2 b _ rr 4611686018427387904 (HRO.out.1.below HB2.out) HRO.out.2.2 (by decide)); go_wp2_with fail; refine HN.out.mono ?_; rintro e w3 ⟨rfl, hro3, hch3⟩
    have hsplit : rr.items (n - k) = ((rr.num maxN).1 :: ((rr.num maxN).2.items (n - (k + 1))).1, ((rr.num maxN).2.items (n - (k + 1))).2) := by
     rw [show n - k = (n - (k + 1)) + 1 by omega]
     exact items_more rr HEE.out _
    have hlen3 : (rr.num maxN).2.b.length ≤ 1000000 := Nat.le_trans (Rdr.num_len _) HRO.out.2.2; obtain ⟨x, hx⟩ : ∃ x, (rr.num maxN).1 = x := ⟨_, rfl⟩; obtain ⟨r3, hr3⟩ : ∃ r3, (rr.num maxN).2 = r3 := ⟨_, rfl⟩; rw [hx, hr3] at hsplit; rw [hr3] at hlen3
    have e1 : rr.num 4611686018427387904 = (x, r3) := by rw [← hx, ← hr3]; rfl
    rw [e1] at hro3 ⊢; simp only [] at hro3 ⊢; have H3 := hd4 hro3 hch3 hsplit hlen3
    have HOB := hide (own_chg (own_chg (own_chg HOW.out.1 (Chg.of_below (L := []) HB2.out) (fun _ _ hx => by cases hx)) hch3 (fun g hg hx => by
     rw [owS] at hg; have h1 := HOW.out.2 g hg; have h2 := HB.out; have h3 := List.mem_singleton.1 hx
     omega)) (Chg.of_below (L := []) ((Below.refl _ w3).alloc (Nat.le_refl _) (.cells #[.int .i64 (x : Int)] 3))) (fun _ _ hx => by cases hx))
    rw [show (toI pre).length = k by rw [← HPL.out]; simp [toI]] at HOB; clear hro3 hch3 hsplit hlen3 hx hr3 e1 HN
    go_wp2_with (at_builtin; refine app_law rfl _ _ 28 rfl 3 i0 _ 1 8 Tryz.underlying28 hi hz0 hz1 hz2 rfl (by decide) (.slice A k c) k ((toI pre).map (Value.int .i64)) rfl HOB.out w3.heap.size 1 1 [.int .i64 (x : Int)] rfl (Blk.new rfl) rfl ?c1 (by decide) ?c3 ?c4 ?_)
    case c1 => intro u hu; simp at hu; subst hu; rfl
    case c3 => unfold maxLen; omega
    case c4 => omega
    intro g4 cap4 w4 ho4 hch4 hor4 hgl4
    rw [owS] at hch4 hor4; have hs23 : w.heap.size ≤ w3.heap.size := Nat.le_trans HRO.out.2.1.size (Nat.le_trans HB2.out.size H3.out.2.1.size)
    have hg4 : w.heap.size ≤ g4 := by
     rcases hor4 with e | e
     ·exact HOW.out.2 g4 e
     ·omega
    have hc4 : Chg [b] w w4 := (((HRO.out.2.1.below HB2.out).trans H3.out.2.1 (fun z hz => Or.inl hz)).below ((Below.refl _ w3).alloc (Nat.le_refl _) (.cells #[.int .i64 (x : Int)] 3))).trans hch4 (fun z hz => by
     have hz2 : A.map Addr.block = some z := by simpa using hz
     exact Or.inr (HOW.out.2 z hz2))
    have hro4 : RO w4 b ([g4] ++ no) r3 := by
     have hr := (H3.out.1.below ((Below.refl _ w3).alloc (Nat.le_refl _) (.cells #[.int .i64 (x : Int)] 3))).plus (no' := (A.map Addr.block).toList ++ ([g4] ++ no)) (fun z hz => by
      rcases List.mem_append.1 hz with hz | hz
      ·exact Or.inl (List.mem_append.2 (Or.inl hz))
      ·rcases List.mem_append.1 hz with hz | hz
       ·rw [List.mem_singleton.1 hz]
        rcases hor4 with e | e
        ·exact Or.inl (List.mem_append.2 (Or.inl (by rw [e]; simp)))
        ·exact Or.inr (by simp at e ⊢; omega)
       ·exact Or.inl (List.mem_append.2 (Or.inr hz)))
     exact (hr.chg hch4 (fun hx => by
      have hz2 : A.map Addr.block = some b := by simpa using hx
      have := HOW.out.2 b hz2; have := HB.out
      omega) (fun z hz => Or.inl (List.mem_append.2 (Or.inl hz)))).plus (fun z hz => Or.inl (List.mem_append.2 (Or.inr hz)))
    have hi4 : OwnI w w4 (some ⟨g4, 0, none⟩) cap4 (toI (pre ++ [x])) := by
     refine ⟨?_, fun g hg => ?_⟩
     ·rw [show (toI (pre ++ [x])).length = k + 1 by rw [← HPL.out]; simp [toI]]
      simpa [toI] using ho4
     ·have : g4 = g := by simpa using hg
      rw [← this]; exact hg4
    have HEND := hd3 hc4 hro4 hi4; clear ho4 hch4 hor4 hgl4 hs23 hg4 hc4 hro4 hi4; go_wp2
    go_roundw
    case rel => exact ⟨k + 1, some ⟨g4, 0, none⟩, cap4, pre ++ [x], r3, by omega, by go_num, rfl, by rw [List.length_append, HPL.out]; rfl, HEND.out.2.2, HEND.out.2.1, HEND.out.1, by rw [HRR.out, H3.out.2.2.1]; simp, H3.out.2.2.2⟩
    case measure => simp [intOf]; omega
   ·have hne : ((ee : Int) != 0) = true := by simp; omega
    have hfin : R = (pre, rr) := by
     rw [HRR.out, items_bad (by rw [HEE.out]; exact h0)]
     simp
    have hown : OwnI w w2 A c (toI pre) := HOW.out.below HB2.out; have HF := hd4 hfin hown ((HRO.out.1.below HB2.out).plus (no' := no) (fun z hz => Or.inl (List.mem_append.2 (Or.inr hz)))) (HRO.out.2.1.below HB2.out); clear hfin hown; go_wp2; go_ret; rw [HF.out.1]
    exact ⟨A, c, by rw [HPL.out]; rfl, HF.out.2.1, HF.out.2.2.1, HF.out.2.2.2⟩
  ·have e : k = n := by omega
   have hfin : R = (pre, rr) := by
    rw [HRR.out, e, Nat.sub_self]
    simp [Rdr.items]
   have HF := hd4 hfin HOW.out (HRO.out.1.plus (no' := no) (fun z hz => Or.inl (List.mem_append.2 (Or.inr hz)))) HRO.out.2.1
   have hge : ¬ (k : Int) < n := by omega
   clear hfin e; go_wp2; go_ret; rw [HF.out.1]
   exact ⟨A, c, by rw [HPL.out]; rfl, HF.out.2.1, HF.out.2.2.1, HF.out.2.2.2⟩

theorem Wrote.below2 {w1 w2 w3 : World} {b : Nat} {g : Option Nat} {L : List Nat} (h : Wrote w1 w2 b g L) (hb : Below w2.heap.size w2 w3) : Wrote w1 w3 b g L := by
 obtain ⟨g1, h1, h2, h3⟩ := h
 exact ⟨g1, h1.below hb, h2.below hb, h3⟩
theorem Wrote.onto {w w1 w2 : World} {b : Nat} {L : List Nat} (h : Wrote w1 w2 b none L) (hb : Below w.heap.size w w1) (hk : w.heap.size ≤ b) : Below w.heap.size w w2 := by
 obtain ⟨g1, h1, h2, h3⟩ := h
 exact Chg.onto hb hb.size h2 (fun z hz => by simp at hz; omega)
theorem wnumW {w1 w2 : World} {b : Nat} {L : List Nat} (n : Int) (h : Wrote w1 w2 b none L) (hn : n < 2 ^ 63) (hl : L.length ≤ 1000000) :
  Calls Tryz.prog 28 #[.pointer (some ⟨b, 0, none⟩), .int .i64 n] w2 fun e w' => e = .returned (.tuple #[]) ∧ Wrote w1 w' b none (L ++ enc n.toNat) := by
 obtain ⟨g1, h1, h2, h3⟩ := h
 exact (wnum_calls w2 b g1 L n h1 hn hl).mono fun e w' ⟨he, hw⟩ => ⟨he, Wrote.step h2 h3 hw⟩
theorem Wrote.base {w1 w3 w4 : World} {b : Nat} {L : List Nat} (h : Wrote w1 w3 b none L) (hb : Below w3.heap.size w3 w4) : ∃ g, WR w4 b g L ∧ (∀ x, g = some x → w1.heap.size ≤ x ∧ x < w3.heap.size) ∧ ∀ w5 L', Wrote w4 w5 b g L' → Wrote w1 w5 b none L' := by
 obtain ⟨g1, h1, h2, h3⟩ := h
 refine ⟨g1, h1.below hb, fun x hx => ?_, fun w5 L' h5 => Wrote.step (h2.below hb) h3 h5⟩
 rcases h3 with e | ⟨y, e, hy⟩
 ·rw [e] at hx; cases hx
 ·have := h1.glt x hx
  rw [e] at hx
  cases hx
  exact ⟨hy, this⟩
theorem Wrote.ontoG {w w1 w2 : World} {b : Nat} {g : Option Nat} {L : List Nat} (h : Wrote w1 w2 b g L) (hb : Below w.heap.size w w1) (hk : w.heap.size ≤ b) (hg : ∀ x, g = some x → w.heap.size ≤ x) : Below w.heap.size w w2 := by
 obtain ⟨g1, h1, h2, h3⟩ := h
 refine Chg.onto hb hb.size h2 (fun z hz => ?_)
 rcases List.mem_cons.1 hz with e | hz
 ·omega
 ·exact hg z (by simpa using hz)
theorem Wrote.lt {w1 w3 : World} {b : Nat} {g : Option Nat} {L : List Nat} (h : Wrote w1 w3 b g L) : b < w3.heap.size := by
 obtain ⟨g1, h1, h2, h3⟩ := h
 exact h1.lt
theorem Wrote.size {w1 w3 : World} {b : Nat} {g : Option Nat} {L : List Nat} (h : Wrote w1 w3 b g L) : w1.heap.size ≤ w3.heap.size := by
 obtain ⟨g1, h1, h2, h3⟩ := h
 exact h2.size
theorem vnumsG {w1 wr w2 : World} {b : Nat} {g : Option Nat} {L : List Nat} {A : Option Addr} {c : Nat} {l : List Int} (h : Wrote w1 wr b g L) (hb : Below wr.heap.size wr w2) (hl : L.length ≤ 900000) (hR : Reads w2 w2.heap.size 1 A l.length (l.map (Value.int .i64)))
  (hln : l.length ≤ 1024) (hle : l.length ≤ c) (hA : ∀ a, A = some a → a.spot = none ∧ a.block ∉ b :: g.toList ∧ (a.block < w1.heap.size ∨ wr.heap.size ≤ a.block) ∧ a.block < w2.heap.size) (hx : ∀ x ∈ l, x < 2 ^ 63) :
  Calls Tryz.prog 30 #[.pointer (some ⟨b, 0, none⟩), .slice A l.length c] w2 fun e w' => e = .returned (.tuple #[]) ∧ Wrote w1 w' b g (L ++ encs (lst (toN l))) := by
 obtain ⟨g1, h1, h2, h3⟩ := h
 refine (vnums_calls w2 b g1 L A c l (h1.below hb) ⟨hle, hln, hR, fun a ha => ?_⟩ hl hx).mono fun e w' ⟨he, hw⟩ => ⟨he, Wrote.step (h2.below hb) h3 hw⟩
 obtain ⟨k1, k2, k3, k4⟩ := hA a ha
 refine ⟨k1, fun hx => ?_, k4⟩
 rcases List.mem_cons.1 hx with e | hx
 ·exact k2 (by rw [e]; simp)
 ·have hg : g1 = some a.block := by simpa using hx
  have hlt := h1.glt _ hg
  rcases h3 with e | ⟨x, e, hxl⟩
  ·rw [e] at hg; exact k2 (by rw [hg]; simp)
  ·rw [e] at hg
   cases hg
   omega
theorem bal_ {w0 w : World} (h : Below w0.heap.size w0 w) (o : Obj) : Below w0.heap.size w0 (w.alloc o) := h.alloc h.size o
theorem bal_t {w0 X w2 : World} (h : Below w0.heap.size w0 X) (h2 : Below X.heap.size X w2) : Below w0.heap.size w0 w2 ∧ w0.heap.size ≤ X.heap.size := ⟨h.trans (h2.mono h.size), h.size⟩
theorem Blk.ruleC {w : World} {b : Nat} {t : TypeId} {cs : List Value} {no : List Nat} (h : Blk w b t cs) (hn : b ∉ no) (i : Nat) (u : Value) (hu : cs[i]? = some u) : ∀ w', Chg no w w' → w'.cell? ⟨b, i, none⟩ = some u :=
 fun _ hb => ((h.chg hb hn).cell i).trans hu
theorem Sl.no {w : World} {no : List Nat} {A : Option Addr} {c : Nat} {l : List Int} (h : Sl w no A c l) : Sl w [] A c l := ⟨h.le, h.ln, h.rd, fun a ha => ⟨(h.ap a ha).1, by simp, (h.ap a ha).2.2⟩⟩
theorem vnumsH {wr w2 : World} {b : Nat} {g : Option Nat} {L : List Nat} {A : Option Addr} {c : Nat} {l : List Int} (h1 : WR wr b g L) (hb : Below wr.heap.size wr w2) (hl : L.length ≤ 900000) (hR : Reads w2 w2.heap.size 1 A l.length (l.map (Value.int .i64)))
  (hln : l.length ≤ 1024) (hle : l.length ≤ c) (hA : ∀ a, A = some a → a.spot = none ∧ wr.heap.size ≤ a.block ∧ a.block < w2.heap.size) (hx : ∀ x ∈ l, x < 2 ^ 63) :
  Calls Tryz.prog 30 #[.pointer (some ⟨b, 0, none⟩), .slice A l.length c] w2 fun e w' => e = .returned (.tuple #[]) ∧ Wrote w2 w' b g (L ++ encs (lst (toN l))) := by
 refine vnums_calls w2 b g L A c l (h1.below hb) ⟨hle, hln, hR, fun a ha => ?_⟩ hl hx
 obtain ⟨k1, k2, k4⟩ := hA a ha
 refine ⟨k1, fun hx => ?_, k4⟩
 rcases List.mem_cons.1 hx with e | hx
 ·have := h1.lt; omega
 ·have := h1.glt _ (by simpa using hx); omega
theorem Wrote.ofChg {w w1 w2 : World} {b : Nat} {g : Option Nat} {L : List Nat} (h : Wrote w1 w2 b g L) (hb : Below w.heap.size w w1) : Wrote w w2 b g L := by
 obtain ⟨g1, h1, h2, h3⟩ := h
 exact Wrote.step (Chg.of_below hb) (Or.inl rfl) ⟨g1, h1, h2, h3⟩
theorem chg_wrote {w w1 w2 : World} {b : Nat} {g : Option Nat} {L : List Nat} (hb : Below w.heap.size w w1) (h : Wrote w1 w2 b g L) : Chg (b :: g.toList) w w2 := by
 obtain ⟨g1, h1, h2, h3⟩ := h
 exact (Chg.of_below hb).trans h2 (fun x hx => Or.inl hx)
theorem concat3_calls (w : World) (q g1 g2 : Nat) (A3 : Option Addr) (c3 : Nat) (l1 l2 l3 : List Int) (n1 : l1.length = 3) (n2 : l2.length = 4) (n3 : l3 ≠ []) (n4 : l3.length ≤ 1000) (hq : Blk w q 28 [.slice (some ⟨g1, 0, none⟩) 3 3, .slice (some ⟨g2, 0, none⟩) 4 4, .slice A3 l3.length c3]) (s1 : Sl w [] (some ⟨g1, 0, none⟩) 3 l1) (s2 : Sl w [] (some ⟨g2, 0, none⟩) 4 l2) (s3 : Sl w [] A3 c3 l3) :
  Calls Tryz.prog 32 #[.slice (some ⟨q, 0, none⟩) 3 3] w fun e w' => ∃ A c, e = .returned (.slice A (l1 ++ l2 ++ l3).length c) ∧ OwnI w w' A c (l1 ++ l2 ++ l3) ∧ Below w.heap.size w w' := by
 have h := concat_calls w [] q [⟨some ⟨g1, 0, none⟩, 3, l1⟩, ⟨some ⟨g2, 0, none⟩, 4, l2⟩, ⟨A3, c3, l3⟩] (by simpa [SlI.val, n1, n2] using hq) (by
  intro z hz
  simp only [List.mem_cons, List.not_mem_nil, or_false] at hz
  rcases hz with rfl | rfl | rfl
  ·exact ⟨s1, fun e => by simp only [] at e; rw [e] at n1; cases n1⟩
  ·exact ⟨s2, fun e => by simp only [] at e; rw [e] at n2; cases n2⟩
  ·exact ⟨s3, n3⟩) (by simp) (by simp [catI, n1, n2]; omega)
 have e : catI [⟨some ⟨g1, 0, none⟩, 3, l1⟩, ⟨some ⟨g2, 0, none⟩, 4, l2⟩, ⟨A3, c3, l3⟩] = l1 ++ l2 ++ l3 := by simp [catI]
 rw [e] at h
 exact h
structure BytOk (S : Vst) : Prop where
 nx : S.nx < 2 ^ 63
 ls : S.sv.length ≤ 1000
 lv : S.vs.length ≤ 1000
 lc : S.cs.length ≤ 1000000
 sv : ∀ x ∈ S.sv, x.1 < 2 ^ 63 ∧ x.2 < 2 ^ 63
 vs : ∀ v ∈ S.vs, (v.id < 2 ^ 63 ∧ v.bl < 2 ^ 63 ∧ v.ver < 2 ^ 63 ∧ v.p.r < 2 ^ 63 ∧ v.p.w < 2 ^ 63 ∧ v.p.l < 2 ^ 63 ∧ v.p.b < 2 ^ 63) ∧ v.ch ≠ [] ∧ v.ch.length ≤ 1000 ∧ ∀ x ∈ v.ch, x < 2 ^ 63
 cs : ∀ c ∈ S.cs, (c.id < 2 ^ 63 ∧ c.vol < 2 ^ 63 ∧ c.ep < 2 ^ 63) ∧ (∀ x ∈ c.me, x < 2 ^ 63) ∧ ∀ x ∈ c.jo, x < 2 ^ 63
 len : S.bytes.length ≤ 800000
def Vst.P1 (S : Vst) : List Nat := [S.nx.toNat, S.sv.length]
def Vst.P2 (S : Vst) (k : Nat) : List Nat := S.P1 ++ cat svNums (S.sv.take k)
def Vst.P3 (S : Vst) : List Nat := S.P1 ++ cat svNums S.sv ++ [S.vs.length]
def Vst.P4 (S : Vst) (k : Nat) : List Nat := S.P3 ++ cat (fun v => lst (Vo.nums v)) (S.vs.take k)
def Vst.P5 (S : Vst) : List Nat := S.P3 ++ cat (fun v => lst (Vo.nums v)) S.vs ++ [S.cs.length]
def Vst.P6 (S : Vst) (k : Nat) : List Nat := S.P5 ++ cat Ck.nums (S.cs.take k)
theorem Vst.ser_P5 (S : Vst) : S.ser = S.P5 ++ cat Ck.nums S.cs := by
 unfold Vst.ser Vst.P5 Vst.P3 Vst.P1; simp only [List.append_assoc, List.cons_append, List.nil_append]
theorem pre_le {S : Vst} {P t : List Nat} (h : S.ser = P ++ t) : (encs P).length ≤ S.bytes.length := by
 unfold Vst.bytes; rw [h, encs_app, List.length_append]
 omega
theorem Vst.P2_pre (S : Vst) (k : Nat) : (encs (S.P2 k)).length ≤ S.bytes.length := by
 refine pre_le (t := cat svNums (S.sv.drop k) ++ ([S.vs.length] ++ cat (fun v => lst (Vo.nums v)) S.vs ++ [S.cs.length] ++ cat Ck.nums S.cs)) ?_
 have h : cat svNums S.sv = cat svNums (S.sv.take k) ++ cat svNums (S.sv.drop k) := by rw [← cat_app, List.take_append_drop]
 unfold Vst.ser Vst.P2 Vst.P1; rw [h]; simp only [List.append_assoc, List.cons_append, List.nil_append]
theorem Vst.P4_pre (S : Vst) (k : Nat) : (encs (S.P4 k)).length ≤ S.bytes.length := by
 refine pre_le (t := cat (fun v => lst (Vo.nums v)) (S.vs.drop k) ++ ([S.cs.length] ++ cat Ck.nums S.cs)) ?_
 have h : cat (fun v => lst (Vo.nums v)) S.vs = cat (fun v => lst (Vo.nums v)) (S.vs.take k) ++ cat (fun v => lst (Vo.nums v)) (S.vs.drop k) := by rw [← cat_app, List.take_append_drop]
 unfold Vst.ser Vst.P4 Vst.P3 Vst.P1; rw [h]; simp only [List.append_assoc, List.cons_append, List.nil_append]
theorem Vst.P6_pre (S : Vst) (k : Nat) : (encs (S.P6 k)).length ≤ S.bytes.length := by
 refine pre_le (t := cat Ck.nums (S.cs.drop k)) ?_
 rw [S.ser_P5]; unfold Vst.P6; rw [List.append_assoc, ← cat_app, List.take_append_drop]
theorem Vst.P2_step (S : Vst) {k : Nat} (h : k < S.sv.length) : encs (S.P2 (k + 1)) = encs (S.P2 k) ++ encs (lst (toN [S.sv[k].1, S.sv[k].2])) := by
 unfold Vst.P2; rw [cat_snoc _ _ _ h, ← List.append_assoc, encs_app]
 rfl
theorem Vst.P4_step (S : Vst) {k : Nat} (h : k < S.vs.length) : encs (S.P4 (k + 1)) = encs (S.P4 k) ++ encs (lst (Vo.nums S.vs[k])) := by
 unfold Vst.P4; rw [cat_snoc _ _ _ h, ← List.append_assoc, encs_app]
theorem Vst.P6_step (S : Vst) {k : Nat} (h : k < S.cs.length) : encs (S.P6 (k + 1)) = encs (S.P6 k) ++ encs (lst (toN [S.cs[k].id, S.cs[k].vol, S.cs[k].ep])) ++ encs (lst (toN S.cs[k].me)) ++ encs (lst (toN S.cs[k].jo)) := by
 unfold Vst.P6; rw [cat_snoc _ _ _ h, ← List.append_assoc, encs_app]; have e : Ck.nums S.cs[k] = lst (toN [S.cs[k].id, S.cs[k].vol, S.cs[k].ep]) ++ lst (toN S.cs[k].me) ++ lst (toN S.cs[k].jo) := rfl; simp only [e, encs_app, List.append_assoc]
theorem VM.okC {w : World} {no : List Nat} {b m1 m2 m3 : Nat} {S : Vst} {V : List VoM} {C : List CkM} (h : VM w no b m1 m2 m3 S V C) : ∀ c ∈ S.cs, i64ok c.id := by
 rw [← h.eC]
 intro v hv
 obtain ⟨x, hx, rfl⟩ := List.mem_map.1 hv
 exact h.t3.ok x hx
theorem VM.rowC {w : World} {no : List Nat} {b m1 m2 m3 : Nat} {S : Vst} {V : List VoM} {C : List CkM} (h : VM w no b m1 m2 m3 S V C) {k : Nat} (hk : k < S.cs.length) : ∃ y : CkM, y.k = S.cs[k] ∧
  (∀ w', Below w.heap.size w w' → (Instr.lookup 74 (.map (some m3)) (.int .i64 S.cs[k].id) false).run Tryz.prog w' = .ok y.val w') ∧ Sl w no y.A y.c y.k.me ∧ Sl w no y.B y.d y.k.jo := by
 obtain ⟨y, _, lk, hy, hs⟩ := h.lookC (h.okC _ (List.getElem_mem hk)); have hf := fd_get h.riseC hk
 refine ⟨y, ?_, lk, hs⟩
 rcases hy with ⟨_, e⟩ | ⟨_, e, _⟩
 ·rw [hf] at e
  injection e with e
  exact e.symm
 ·rw [hf] at e
  cases e
theorem vbytes_calls (w : World) (no : List Nat) (b m1 m2 m3 : Nat) (S : Vst) (V : List VoM) (C : List CkM) (h : VM w no b m1 m2 m3 S V C) (hB : BytOk S) :
    Calls Tryz.prog 13 #[.pointer (some ⟨b, 0, none⟩)] w fun e w' => ∃ A c, e = .returned (.slice A S.bytes.length c) ∧ OwnB w w' A c S.bytes ∧ Below w.heap.size w w' := by
  obtain ⟨w1, hw1⟩ : ∃ w1, w.alloc (.cells #[.slice none 0 0] 78) = w1 := ⟨_, rfl⟩
  have hb1 : Below w.heap.size w w1 := hw1 ▸ (Below.refl _ _).alloc (Nat.le_refl _) _
  have hW : Wrote w1 w1 w.heap.size none [] := by rw [← hw1]; exact Wrote.refl (WR.new w)
  obtain ⟨wk, hwk⟩ : ∃ wk, w.heap.size = wk := ⟨_, rfl⟩; rw [hwk] at hW
  have hK : w.heap.size ≤ wk ∧ wk < w1.heap.size := by rw [← hw1, ← hwk]; simp
  have HVM := hide (fun w' (hb : Below w.heap.size w w') => h.below hb); have HB := hide hB; have HW1 := hd2 hw1 hwk; have HB1 := hd2 hb1 hK; have HN := hide (wnumW S.nx hW hB.nx (by simp)); have HLT := hide h.lt; clear h hB hb1 hW hK hw1 hwk; have c3 := (HVM.out w1 HB1.out.1).blk.cell 3; simp only [List.getElem?_cons_succ, List.getElem?_cons_zero] at c3
  go_enter Tryz.func13, Tryz.ntmps13
  go_upto_region 2 with fail
  rw [HW1.out.1, HW1.out.2]; go_wp2_with fail; refine HN.out.mono ?_; rintro e w2 ⟨rfl, hw2⟩; rw [List.nil_append] at hw2; have HW2 := hd2 hw2 (hw2.onto HB1.out.1 HB1.out.2.1); clear hw2 c3 HN; have c0 := (HVM.out w2 HW2.out.2).blk.cell 0; simp only [List.getElem?_cons_zero] at c0; have hlen := (HVM.out w2 HW2.out.2).t1.len Tryz.underlying72 3; have HN := hide (wnumW (S.sv.length : Int) HW2.out.1 (by have := HB.out.ls; omega) (by have := enc_len9 (n := S.nx.toNat) (by have := HB.out.nx; omega); omega)); go_wp2_with fail; refine HN.out.mono ?_; rintro e w3 ⟨rfl, hw3⟩
  have hw3 : Wrote w1 w3 wk none (encs (S.P2 0)) := by
    have e1 : encs (S.P2 0) = enc S.nx.toNat ++ enc (S.sv.length : Int).toNat := by simp [Vst.P2, Vst.P1, cat, encs]
    rw [e1]; exact hw3
  have HW3 := hd2 hw3 (hw3.onto HB1.out.1 HB1.out.2.1); have hsrv := hide (vservers_calls w3 no b m1 m2 m3 S V C (HVM.out w3 HW3.out.2) (by have := HB.out.ls; omega)); clear hw3 c0 hlen HN; go_wp2_with fail; refine hsrv.out.mono ?_; rintro e w4 ⟨A4, c4, rfl, ho4, hg4, hb4⟩; have HW4 := hd2 (HW3.out.1.below2 hb4) (HW3.out.2.trans (hb4.mono HW3.out.2.size))
  have hr4 : Reads w4 w4.heap.size 2 A4 S.sv.length (ldCells S.srv) := by
    obtain ⟨A2, c2, e2, h1, h2, h3, h4, h5⟩ := own_view ho4
    cases e2
    exact h5 _ (fun g hg => own_lt ho4 hg)
  have HR4 := hd2 hr4 (fun g (hg : A4.map Addr.block = some g) => hg4 g hg); have hb4w := hide (hb4); clear ho4 hg4 hb4 hr4 hsrv; obtain ⟨g4, hw4, hg4⟩ := HW3.out.1.base hb4w.out; have HG4 := hd2 hw4 hg4; clear hw4 hg4
  have hll : S.srv.length = S.sv.length := by unfold Vst.srv; rw [List.length_map]
  have HLL := hide hll; clear hll; go_wp2_with fail
  go_loopw [5, 26, 27, 28, 29, 30, 31, 32, 33, 34, 35, 36] (fun _ ix _ _ _ _ _ _ _ _ _ _ wr => ∃ k : Nat, k ≤ S.sv.length ∧ ix = .int .i64 k ∧ Wrote w4 wr wk g4 (encs (S.P2 k))) (fun _ ix _ _ _ _ _ _ _ _ _ _ _ => S.sv.length - (intOf ix).toNat)
  case atStart => exact ⟨0, by omega, rfl, Wrote.refl HG4.out.1⟩
  case round =>
    obtain ⟨k, hk, rfl, hwr⟩ := hrel; have HWT := hide hwr; clear hwr
    by_cases hlt : k < S.sv.length
    · obtain ⟨bA, oA, eA, hbA, hcell⟩ := HR4.out.1.2 (by omega)
      have hgA : w3.heap.size ≤ bA := HR4.out.2 bA (by rw [eA]; rfl)
      have hnA : bA ∉ wk :: g4.toList := by
        intro hx
        rcases List.mem_cons.1 hx with e | hx
        · have := HW3.out.1.lt; omega
        · have := (HG4.out.2.1 bA (by simpa using hx)).2; omega
      obtain ⟨g5, hw5, hch5, hor5⟩ := HWT.out
      have hLk : S.srv[k]'(by rw [HLL.out]; exact hlt) = ⟨S.sv[k].1, S.sv[k].2⟩ := by simp [Vst.srv]
      have g0 := (hch5.cell (p := ⟨bA, oA + k * 2, none⟩) hbA hnA).trans (hcell (k * 2) (.int .i64 S.sv[k].1) (by
        have := ldCells_get S.srv k 0 (by rw [HLL.out]; exact hlt) (by omega); rw [hLk] at this
        exact this))
      have g1 := (hch5.cell (p := ⟨bA, oA + k * 2 + 1, none⟩) hbA hnA).trans (hcell (k * 2 + 1) (.int .i64 S.sv[k].2) (by
        have := ldCells_get S.srv k 1 (by rw [HLL.out]; exact hlt) (by omega); rw [hLk] at this
        exact this))
      have i1 : (k : Int) < S.sv.length := by omega
      have hst := S.P2_step hlt; have hx := HB.out.sv _ (List.getElem_mem hlt); have hln := Nat.le_trans (S.P2_pre k) HB.out.len; obtain ⟨⟨s, q⟩, hs⟩ : ∃ s, S.sv[k] = s := ⟨_, rfl⟩; simp only [hs] at g0 g1 hst hx; subst eA; have HST := hide hst; have HX := hide hx; have HLN := hide hln; have q0 := Below.refl wr.heap.size wr
      have d1 : Blk ((wr.alloc (.cells #[.int .i64 s, .int .i64 q] 83)).alloc (.cells #[.int .i64 s, .int .i64 q] 3)) (wr.heap.size + 1) 3 ([s, q].map (Value.int .i64)) := by
        have := Blk.new (w := wr.alloc (.cells #[.int .i64 s, .int .i64 q] 83)) (cs := [.int .i64 s, .int .i64 q]) (t := 3) rfl
        simpa using this
      have hsz5 := hch5.size; have hls := HB.out.ls
      have HC := hide (vnumsG HWT.out ((q0.alloc (Nat.le_refl _) (.cells #[.int .i64 s, .int .i64 q] 83)).alloc (by simp) (.cells #[.int .i64 s, .int .i64 q] 3)) (by have := HLN.out; omega) ((d1.sl (no := []) (n := 2) rfl (by omega) (by simp)).rd) (by simp) (by simp) (fun a ha => by
        cases ha
        refine ⟨rfl, fun hx => ?_, Or.inr (by simp), by simp⟩
        rcases List.mem_cons.1 hx with e | hx
        · have e' : wr.heap.size + 1 = wk := e
          have := hw5.lt; omega
        · have := (HG4.out.2.1 _ (by simpa using hx)).2
          have := HW4.out.1.size
          omega) (by simpa using HX.out) (L := encs (S.P2 k)) (A := some ⟨wr.heap.size + 1, 0, none⟩) (c := 2) (l := [s, q]))
      clear hcell hs hst hx hln hLk d1 hw5 hch5 hor5; go_wp2_with fail; refine HC.out.mono ?_; rintro e w5 ⟨rfl, hw5⟩; rw [← HST.out] at hw5; have HW5 := hide hw5; clear hw5 g0 g1 HC; go_wp2
      go_roundw
      case rel => exact ⟨k + 1, by omega, by go_num, HW5.out⟩
      case measure => simp [intOf]; omega
    · have e : k = S.sv.length := by omega
      subst e; have hwr := HG4.out.2.2 _ _ HWT.out; have hbr := hwr.onto HB1.out.1 HB1.out.2.1; have HWR := hd2 hwr hbr; clear HWT hwr hbr HG4 HR4 HLL HW3 HW4 hb4w hw3 hk hlt; have c1 := (HVM.out wr HWR.out.2).blk.cell 1; simp only [List.getElem?_cons_succ, List.getElem?_cons_zero] at c1; have hlen := (HVM.out wr HWR.out.2).t2.len Tryz.underlying73 3; rw [(HVM.out wr HWR.out.2).lenV] at hlen; have HN := hide (wnumW (S.vs.length : Int) HWR.out.1 (by have := HB.out.lv; omega) (by have := Nat.le_trans (S.P2_pre S.sv.length) HB.out.len; omega)); go_wp2_with fail; refine HN.out.mono ?_; rintro e w6 ⟨rfl, hw6⟩
      have hw6 : Wrote w1 w6 wk none (encs (S.P4 0)) := by
        have e1 : encs (S.P4 0) = encs (S.P2 S.sv.length) ++ enc (S.vs.length : Int).toNat := by simp [Vst.P4, Vst.P3, Vst.P2, cat, encs, encs_app]
        rw [e1]; exact hw6
      have HW6 := hd2 hw6 (hw6.onto HB1.out.1 HB1.out.2.1); have hvol := hide (volumes_calls w6 no b m1 m2 m3 S V C (HVM.out w6 HW6.out.2) (by have := HB.out.lv; omega)); clear hw6 c1 hlen HN HWR; go_wp2_with fail; refine hvol.out.mono ?_; rintro e w7 ⟨A7, c7, rfl, ho7, hb7⟩; obtain ⟨g7, hw7, hg7⟩ := HW6.out.1.base hb7; have HW7 := hd2 hb7 (HW6.out.2.trans (hb7.mono HW6.out.2.size)); have HG7 := hd2 hw7 hg7; have HO7 := hide ho7.made; clear hw7 hg7 ho7 hb7 hvol; go_wp2_with fail
      go_loopw [7, 8, 46, 47, 48, 49, 50, 51, 52, 53, 54, 55, 56, 57, 58, 59, 60, 61, 62, 63, 64, 65, 66, 67, 68, 69, 70, 71] (fun _ _ ix _ _ _ _ _ _ _ _ _ _ _ _ _ _ _ _ _ _ _ _ _ _ _ _ _ wr => ∃ k : Nat, k ≤ S.vs.length ∧ ix = .int .i64 k ∧ Wrote w7 wr wk g7 (encs (S.P4 k))) (fun _ _ ix _ _ _ _ _ _ _ _ _ _ _ _ _ _ _ _ _ _ _ _ _ _ _ _ _ _ => S.vs.length - (intOf ix).toNat)
      case atStart => exact ⟨0, by omega, rfl, Wrote.refl HG7.out.1⟩
      case round =>
        obtain ⟨k, hk, rfl, hwr⟩ := hrel; have HWT := hide hwr; clear hwr
        by_cases hlt : k < S.vs.length
        · obtain ⟨bA, oA, eA, hbA, hcell⟩ := HO7.out.rd.2 (by simp; omega)
          have hgA : w6.heap.size ≤ bA := (HO7.out.ap _ eA).2.1
          have hnA : bA ∉ wk :: g7.toList := by
            intro hx
            rcases List.mem_cons.1 hx with e | hx
            · have := HW6.out.1.lt; omega
            · have := (HG7.out.2.1 bA (by simpa using hx)).2; omega
          obtain ⟨g5, hw5, hch5, hor5⟩ := HWT.out; have hbr := HWT.out.ontoG HW7.out.2 HB1.out.2.1 (fun x hx => Nat.le_trans HB1.out.1.size (HG7.out.2.1 x hx).1); have g0 := (hch5.cell (p := ⟨bA, oA + k, none⟩) hbA hnA).trans (hcell k (.int .i64 S.vs[k].id) (by simp [hlt])); have c1 := (HVM.out wr hbr).blk.cell 1; simp only [List.getElem?_cons_succ, List.getElem?_cons_zero] at c1; obtain ⟨y, hyv, lk, hsl⟩ := (HVM.out w (Below.refl _ _)).row hlt; have l1 := lk wr hbr
          have i1 : (k : Int) < S.vs.length := by omega
          have hst := S.P4_step hlt; have hx := HB.out.vs _ (List.getElem_mem hlt); have hln := Nat.le_trans (S.P4_pre k) HB.out.len; obtain ⟨x, hs⟩ : ∃ x, S.vs[k] = x := ⟨_, rfl⟩; simp only [hs] at g0 l1 hyv hst hx; obtain ⟨⟨id, bl, ⟨pr, pw, pl, pb⟩, ver, ch⟩, A3, c3⟩ := y; simp only [] at hyv hsl; subst hyv; unfold VoM.val VoM.cells at l1; simp only [] at l1 g0 hx; subst eA; have hsz5 := hch5.size; have hls := HB.out.lv; have HST := hide hst
          have HX : Hid ((∀ x ∈ [id, bl, ver] ++ [pr, pw, pl, pb] ++ ch, x < 2 ^ 63) ∧ ch ≠ [] ∧ ch.length ≤ 1000) := hide ⟨by
            intro z hz
            simp only [List.cons_append, List.nil_append, List.mem_cons] at hz
            rcases hz with rfl | rfl | rfl | rfl | rfl | rfl | rfl | hz
            · exact hx.1.1
            · exact hx.1.2.1
            · exact hx.1.2.2.1
            · exact hx.1.2.2.2.1
            · exact hx.1.2.2.2.2.1
            · exact hx.1.2.2.2.2.2.1
            · exact hx.1.2.2.2.2.2.2
            · exact hx.2.2.2 z hz, hx.2.1, hx.2.2.1⟩
          have HC5 := hd3 hw5 hch5 hor5; have HLN := hide hln; have HBR := hide hbr; clear lk hcell hs hst hx hln hw5 hch5 hor5 hbr hgA hnA hbA; go_wp2_with fail; obtain ⟨w0, hw0⟩ : ∃ w0, wr.alloc (.cells #[.int .i64 id, .int .i64 bl, .int .i64 pr, .int .i64 pw, .int .i64 pl, .int .i64 pb, .int .i64 ver, .slice A3 ch.length c3] 46) = w0 := ⟨_, rfl⟩
          have d0 : Blk w0 wr.heap.size 46 [.int .i64 id, .int .i64 bl, .int .i64 pr, .int .i64 pw, .int .i64 pl, .int .i64 pb, .int .i64 ver, .slice A3 ch.length c3] := hw0 ▸ Blk.new rfl
          have hb0 : Below wr.heap.size wr w0 := hw0 ▸ (Below.refl _ _).alloc (Nat.le_refl _) _
          have hn0 : wr.heap.size ∉ wk :: g5.toList := by
            intro hx
            rcases List.mem_cons.1 hx with e | hx
            · have := HC5.out.1.lt; omega
            · have := HC5.out.1.glt _ (by simpa using hx); omega
          have x0 := d0.ruleC hn0 0 _ rfl; have x1 := d0.ruleC hn0 1 _ rfl; have x2 := d0.ruleC hn0 2 _ rfl; have x3 := d0.ruleC hn0 3 _ rfl; have x4 := d0.ruleC hn0 4 _ rfl; have x5 := d0.ruleC hn0 5 _ rfl; have x6 := d0.ruleC hn0 6 _ rfl; have x7 := d0.ruleC hn0 7 _ rfl; have HSL := hide (fun w' (hb : Below w0.heap.size w0 w') => Sl.no (hsl.below (HBR.out.trans (hb0.mono HBR.out.size) |>.trans (hb.mono (Nat.le_trans HBR.out.size hb0.size)))))
          have HNM := hide (fun (w' : World) (A : Option Addr) (c : Nat) (hb : Below w0.heap.size w0 w') (hR : Reads w' w'.heap.size 1 A ([id, bl, ver] ++ [pr, pw, pl, pb] ++ ch).length (([id, bl, ver] ++ [pr, pw, pl, pb] ++ ch).map (Value.int .i64))) (hle : ([id, bl, ver] ++ [pr, pw, pl, pb] ++ ch).length ≤ c) (hA : ∀ a, A = some a → a.spot = none ∧ w0.heap.size ≤ a.block ∧ a.block < w'.heap.size) =>
            vnumsH (l := [id, bl, ver] ++ [pr, pw, pl, pb] ++ ch) HC5.out.1 (hb0.trans (hb.mono hb0.size)) (by have := HLN.out; omega) hR (by have := HX.out.2.2; simp; omega) hle (fun a ha => ⟨(hA a ha).1, Nat.le_trans hb0.size (hA a ha).2.1, (hA a ha).2.2⟩) HX.out.1)
          have HB0 := hide hb0; have r0 := Below.refl w0.heap.size w0; have HW0 := hide hw0; rw [hw0]; clear hw0 d0 hb0 hn0 hsl
          refine region_lxf (fun w' => Chg (wk :: g5.toList) w0 w') [] 5 [(2,0),(0,1),(2,2),(0,3),(2,4),(0,5),(2,7),(0,8),(2,10),(0,11)] (bzA 15 3519) (by (first | exact Chg.of_below r0.drew | assumption | exact Chg.of_below (by assumption) | exact Chg.of_below (bal_ (by assumption) _) | exact Chg.of_below (bal_ r0 _).drew | exact Chg.of_below (bal_ (bal_ (by assumption) _) _))) (fun hS0 => ?_)
          (iterate 10 (first | refine lxt ?_ | refine lxp ?_))
          refine lxN (lxf2 6 9 (bzA 15 3583) (bzA 15 4031) ?_ ?_)
          focus
            refine lxa ?_
            go_simp
            refine lxB (by (first | exact Chg.of_below r0.drew | assumption | exact Chg.of_below (by assumption) | exact Chg.of_below (bal_ (by assumption) _) | exact Chg.of_below (bal_ r0 _).drew | exact Chg.of_below (bal_ (bal_ (by assumption) _) _))) (fun hS1 => ?_)
            refine lxm 0 [(1,9),(1,12),(1,13),(1,14)] (bzA 15 32767) ?_
            (refine lxe ?_; go_simp; (first
                            | (go_at_call 33; refine (nums_calls ⟨pr, pw, pl, pb⟩ _).mono ?_; rintro e w1n ⟨rfl, hr1, hb1⟩; have hb1' : Below w0.heap.size w0 w1n := (by first | exact ((r0.alloc (Nat.le_refl _) _).drew).trans (hb1.mono (by simp)) | exact r0.drew.trans hb1); (try rw [show (w0.alloc (.cells #[.int .i64 id, .int .i64 bl, .int .i64 ver] 3)).drew.heap.size = w0.heap.size + 1 from by simp] at hr1); have HR1n := hide hr1; have HB1n := hide hb1; clear hr1 hb1)
                            | (go_at_call 30; refine ((HNM.out _ _ _ hb2' (HO2.out.rd) (HO2.out.le) (fun a ha => ⟨(HO2.out.ap a ha).1, Nat.le_trans HZ2.out.2 (HO2.out.ap a ha).2.1, (HO2.out.ap a ha).2.2⟩))).mono ?_; rintro e w3n ⟨rfl, hw3n⟩; have HW3N := hide hw3n; have hc3 : Chg (wk :: g5.toList) w0 w3n := chg_wrote hb2' hw3n)
                            | (go_at_call 32; (first | (with_reducible refine (concat3_calls _ w1n.heap.size w0.heap.size (w0.heap.size + 1 + 1) A3 c3 [id, bl, ver] [pr, pw, pl, pb] ch rfl rfl HX.out.2.1 HX.out.2.2 ?_ ?_ ?_ ?_).mono ?_) | (with_reducible refine (concat3_calls _ (w1n.heap.size + 1) w1n.heap.size (w0.heap.size + 1) A3 c3 [id, bl, ver] [pr, pw, pl, pb] ch rfl rfl HX.out.2.1 HX.out.2.2 ?_ ?_ ?_ ?_).mono ?_)); (focus first | exact Blk.new rfl | exact Blk.new (by simp)); (focus first | exact Sl.below (Blk.sl ((Blk.drewC (Blk.new (cs := [.int .i64 id, .int .i64 bl, .int .i64 ver]) rfl)).below HB1n.out) rfl (by omega) (by simp)) ((Below.refl _ _).alloc (Nat.le_refl _) _) | exact Sl.below (Blk.sl (Blk.new (cs := [.int .i64 id, .int .i64 bl, .int .i64 ver]) rfl) rfl (by omega) (by simp)) ((Below.refl _ _).alloc (Nat.le_refl _) _)); (focus first | exact Sl.below (Sl.ofReads HR1n.out rfl (by omega) (by omega) (by simp)) ((Below.refl _ _).alloc (Nat.le_refl _) _) | exact Sl.below (Sl.below (Sl.ofReads HR1n.out rfl (by omega) (by omega) (by simp)) ((Below.refl _ _).alloc (Nat.le_refl _) _)) ((Below.refl _ _).alloc (Nat.le_refl _) _)); (focus (exact HSL.out _ (by first | exact bal_ hb1' _ | exact bal_ (bal_ hb1' _) _))); rintro e w2n ⟨A2, c2, rfl, ho2, hb2⟩; have hz2 := bal_t (by first | exact bal_ hb1' _ | exact bal_ (bal_ hb1' _) _) hb2; have hb2' := hz2.1; have HO2 := hide (ho2.made); have HZ2 := hide hz2; clear ho2 hb2 hz2)); refine lxB (by (first | exact Chg.of_below r0.drew | assumption | exact Chg.of_below (by assumption) | exact Chg.of_below (bal_ (by assumption) _) | exact Chg.of_below (bal_ r0 _).drew | exact Chg.of_below (bal_ (bal_ (by assumption) _) _))) (fun hS1 => ?_))
            (refine lxe ?_; go_simp; refine lxB (by (first | exact Chg.of_below r0.drew | assumption | exact Chg.of_below (by assumption) | exact Chg.of_below (bal_ (by assumption) _) | exact Chg.of_below (bal_ r0 _).drew | exact Chg.of_below (bal_ (bal_ (by assumption) _) _))) (fun hS1 => ?_))
            (refine lxe ?_; go_simp; (first
                            | (go_at_call 33; refine (nums_calls ⟨pr, pw, pl, pb⟩ _).mono ?_; rintro e w1n ⟨rfl, hr1, hb1⟩; have hb1' : Below w0.heap.size w0 w1n := (by first | exact ((r0.alloc (Nat.le_refl _) _).drew).trans (hb1.mono (by simp)) | exact r0.drew.trans hb1); (try rw [show (w0.alloc (.cells #[.int .i64 id, .int .i64 bl, .int .i64 ver] 3)).drew.heap.size = w0.heap.size + 1 from by simp] at hr1); have HR1n := hide hr1; have HB1n := hide hb1; clear hr1 hb1)
                            | (go_at_call 30; refine ((HNM.out _ _ _ hb2' (HO2.out.rd) (HO2.out.le) (fun a ha => ⟨(HO2.out.ap a ha).1, Nat.le_trans HZ2.out.2 (HO2.out.ap a ha).2.1, (HO2.out.ap a ha).2.2⟩))).mono ?_; rintro e w3n ⟨rfl, hw3n⟩; have HW3N := hide hw3n; have hc3 : Chg (wk :: g5.toList) w0 w3n := chg_wrote hb2' hw3n)
                            | (go_at_call 32; (first | (with_reducible refine (concat3_calls _ w1n.heap.size w0.heap.size (w0.heap.size + 1 + 1) A3 c3 [id, bl, ver] [pr, pw, pl, pb] ch rfl rfl HX.out.2.1 HX.out.2.2 ?_ ?_ ?_ ?_).mono ?_) | (with_reducible refine (concat3_calls _ (w1n.heap.size + 1) w1n.heap.size (w0.heap.size + 1) A3 c3 [id, bl, ver] [pr, pw, pl, pb] ch rfl rfl HX.out.2.1 HX.out.2.2 ?_ ?_ ?_ ?_).mono ?_)); (focus first | exact Blk.new rfl | exact Blk.new (by simp)); (focus first | exact Sl.below (Blk.sl ((Blk.drewC (Blk.new (cs := [.int .i64 id, .int .i64 bl, .int .i64 ver]) rfl)).below HB1n.out) rfl (by omega) (by simp)) ((Below.refl _ _).alloc (Nat.le_refl _) _) | exact Sl.below (Blk.sl (Blk.new (cs := [.int .i64 id, .int .i64 bl, .int .i64 ver]) rfl) rfl (by omega) (by simp)) ((Below.refl _ _).alloc (Nat.le_refl _) _)); (focus first | exact Sl.below (Sl.ofReads HR1n.out rfl (by omega) (by omega) (by simp)) ((Below.refl _ _).alloc (Nat.le_refl _) _) | exact Sl.below (Sl.below (Sl.ofReads HR1n.out rfl (by omega) (by omega) (by simp)) ((Below.refl _ _).alloc (Nat.le_refl _) _)) ((Below.refl _ _).alloc (Nat.le_refl _) _)); (focus (exact HSL.out _ (by first | exact bal_ hb1' _ | exact bal_ (bal_ hb1' _) _))); rintro e w2n ⟨A2, c2, rfl, ho2, hb2⟩; have hz2 := bal_t (by first | exact bal_ hb1' _ | exact bal_ (bal_ hb1' _) _) hb2; have hb2' := hz2.1; have HO2 := hide (ho2.made); have HZ2 := hide hz2; clear ho2 hb2 hz2)); refine lxB (by (first | exact Chg.of_below r0.drew | assumption | exact Chg.of_below (by assumption) | exact Chg.of_below (bal_ (by assumption) _) | exact Chg.of_below (bal_ r0 _).drew | exact Chg.of_below (bal_ (bal_ (by assumption) _) _))) (fun hS1 => ?_))
            (refine lxe ?_; go_simp; (first
                            | (go_at_call 33; refine (nums_calls ⟨pr, pw, pl, pb⟩ _).mono ?_; rintro e w1n ⟨rfl, hr1, hb1⟩; have hb1' : Below w0.heap.size w0 w1n := (by first | exact ((r0.alloc (Nat.le_refl _) _).drew).trans (hb1.mono (by simp)) | exact r0.drew.trans hb1); (try rw [show (w0.alloc (.cells #[.int .i64 id, .int .i64 bl, .int .i64 ver] 3)).drew.heap.size = w0.heap.size + 1 from by simp] at hr1); have HR1n := hide hr1; have HB1n := hide hb1; clear hr1 hb1)
                            | (go_at_call 30; refine ((HNM.out _ _ _ hb2' (HO2.out.rd) (HO2.out.le) (fun a ha => ⟨(HO2.out.ap a ha).1, Nat.le_trans HZ2.out.2 (HO2.out.ap a ha).2.1, (HO2.out.ap a ha).2.2⟩))).mono ?_; rintro e w3n ⟨rfl, hw3n⟩; have HW3N := hide hw3n; have hc3 : Chg (wk :: g5.toList) w0 w3n := chg_wrote hb2' hw3n)
                            | (go_at_call 32; (first | (with_reducible refine (concat3_calls _ w1n.heap.size w0.heap.size (w0.heap.size + 1 + 1) A3 c3 [id, bl, ver] [pr, pw, pl, pb] ch rfl rfl HX.out.2.1 HX.out.2.2 ?_ ?_ ?_ ?_).mono ?_) | (with_reducible refine (concat3_calls _ (w1n.heap.size + 1) w1n.heap.size (w0.heap.size + 1) A3 c3 [id, bl, ver] [pr, pw, pl, pb] ch rfl rfl HX.out.2.1 HX.out.2.2 ?_ ?_ ?_ ?_).mono ?_)); (focus first | exact Blk.new rfl | exact Blk.new (by simp)); (focus first | exact Sl.below (Blk.sl ((Blk.drewC (Blk.new (cs := [.int .i64 id, .int .i64 bl, .int .i64 ver]) rfl)).below HB1n.out) rfl (by omega) (by simp)) ((Below.refl _ _).alloc (Nat.le_refl _) _) | exact Sl.below (Blk.sl (Blk.new (cs := [.int .i64 id, .int .i64 bl, .int .i64 ver]) rfl) rfl (by omega) (by simp)) ((Below.refl _ _).alloc (Nat.le_refl _) _)); (focus first | exact Sl.below (Sl.ofReads HR1n.out rfl (by omega) (by omega) (by simp)) ((Below.refl _ _).alloc (Nat.le_refl _) _) | exact Sl.below (Sl.below (Sl.ofReads HR1n.out rfl (by omega) (by omega) (by simp)) ((Below.refl _ _).alloc (Nat.le_refl _) _)) ((Below.refl _ _).alloc (Nat.le_refl _) _)); (focus (exact HSL.out _ (by first | exact bal_ hb1' _ | exact bal_ (bal_ hb1' _) _))); rintro e w2n ⟨A2, c2, rfl, ho2, hb2⟩; have hz2 := bal_t (by first | exact bal_ hb1' _ | exact bal_ (bal_ hb1' _) _) hb2; have hb2' := hz2.1; have HO2 := hide (ho2.made); have HZ2 := hide hz2; clear ho2 hb2 hz2)); refine lxB (by (first | exact Chg.of_below r0.drew | assumption | exact Chg.of_below (by assumption) | exact Chg.of_below (bal_ (by assumption) _) | exact Chg.of_below (bal_ r0 _).drew | exact Chg.of_below (bal_ (bal_ (by assumption) _) _))) (fun hS1 => ?_))
            refine lxN (lxd ?_)
          rotate_left
          focus
            refine lxa ?_
            go_simp
            (first
                            | (go_at_call 33; refine (nums_calls ⟨pr, pw, pl, pb⟩ _).mono ?_; rintro e w1n ⟨rfl, hr1, hb1⟩; have hb1' : Below w0.heap.size w0 w1n := (by first | exact ((r0.alloc (Nat.le_refl _) _).drew).trans (hb1.mono (by simp)) | exact r0.drew.trans hb1); (try rw [show (w0.alloc (.cells #[.int .i64 id, .int .i64 bl, .int .i64 ver] 3)).drew.heap.size = w0.heap.size + 1 from by simp] at hr1); have HR1n := hide hr1; have HB1n := hide hb1; clear hr1 hb1)
                            | (go_at_call 30; refine ((HNM.out _ _ _ hb2' (HO2.out.rd) (HO2.out.le) (fun a ha => ⟨(HO2.out.ap a ha).1, Nat.le_trans HZ2.out.2 (HO2.out.ap a ha).2.1, (HO2.out.ap a ha).2.2⟩))).mono ?_; rintro e w3n ⟨rfl, hw3n⟩; have HW3N := hide hw3n; have hc3 : Chg (wk :: g5.toList) w0 w3n := chg_wrote hb2' hw3n)
                            | (go_at_call 32; (first | (with_reducible refine (concat3_calls _ w1n.heap.size w0.heap.size (w0.heap.size + 1 + 1) A3 c3 [id, bl, ver] [pr, pw, pl, pb] ch rfl rfl HX.out.2.1 HX.out.2.2 ?_ ?_ ?_ ?_).mono ?_) | (with_reducible refine (concat3_calls _ (w1n.heap.size + 1) w1n.heap.size (w0.heap.size + 1) A3 c3 [id, bl, ver] [pr, pw, pl, pb] ch rfl rfl HX.out.2.1 HX.out.2.2 ?_ ?_ ?_ ?_).mono ?_)); (focus first | exact Blk.new rfl | exact Blk.new (by simp)); (focus first | exact Sl.below (Blk.sl ((Blk.drewC (Blk.new (cs := [.int .i64 id, .int .i64 bl, .int .i64 ver]) rfl)).below HB1n.out) rfl (by omega) (by simp)) ((Below.refl _ _).alloc (Nat.le_refl _) _) | exact Sl.below (Blk.sl (Blk.new (cs := [.int .i64 id, .int .i64 bl, .int .i64 ver]) rfl) rfl (by omega) (by simp)) ((Below.refl _ _).alloc (Nat.le_refl _) _)); (focus first | exact Sl.below (Sl.ofReads HR1n.out rfl (by omega) (by omega) (by simp)) ((Below.refl _ _).alloc (Nat.le_refl _) _) | exact Sl.below (Sl.below (Sl.ofReads HR1n.out rfl (by omega) (by omega) (by simp)) ((Below.refl _ _).alloc (Nat.le_refl _) _)) ((Below.refl _ _).alloc (Nat.le_refl _) _)); (focus (exact HSL.out _ (by first | exact bal_ hb1' _ | exact bal_ (bal_ hb1' _) _))); rintro e w2n ⟨A2, c2, rfl, ho2, hb2⟩; have hz2 := bal_t (by first | exact bal_ hb1' _ | exact bal_ (bal_ hb1' _) _) hb2; have hb2' := hz2.1; have HO2 := hide (ho2.made); have HZ2 := hide hz2; clear ho2 hb2 hz2))
            refine lxB (by (first | exact Chg.of_below r0.drew | assumption | exact Chg.of_below (by assumption) | exact Chg.of_below (bal_ (by assumption) _) | exact Chg.of_below (bal_ r0 _).drew | exact Chg.of_below (bal_ (bal_ (by assumption) _) _))) (fun hS1 => ?_)
            refine lxm 0 [(1,6),(1,12),(1,13),(1,14)] (bzA 15 32767) ?_
            (iterate 2 ((refine lxe ?_; go_simp; refine lxB (by (first | exact Chg.of_below r0.drew | assumption | exact Chg.of_below (by assumption) | exact Chg.of_below (bal_ (by assumption) _) | exact Chg.of_below (bal_ r0 _).drew | exact Chg.of_below (bal_ (bal_ (by assumption) _) _))) (fun hS1 => ?_))))
            (refine lxe ?_; go_simp; (first
                            | (go_at_call 33; refine (nums_calls ⟨pr, pw, pl, pb⟩ _).mono ?_; rintro e w1n ⟨rfl, hr1, hb1⟩; have hb1' : Below w0.heap.size w0 w1n := (by first | exact ((r0.alloc (Nat.le_refl _) _).drew).trans (hb1.mono (by simp)) | exact r0.drew.trans hb1); (try rw [show (w0.alloc (.cells #[.int .i64 id, .int .i64 bl, .int .i64 ver] 3)).drew.heap.size = w0.heap.size + 1 from by simp] at hr1); have HR1n := hide hr1; have HB1n := hide hb1; clear hr1 hb1)
                            | (go_at_call 30; refine ((HNM.out _ _ _ hb2' (HO2.out.rd) (HO2.out.le) (fun a ha => ⟨(HO2.out.ap a ha).1, Nat.le_trans HZ2.out.2 (HO2.out.ap a ha).2.1, (HO2.out.ap a ha).2.2⟩))).mono ?_; rintro e w3n ⟨rfl, hw3n⟩; have HW3N := hide hw3n; have hc3 : Chg (wk :: g5.toList) w0 w3n := chg_wrote hb2' hw3n)
                            | (go_at_call 32; (first | (with_reducible refine (concat3_calls _ w1n.heap.size w0.heap.size (w0.heap.size + 1 + 1) A3 c3 [id, bl, ver] [pr, pw, pl, pb] ch rfl rfl HX.out.2.1 HX.out.2.2 ?_ ?_ ?_ ?_).mono ?_) | (with_reducible refine (concat3_calls _ (w1n.heap.size + 1) w1n.heap.size (w0.heap.size + 1) A3 c3 [id, bl, ver] [pr, pw, pl, pb] ch rfl rfl HX.out.2.1 HX.out.2.2 ?_ ?_ ?_ ?_).mono ?_)); (focus first | exact Blk.new rfl | exact Blk.new (by simp)); (focus first | exact Sl.below (Blk.sl ((Blk.drewC (Blk.new (cs := [.int .i64 id, .int .i64 bl, .int .i64 ver]) rfl)).below HB1n.out) rfl (by omega) (by simp)) ((Below.refl _ _).alloc (Nat.le_refl _) _) | exact Sl.below (Blk.sl (Blk.new (cs := [.int .i64 id, .int .i64 bl, .int .i64 ver]) rfl) rfl (by omega) (by simp)) ((Below.refl _ _).alloc (Nat.le_refl _) _)); (focus first | exact Sl.below (Sl.ofReads HR1n.out rfl (by omega) (by omega) (by simp)) ((Below.refl _ _).alloc (Nat.le_refl _) _) | exact Sl.below (Sl.below (Sl.ofReads HR1n.out rfl (by omega) (by omega) (by simp)) ((Below.refl _ _).alloc (Nat.le_refl _) _)) ((Below.refl _ _).alloc (Nat.le_refl _) _)); (focus (exact HSL.out _ (by first | exact bal_ hb1' _ | exact bal_ (bal_ hb1' _) _))); rintro e w2n ⟨A2, c2, rfl, ho2, hb2⟩; have hz2 := bal_t (by first | exact bal_ hb1' _ | exact bal_ (bal_ hb1' _) _) hb2; have hb2' := hz2.1; have HO2 := hide (ho2.made); have HZ2 := hide hz2; clear ho2 hb2 hz2)); refine lxB (by (first | exact Chg.of_below r0.drew | assumption | exact Chg.of_below (by assumption) | exact Chg.of_below (bal_ (by assumption) _) | exact Chg.of_below (bal_ r0 _).drew | exact Chg.of_below (bal_ (bal_ (by assumption) _) _))) (fun hS1 => ?_))
            (refine lxe ?_; go_simp; (first
                            | (go_at_call 33; refine (nums_calls ⟨pr, pw, pl, pb⟩ _).mono ?_; rintro e w1n ⟨rfl, hr1, hb1⟩; have hb1' : Below w0.heap.size w0 w1n := (by first | exact ((r0.alloc (Nat.le_refl _) _).drew).trans (hb1.mono (by simp)) | exact r0.drew.trans hb1); (try rw [show (w0.alloc (.cells #[.int .i64 id, .int .i64 bl, .int .i64 ver] 3)).drew.heap.size = w0.heap.size + 1 from by simp] at hr1); have HR1n := hide hr1; have HB1n := hide hb1; clear hr1 hb1)
                            | (go_at_call 30; refine ((HNM.out _ _ _ hb2' (HO2.out.rd) (HO2.out.le) (fun a ha => ⟨(HO2.out.ap a ha).1, Nat.le_trans HZ2.out.2 (HO2.out.ap a ha).2.1, (HO2.out.ap a ha).2.2⟩))).mono ?_; rintro e w3n ⟨rfl, hw3n⟩; have HW3N := hide hw3n; have hc3 : Chg (wk :: g5.toList) w0 w3n := chg_wrote hb2' hw3n)
                            | (go_at_call 32; (first | (with_reducible refine (concat3_calls _ w1n.heap.size w0.heap.size (w0.heap.size + 1 + 1) A3 c3 [id, bl, ver] [pr, pw, pl, pb] ch rfl rfl HX.out.2.1 HX.out.2.2 ?_ ?_ ?_ ?_).mono ?_) | (with_reducible refine (concat3_calls _ (w1n.heap.size + 1) w1n.heap.size (w0.heap.size + 1) A3 c3 [id, bl, ver] [pr, pw, pl, pb] ch rfl rfl HX.out.2.1 HX.out.2.2 ?_ ?_ ?_ ?_).mono ?_)); (focus first | exact Blk.new rfl | exact Blk.new (by simp)); (focus first | exact Sl.below (Blk.sl ((Blk.drewC (Blk.new (cs := [.int .i64 id, .int .i64 bl, .int .i64 ver]) rfl)).below HB1n.out) rfl (by omega) (by simp)) ((Below.refl _ _).alloc (Nat.le_refl _) _) | exact Sl.below (Blk.sl (Blk.new (cs := [.int .i64 id, .int .i64 bl, .int .i64 ver]) rfl) rfl (by omega) (by simp)) ((Below.refl _ _).alloc (Nat.le_refl _) _)); (focus first | exact Sl.below (Sl.ofReads HR1n.out rfl (by omega) (by omega) (by simp)) ((Below.refl _ _).alloc (Nat.le_refl _) _) | exact Sl.below (Sl.below (Sl.ofReads HR1n.out rfl (by omega) (by omega) (by simp)) ((Below.refl _ _).alloc (Nat.le_refl _) _)) ((Below.refl _ _).alloc (Nat.le_refl _) _)); (focus (exact HSL.out _ (by first | exact bal_ hb1' _ | exact bal_ (bal_ hb1' _) _))); rintro e w2n ⟨A2, c2, rfl, ho2, hb2⟩; have hz2 := bal_t (by first | exact bal_ hb1' _ | exact bal_ (bal_ hb1' _) _) hb2; have hb2' := hz2.1; have HO2 := hide (ho2.made); have HZ2 := hide hz2; clear ho2 hb2 hz2)); refine lxB (by (first | exact Chg.of_below r0.drew | assumption | exact Chg.of_below (by assumption) | exact Chg.of_below (bal_ (by assumption) _) | exact Chg.of_below (bal_ r0 _).drew | exact Chg.of_below (bal_ (bal_ (by assumption) _) _))) (fun hS1 => ?_))
            refine lxN (lxd ?_)
          rotate_left
          all_goals
            have HW8 : Hid (Wrote w7 w3n wk g7 (encs (S.P4 (k + 1)))) := hide (by
              have e1 : encs (S.P4 (k + 1)) = encs (S.P4 k) ++ encs (lst (toN ([id, bl, ver] ++ [pr, pw, pl, pb] ++ ch))) := HST.out.trans (by simp [Vo.nums, toN]); rw [e1]
              exact Wrote.step HC5.out.2.1 HC5.out.2.2 (HW3N.out.ofChg (HB0.out.trans (hb2'.mono HB0.out.size))))
            clear x0 x1 x2 x3 x4 x5 x6 x7 hb1' hb2' hc3 hS0 hS1 HO2 HZ2 HR1n HB1n HW3N; go_wp2
            go_roundw
            case rel => exact ⟨k + 1, by omega, by go_num, HW8.out⟩
            case measure => simp [intOf]; omega
        · have e : k = S.vs.length := by omega
          subst e; have hwr := HG7.out.2.2 _ _ HWT.out; have hbr := hwr.onto HB1.out.1 HB1.out.2.1; have HWR := hd2 hwr hbr; clear HWT hwr hbr HG7 HO7 HW6 HW7 hk hlt; have c2 := (HVM.out wr HWR.out.2).blk.cell 2; simp only [List.getElem?_cons_succ, List.getElem?_cons_zero] at c2; have hlen := (HVM.out wr HWR.out.2).t3.len Tryz.underlying74 3; rw [(HVM.out wr HWR.out.2).lenC] at hlen; have HN := hide (wnumW (S.cs.length : Int) HWR.out.1 (by have := HB.out.lc; omega) (by have := Nat.le_trans (S.P4_pre S.vs.length) HB.out.len; omega)); go_wp2_with fail; refine HN.out.mono ?_; rintro e w9 ⟨rfl, hw9⟩
          have hw9 : Wrote w1 w9 wk none (encs (S.P6 0)) := by
            have e1 : encs (S.P6 0) = encs (S.P4 S.vs.length) ++ enc (S.cs.length : Int).toNat := by simp [Vst.P6, Vst.P5, Vst.P4, cat, encs, encs_app]
            rw [e1]; exact hw9
          have HW9 := hd2 hw9 (hw9.onto HB1.out.1 HB1.out.2.1); have hchk := hide (chunks_calls w9 no b m1 m2 m3 S V C (HVM.out w9 HW9.out.2) (by have := HB.out.lc; omega)); clear hw9 c2 hlen HN HWR; go_wp2_with fail; refine hchk.out.mono ?_; rintro e wa ⟨Aa, ca, rfl, hoa, hba⟩; obtain ⟨ga, hwa, hga⟩ := HW9.out.1.base hba; have HWA := hd2 hba (HW9.out.2.trans (hba.mono HW9.out.2.size)); have HGA := hd2 hwa hga; have HOA := hide hoa.made; clear hwa hga hoa hba hchk; go_wp2_with fail
          go_loopw [10, 11, 81, 82, 83, 84, 85, 86, 87, 88, 89, 90, 91, 92, 93, 94, 95, 96, 97, 98, 99, 100, 101, 102, 103, 104, 105] (fun _ _ ix _ _ _ _ _ _ _ _ _ _ _ _ _ _ _ _ _ _ _ _ _ _ _ _ wr => ∃ k : Nat, k ≤ S.cs.length ∧ ix = .int .i64 k ∧ Wrote wa wr wk ga (encs (S.P6 k))) (fun _ _ ix _ _ _ _ _ _ _ _ _ _ _ _ _ _ _ _ _ _ _ _ _ _ _ _ _ => S.cs.length - (intOf ix).toNat)
          case atStart => exact ⟨0, by omega, rfl, Wrote.refl HGA.out.1⟩
          case round =>
            obtain ⟨k, hk, rfl, hwr⟩ := hrel; have HWT := hide hwr; clear hwr
            by_cases hlt : k < S.cs.length
            · obtain ⟨bA, oA, eA, hbA, hcell⟩ := HOA.out.rd.2 (by simp; omega)
              have hgA : w9.heap.size ≤ bA := (HOA.out.ap _ eA).2.1
              have hnA : bA ∉ wk :: ga.toList := by
                intro hx
                rcases List.mem_cons.1 hx with e | hx
                · have := HW9.out.1.lt; omega
                · have := (HGA.out.2.1 bA (by simpa using hx)).2; omega
              obtain ⟨g5, hw5, hch5, hor5⟩ := HWT.out; have hbr := HWT.out.ontoG HWA.out.2 HB1.out.2.1 (fun x hx => Nat.le_trans HB1.out.1.size (HGA.out.2.1 x hx).1); have g0 := (hch5.cell (p := ⟨bA, oA + k, none⟩) hbA hnA).trans (hcell k (.int .i64 S.cs[k].id) (by simp [hlt])); have c2 := (HVM.out wr hbr).blk.cell 2; simp only [List.getElem?_cons_succ, List.getElem?_cons_zero] at c2; obtain ⟨y, hyv, lk, hsA, hsB⟩ := (HVM.out w (Below.refl _ _)).rowC hlt; have l1 := lk wr hbr
              have i1 : (k : Int) < S.cs.length := by omega
              have hst := S.P6_step hlt; have hx := HB.out.cs _ (List.getElem_mem hlt); have hln := Nat.le_trans (S.P6_pre k) HB.out.len; have hln2 := Nat.le_trans (S.P6_pre (k + 1)) HB.out.len; obtain ⟨x, hs⟩ : ∃ x, S.cs[k] = x := ⟨_, rfl⟩; simp only [hs] at g0 l1 hyv hst hx; obtain ⟨⟨id, vol, ep, me, jo⟩, A3, c3, A4, c4⟩ := y; simp only [] at hyv hsA hsB; subst hyv; unfold CkM.val CkM.cells at l1; simp only [] at l1 g0 hx hst; subst eA; have hls := HB.out.lc; rw [hst] at hln2; simp only [List.length_append] at hln2; have HST := hide hst; have HX := hide hx; have HC5 := hd3 hw5 hch5 hor5; have HLN := hd2 hln hln2; have HBR := hide hbr; have HSA := hd2 hsA hsB; clear lk hcell hs hst hx hln hln2 hw5 hch5 hor5 hbr hgA hnA hbA hsA hsB; obtain ⟨wX, hwX⟩ : ∃ wX, (wr.alloc (.cells #[.int .i64 id, .int .i64 vol, .int .i64 ep, .slice A3 me.length c3, .slice A4 jo.length c4] 90)).alloc (.cells #[.int .i64 id, .int .i64 vol, .int .i64 ep] 3) = wX := ⟨_, rfl⟩
              have hbX : Below wr.heap.size wr wX := hwX ▸ ((Below.refl wr.heap.size wr).alloc (Nat.le_refl _) _).alloc (by simp) _
              have dX : Blk wX wr.heap.size 90 [.int .i64 id, .int .i64 vol, .int .i64 ep, .slice A3 me.length c3, .slice A4 jo.length c4] := hwX ▸ (Blk.new rfl).alloc _
              have eX : Blk wX (wr.heap.size + 1) 3 ([id, vol, ep].map (Value.int .i64)) := hwX ▸ Blk.new (by simp)
              have hn0 : wr.heap.size ∉ wk :: g5.toList := by
                intro hx
                rcases List.mem_cons.1 hx with e | hx
                · have := HC5.out.1.lt; omega
                · have := HC5.out.1.glt _ (by simpa using hx); omega
              have hg5 : ∀ x, g5 = some x → w.heap.size ≤ x := by
                intro x hx
                have h1 := HB1.out.1.size
                rcases HC5.out.2.2 with e | ⟨y, e, hy⟩
                · have := (HGA.out.2.1 x (e ▸ hx)).1; omega
                · have := HWA.out.2.size
                  rw [e] at hx; cases hx; omega
              have HDX := hd4 hbX dX hn0 hg5
              have HC1 := hide (vnumsH (l := [id, vol, ep]) HC5.out.1 hbX (by have := HLN.out.1; omega) ((eX.sl (no := []) (n := 3) rfl (by omega) (by simp)).rd) (by simp) (Nat.le_refl _) (fun a ha => by
                cases ha
                exact ⟨rfl, by simp, eX.lt⟩) (by
                intro z hz
                simp only [List.mem_cons, List.not_mem_nil, or_false] at hz; have := HX.out.1
                rcases hz with rfl | rfl | rfl
                · exact this.1
                · exact this.2.1
                · exact this.2.2))
              have HWX := hide hwX; clear dX eX hn0 hg5 hbX hwX; go_wp2_with fail; rw [HWX.out]; refine HC1.out.mono ?_; rintro e wA ⟨rfl, hwA⟩; have hcA := chg_wrote (Below.refl _ _) hwA; have x3 := HDX.out.2.1.ruleC HDX.out.2.2.1 3 _ rfl wA hcA; have hbA := hwA.ontoG (HBR.out.trans (HDX.out.1.mono HBR.out.size)) HB1.out.2.1 HDX.out.2.2.2; have HWA1 := hide hwA
              have HC2 := hide (vnumsG (l := me) (A := A3) (c := c3) hwA (Below.refl _ _) (by have := HLN.out.2; simp only [List.length_append]; omega) (HSA.out.1.below hbA).rd HSA.out.1.ln HSA.out.1.le (fun a ha => by
                obtain ⟨k1, _, k3⟩ := HSA.out.1.ap a ha; have k4 := HBR.out.size; have k5 := HDX.out.1.size; have k6 := hbA.size
                refine ⟨k1, fun hx => ?_, Or.inl (by omega), by omega⟩
                rcases List.mem_cons.1 hx with e | hx
                · have := HB1.out.2.1; omega
                · have := HDX.out.2.2.2 _ (by simpa using hx); omega) HX.out.2.1)
              clear hwA hcA hbA HC1 g0 c2 l1; go_wp2_with fail; refine HC2.out.mono ?_; rintro e wB ⟨rfl, hwB⟩; have hcB := chg_wrote (Below.refl _ _) hwB; have x4 := HDX.out.2.1.ruleC HDX.out.2.2.1 4 _ rfl wB hcB; have hbB := hwB.ontoG (HBR.out.trans (HDX.out.1.mono HBR.out.size)) HB1.out.2.1 HDX.out.2.2.2
              have HC3 := hide (vnumsG (l := jo) (A := A4) (c := c4) hwB (Below.refl _ _) (by have := HLN.out.2; simp only [List.length_append]; omega) (HSA.out.2.below hbB).rd HSA.out.2.ln HSA.out.2.le (fun a ha => by
                obtain ⟨k1, _, k3⟩ := HSA.out.2.ap a ha; have k4 := HBR.out.size; have k5 := HDX.out.1.size; have k6 := hbB.size
                refine ⟨k1, fun hx => ?_, Or.inl (by omega), by omega⟩
                rcases List.mem_cons.1 hx with e | hx
                · have := HB1.out.2.1; omega
                · have := HDX.out.2.2.2 _ (by simpa using hx); omega) HX.out.2.2)
              clear hwB hcB hbB HC2 x3 HWA1; go_wp2_with fail; refine HC3.out.mono ?_; rintro e wC ⟨rfl, hwC⟩; rw [← HST.out] at hwC; have HW8 : Hid (Wrote wa wC wk ga (encs (S.P6 (k + 1)))) := hide (Wrote.step HC5.out.2.1 HC5.out.2.2 (hwC.ofChg HDX.out.1)); clear hwC HC3 x4; go_wp2
              go_roundw
              case rel => exact ⟨k + 1, by omega, by go_num, HW8.out⟩
              case measure => simp [intOf]; omega
            · have e : k = S.cs.length := by omega
              subst e; have hwr := HGA.out.2.2 _ _ HWT.out; have hbr := hwr.onto HB1.out.1 HB1.out.2.1; obtain ⟨g1, hw1, _, _⟩ := hwr
              have hes : encs (S.P6 S.cs.length) = S.bytes := by
                unfold Vst.P6 Vst.bytes; rw [List.take_length, S.ser_P5]
              rw [hes] at hw1; have HC := hide (wbytes_calls wr wk g1 _ hw1 (by have := HB.out.len; omega)); have HBR := hide hbr; clear hbr hw1 hes HWT HOA HGA hlt hk; go_wp2_with fail; refine HC.out.mono ?_; rintro e w3 ⟨A3, c3, rfl, ho3, hb3⟩; have HR3 := hd2 (ho3.back HBR.out.size) (HBR.out.trans (hb3.mono HBR.out.size)); clear ho3 hb3 HC; go_wp2; go_ret
              exact ⟨A3, c3, rfl, HR3.out.1, HR3.out.2⟩
end Go.Proofs.YtcahcjfgmdpdoaaGreat
