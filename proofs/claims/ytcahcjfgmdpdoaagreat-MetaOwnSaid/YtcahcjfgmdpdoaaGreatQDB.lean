/- One text of: Txt Crc Cro. -/
import Derived.Laws.BitsAllLaws
import Derived.Test.YtcahcjfgmdpdoaaGreatQDev
set_option maxHeartbeats 2000000
set_option maxRecDepth 100000
namespace Go.Proofs.YtcahcjfgmdpdoaaGreat
open Go.RowKit Go.Proofs
set_option linter.unusedVariables false
set_option linter.unusedSimpArgs false

theorem OwnB.chg {w w' w'' : World} {A : Option Addr} {c : Nat} {L : List Nat} {G : List Nat} (h : OwnB w w' A c L) (hc : Chg G w' w'') (hG : ∀ x ∈ G, x < w.heap.size) : OwnB w w'' A c L :=
 ⟨own_chg h.1 hc (fun g hg hx => by have := h.2 g (by rw [owS] at hg; exact hg); have := hG g hx; omega), h.2⟩
theorem WR.app {w w2 : World} {b : Nat} {g : Option Nat} {L T : List Nat} {A : Option Addr} {c : Nat} {v : Value} (k1 : Blk w b 78 [.slice A L.length c]) (k2 : w.ownsRow 0 5 1 (.slice A L.length c) L.length (bys L)) (k3 : A.map Addr.block = g) (k4 : g ≠ some b) (hL : 0 < L.length)
  (ho : w2.ownsRow 0 5 1 v (L.length + T.length) (bys L ++ bys T)) (hc : Chg (Value.slice A L.length c).ownBlock.toList w w2) (hg : ∀ x, v.ownBlock = some x → (Value.slice A L.length c).ownBlock = some x ∨ x = w.heap.size) :
  Blk w2 b 78 [.slice A L.length c] ∧ Wrote w (w2.setCell ⟨b, 0, none⟩ v) b g (L ++ T) := by
 rw [owS] at hc hg; have hlt := k1.lt
 have hbn : b ∉ (A.map Addr.block).toList := fun h => by
  rw [k3] at h
  exact k4 (by simpa using h)
 have hB := k1.chg hc hbn; obtain ⟨A2, c2, rfl, hle, hml, hown, hnone, hrd⟩ := own_view ho
 have hgb : A2.map Addr.block ≠ some b := fun e => by
  rcases hg b (by rw [owS]; exact e) with h | h
  ·rw [k3] at h; exact k4 h
  ·omega
 refine ⟨hB, A2.map Addr.block, ⟨A2, c2, ?_, ?_, rfl, hgb⟩, ?_, ?_⟩
 ·rw [List.length_append]
  simpa using hB.set 0 (.slice A2 (L.length + T.length) c2)
 ·have h1 := own_chg (L := [b]) ho ((Chg.refl [b] w2).setCell (p := ⟨b, 0, none⟩) (Or.inl (by simp)) (.slice A2 (L.length + T.length) c2)) (fun x hx => by
   rw [owS] at hx
   simpa using fun e => hgb (by rw [hx, e]))
  rw [bys_app, List.length_append]
  exact h1
 ·have h0 : Chg (b :: g.toList) w w2 := hc.mono (fun x hx => Or.inl (by rw [k3] at hx; simp [hx]))
  exact h0.setCell (Or.inl (by simp)) _
 ·cases hA : A2.map Addr.block with
  |none =>
   exfalso
   rcases ho.2 with ⟨h6, _⟩ | ⟨g2, cap, cur, e2, _⟩
   ·injection h6 with q1 q2 q3
    omega
   ·cases e2; cases hA
  |some x =>
   rcases hg x (by rw [owS, hA]) with h | h
   ·exact Or.inl (by rw [← k3, h])
   ·exact Or.inr ⟨x, rfl, by omega⟩
theorem wtextZ_calls (w : World) (b : Nat) (g : Option Nat) (L : List Nat) (h : WR w b g L) {A : Option Addr} {c : Nat} {T : List Nat} (hT : T = [] ∨ Rb w (b :: g.toList) A c T) (hl : L.length ≤ 500000) (hTl : T.length ≤ 400000) :
  Calls Tryz.prog 131 #[.pointer (some ⟨b, 0, none⟩), .slice A T.length c] w fun e w' => e = .returned (.tuple #[]) ∧ Wrote w w' b g (L ++ encT T) := by
 obtain ⟨i0, hi0, hz0, hz1, hz2⟩ := info_parts Tryz.infoB; have HN := hide (wnum_calls w b g L T.length h (by omega) (by omega)); have HT := hide hT; have hle := enc_len9 (n := T.length) (by omega); have HLT : Hid (g.isNone → True) := hide (fun _ => trivial); have hglt := h.glt; have hblt := h.lt; clear h hT
 go_enter Tryz.func131, Tryz.ntmps131
 go_wp2_with fail; refine HN.out.mono ?_; rintro e w1 ⟨rfl, g1, h1, hc1, hg1⟩; rw [Int.toNat_natCast] at h1; obtain ⟨L1, hL1⟩ : ∃ L1, L ++ enc T.length = L1 := ⟨_, rfl⟩; rw [hL1] at h1
 have hl1 : L1.length ≤ 500009 ∧ 0 < L1.length := by have := enc_pos T.length; rw [← hL1, List.length_append]; omega
 obtain ⟨A1, c1, k1, k2, k3, k4⟩ := h1; have e0 : w1.cell? ⟨b, 0, none⟩ = some (.slice A1 L1.length c1) := k1.cell 0; have hT1 : Reads w1 w1.heap.size 1 A T.length (bys T) := HT.out.elim (fun e => by subst e; exact ⟨rfl, fun h => absurd h (Nat.lt_irrefl 0)⟩) (fun h => (h.chg hc1 (fun z hz => Or.inl hz)).rd); have HK := hd7 k1 k2 k3 k4 hc1 hg1 hL1; clear k1 k2 k3 k4 hc1 hg1 hL1 HN
 go_wp2_with (at_builtin; refine wpList_append_rd rfl _ _ 42 rfl 5 i0 _ 1 1 Tryz.underlying42 hi0 hz0 hz1 hz2 rfl (by decide) (.slice A1 L1.length c1) L1.length (bys L1) rfl HK.out.2.1 A T.length c w1.heap.size (bys T) rfl hT1 (bys_one _) (by unfold maxLen; omega) (by omega) ?_)
 intro v2 w2 ho hch hg2
 have hap := WR.app HK.out.1 HK.out.2.1 HK.out.2.2.1 HK.out.2.2.2.1 hl1.2 ho hch hg2; have f0 := hap.1.frozen 0; have e02 : w2.cell? ⟨b, 0, none⟩ = some (.slice A1 L1.length c1) := hap.1.cell 0; have HW := hide hap.2; obtain ⟨A2, c2, rfl, _, _, _, _, _⟩ := own_view ho; clear ho hch hg2 hap e0 hT1; go_wp2
 go_end0
 refine ⟨rfl, ?_⟩
 have h9 := Wrote.step HK.out.2.2.2.2.1 HK.out.2.2.2.2.2.1 HW.out; unfold encT; rw [← List.append_assoc, HK.out.2.2.2.2.2.2]
 exact h9
theorem wtext_calls (w : World) (b : Nat) (g : Option Nat) (L : List Nat) (h : WR w b g L) {A : Option Addr} {c : Nat} {T : List Nat} (hT : Rb w (b :: g.toList) A c T) (hl : L.length ≤ 500000) (hTl : T.length ≤ 400000) :
  Calls Tryz.prog 131 #[.pointer (some ⟨b, 0, none⟩), .slice A T.length c] w fun e w' => e = .returned (.tuple #[]) ∧ Wrote w w' b g (L ++ encT T) := wtextZ_calls w b g L h (Or.inr hT) hl hTl
theorem RD.cut {w : World} {b : Nat} {A : Option Addr} {c n : Nat} {l : List Nat} (h : RD w b A c ⟨l, 0⟩) (hn : n ≤ l.length) {A' : Option Addr} (hA : A' = if c = n then A else A.map (·.add n)) :
  RD (w.setCell ⟨b, 0, none⟩ (.slice A' (l.length - n) (c - n))) b A' (c - n) ⟨l.drop n, 0⟩ ∧ Chg [b] w (w.setCell ⟨b, 0, none⟩ (.slice A' (l.length - n) (c - n))) ∧ ∀ a, A' = some a → ∃ a0, A = some a0 ∧ a.block = a0.block := by
 have hc : Chg [b] w (w.setCell ⟨b, 0, none⟩ (.slice A' (l.length - n) (c - n))) := (Chg.refl _ _).setCell (p := ⟨b, 0, none⟩) (Or.inl (by simp)) _; have h2 := (show Rb w [b] A c l from h.rb).cut hn; rw [Nat.mul_one, ← hA] at h2
 refine ⟨⟨?_, h2.chg hc (fun x hx => Or.inl hx), fun x hx => h.ok x (List.mem_of_mem_drop hx)⟩, hc, fun a ha => ?_⟩
 ·have h3 := h.blk.set 0 (.slice A' (l.length - n) (c - n))
  simpa using h3
 ·rw [hA] at ha
  split at ha
  ·exact ⟨a, ha, rfl⟩
  ·cases A with
   |none => cases ha
   |some a0 => cases ha; exact ⟨a0, rfl, by simp [Addr.add]; split <;> rfl⟩
theorem rtext_callsB (w : World) (b : Nat) (no : List Nat) (r : Rdr) (most : Nat) (h : RO w b no r) (hl : r.b.length ≤ 140737488355328) (hm : most < 2 ^ 63) (hno : ∀ x ∈ no, x < w.heap.size) :
  Calls Tryz.prog 80 #[.pointer (some ⟨b, 0, none⟩), .int .i64 (most : Int)] w fun e w' => ∃ A c, e = .returned (.slice A (r.text most).1.length c) ∧ OwnB w w' A c (r.text most).1 ∧ RO w' b no (r.text most).2 ∧ Chg [b] w w' := by
 have HN := hide (rnum_callsB w b no r most h hl hm); have hlen := Rdr.num_len (r := r) most; obtain ⟨R, hR⟩ : ∃ R, r.text most = R := ⟨_, rfl⟩; rw [hR]; unfold Rdr.text at hR; obtain ⟨⟨n, ⟨l, e⟩⟩, hq⟩ : ∃ q, r.num most = q := ⟨_, rfl⟩; rw [hq] at HN hlen; simp only [hq] at hR; simp only [] at hlen; clear hq h
 go_enter Tryz.func80, Tryz.ntmps80
 go_wp2_with fail; refine HN.out.mono ?_; rintro e1 w1 ⟨rfl, h1, hc1⟩; obtain ⟨A, c, hd, hnA⟩ := h1; have y0 : w1.cell? ⟨b, 0, none⟩ = some (.slice A l.length c) := hd.blk.cell 0; have y1 : w1.cell? ⟨b, 1, none⟩ = some (.int .i64 (e : Int)) := hd.blk.cell 1
 by_cases he : e = 0
 ·subst he
  rw [if_neg (by simp)] at hR
  by_cases hs : l.length < n
  ·rw [if_pos hs] at hR
   subst hR; have HF := hide (fail_calls w1 b A c l 2 hd)
   have i1 : (l.length : Int) < n := by omega
   have HH := hd2 hc1 hnA; clear hd hc1 hs hnA; go_wp2_with fail; refine HF.out.mono ?_; rintro e2 w2 ⟨rfl, h2, hc2⟩; have HE := hd2 h2 hc2; clear h2 hc2 HF; go_wp2; go_ret
   exact ⟨none, 0, rfl, OwnB.nil _ _ _ _ rfl rfl, ⟨A, c, HE.out.1, HH.out.2⟩, HH.out.1.same HE.out.2⟩
  ·rw [if_neg hs] at hR
   obtain ⟨T, hT⟩ : ∃ T, l.take n = T := ⟨_, rfl⟩; rw [hT] at hR; subst hR
   have i1 : ¬ (l.length : Int) < n := by omega
   have hle : l.length ≤ c := hd.rb.le
   have i2 : (n : Int) ≤ c := by omega
   have i3 : (0 : Int) ≤ n := by omega
   have i4 : (n : Int) ≤ l.length := by omega
   have hn := (show Reads w1 w1.heap.size 1 A l.length (bys l) from hd.rb.rd).take (k := n) (by omega)
   have htl : T.length = n := by rw [← hT, List.length_take]; omega
   rw [show (bys l).take (n * 1) = bys T by rw [← hT]; simp [bys]] at hn; have HC := cloneB_calls A c T w1 (by omega) (by rw [htl]; exact hn); rw [htl] at HC; have HC := hide HC; have HD := hd5 hd hnA hc1 htl hs; clear hd hnA hc1 hn htl hs hT; go_wp2_with fail; refine HC.out.mono ?_; rintro e2 w2 ⟨A2, c2, rfl, ho2, hb2⟩; have hdz2 := HD.out.1.below hb2; have y0 : w2.cell? ⟨b, 0, none⟩ = some (.slice A l.length c) := hdz2.blk.cell 0; have f0 := hdz2.blk.frozen 0; have HD2 := hd3 hdz2 ho2 hb2; clear hdz2 ho2 hb2 HC
   by_cases hcn : c = n
   ·subst hcn
    have HC2 := HD2.out.1.cut (n := c) (by omega) (A' := A) (by rw [if_pos rfl])
    have hlc : l.length - c = 0 := by omega
    simp only [Nat.sub_self, hlc] at HC2; clear hlc; have HC2 := hide HC2; go_wp2; go_ret
    refine ⟨A2, c2, by rw [HD.out.2.2.2.1]; rfl, ((HD2.out.2.1.chg HC2.out.2.1 (by simpa using HD.out.1.blk.lt)).back (HD.out.2.2.1.size)), ⟨A, 0, HC2.out.1, HD.out.2.1⟩, ?_⟩
    exact (HD.out.2.2.1.trans (Chg.of_below (L := [b]) HD2.out.2.2) (fun z hz => Or.inl hz)).trans HC2.out.2.1 (fun z hz => Or.inl hz)
   ·have HC2 := hide (HD2.out.1.cut (n := n) (by omega) (A' := A.map (·.add n)) (by rw [if_neg hcn]))
    go_wp2; go_ret
    refine ⟨A2, c2, by rw [HD.out.2.2.2.1]; rfl, ((HD2.out.2.1.chg HC2.out.2.1 (by simpa using HD.out.1.blk.lt)).back (HD.out.2.2.1.size)), ⟨A.map (·.add n), c - n, HC2.out.1, fun a ha => ?_⟩, ?_⟩
    ·obtain ⟨a0, h1, h2⟩ := HC2.out.2.2 a ha
     rw [h2]
     exact HD.out.2.1 a0 h1
    ·exact (HD.out.2.2.1.trans (Chg.of_below (L := [b]) HD2.out.2.2) (fun z hz => Or.inl hz)).trans HC2.out.2.1 (fun z hz => Or.inl hz)
 ·rw [if_pos (by simpa using he)] at hR
  subst hR
  have i1 : ((e : Int) != 0) = true := by simp; omega
  have HH := hd2 hc1 (show RO w1 b no ⟨l, e⟩ from ⟨A, c, hd, hnA⟩); clear hd hnA hc1 he; go_wp2; go_ret
  exact ⟨none, 0, rfl, OwnB.nil _ _ _ _ rfl rfl, HH.out.2, HH.out.1⟩
theorem rtext_calls (w : World) (b : Nat) (no : List Nat) (r : Rdr) (most : Nat) (h : RO w b no r) (hl : r.b.length ≤ 1000000) (hm : most < 2 ^ 63) (hno : ∀ x ∈ no, x < w.heap.size) :
  Calls Tryz.prog 80 #[.pointer (some ⟨b, 0, none⟩), .int .i64 (most : Int)] w fun e w' => ∃ A c, e = .returned (.slice A (r.text most).1.length c) ∧ OwnB w w' A c (r.text most).1 ∧ RO w' b no (r.text most).2 ∧ Chg [b] w w' :=
 rtext_callsB w b no r most h (by omega) hm hno

def crcN : Nat → Nat → Nat
 |0, c => c
 |j + 1, c => crcB (crcN j c)
theorem crcB_lt {x : Nat} (h : x < 4294967296) : crcB x < 4294967296 := by
 unfold crcB
 split
 ·exact Nat.xor_lt_two_pow (n := 32) (by omega) (by omega)
 ·omega
theorem crcN_lt {c : Nat} (h : c < 4294967296) : ∀ j, crcN j c < 4294967296
 |0 => h
 |j + 1 => crcB_lt (crcN_lt h j)
theorem crcT_lt {c : Nat} (h : c < 256) : crcT c < 4294967296 := crcN_lt (c := c) (by omega) 8
theorem crcS_lt {x c : Nat} (h : x < 4294967296) (hc : c < 256) : crcS x c < 4294967296 := by
 unfold crcS
 exact Nat.xor_lt_two_pow (n := 32) (by omega) (crcT_lt (Nat.xor_lt_two_pow (n := 8) (by omega) (by omega)))
theorem crcL_lt : ∀ (l : List Nat) (x : Nat), x < 4294967296 → (∀ c ∈ l, c < 256) → crcL x l < 4294967296
 |[], x, h, _ => h
 |c :: t, x, h, hb => crcL_lt t _ (crcS_lt h (hb c (by simp))) (fun d hd => hb d (by simp [hd]))
def crcTab (k : Nat) : List Value := (List.range 256).map fun i => Value.int .u32 ((if i < k then crcT i else 0 : Nat) : Int)
theorem crcTab_set {k : Nat} (h : k < 256) : (crcTab k).set k (.int .u32 (crcT k : Nat)) = crcTab (k + 1) := by
 unfold crcTab
 apply List.ext_getElem (by simp)
 intro j h1 h2
 simp only [List.length_set, List.length_map, List.length_range] at h1; rw [List.getElem_set]; simp only [List.getElem_map, List.getElem_range]
 by_cases e : k = j
 ·subst e; simp
 ·rw [if_neg e]
  by_cases e2 : j < k
  ·rw [if_pos e2, if_pos (by omega)]
  ·rw [if_neg e2, if_neg (by omega)]
theorem crcTab_get {j : Nat} (h : j < 256) : (crcTab 256)[j]? = some (.int .u32 (crcT j : Nat)) := by
 unfold crcTab
 simp [h]
theorem crcTab_zero : (Tryz.zeroCells280) = (crcTab 0).toArray := by rfl
theorem crc_step {x : Nat} (h : x < 4294967296) : bits BinOp.xor IntKind.u32 ((x : Int) / 2) (bits BinOp.and IntKind.u32 (x : Int) 1 * 3988292384 % 4294967296) = ((crcB x : Nat) : Int) := by
 have e1 : bits BinOp.and IntKind.u32 (x : Int) 1 = ((x % 2 : Nat) : Int) := by
  have := Go.u32_and_nat x 1 h (by omega); rw [Nat.and_one_is_mod] at this
  exact this
 rw [e1]; unfold crcB
 by_cases hx : x % 2 = 1
 ·rw [if_pos hx, hx]
  have := Go.u32_xor_nat (x / 2) 3988292384 (by omega) (by omega); rw [show ((x / 2 : Nat) : Int) = (x : Int) / 2 by omega] at this
  exact this
 ·rw [if_neg hx, show x % 2 = 0 by omega]
  have := Go.u32_xor_nat (x / 2) 0 (by omega) (by omega); rw [Nat.xor_zero, show ((x / 2 : Nat) : Int) = (x : Int) / 2 by omega] at this; rw [show ((x / 2 : Nat) : Int) = (x : Int) / 2 by omega]
  exact this
theorem sums_calls (w : World) : Calls Tryz.prog 200 #[] w fun e w' => ∃ b, e = .returned (.pointer (some ⟨b, 0, none⟩)) ∧ Blk w' b 280 (crcTab 256) ∧ w.heap.size ≤ b ∧ Below w.heap.size w w' := by
 go_enter Tryz.func200, Tryz.ntmps200
 go_upto_region 2 with fail
 obtain ⟨tb, htb⟩ : ∃ tb, w.heap.size = tb := ⟨_, rfl⟩; obtain ⟨w1, hw1⟩ : ∃ w1, w.alloc (.cells Tryz.zeroCells280 280) = w1 := ⟨_, rfl⟩
 have hB1 : Blk w1 tb 280 (crcTab 0) := by rw [← hw1, ← htb, crcTab_zero]; exact Blk.new rfl
 have hb1 : Below w.heap.size w w1 := hw1 ▸ belowL (Below.refl _ _) _
 have HTB := hide htb; rw [hw1, htb]; have HB1 := hd2 hB1 hb1; clear hw1 htb hB1 hb1; go_wp2
 go_loopw [2, 3, 4, 5, 6, 7, 8, 9, 10, 11, 12, 13, 14, 15, 16, 17, 18, 19, 20, 21, 22, 23] (fun _ _ _ iv _ _ _ _ _ _ _ _ _ _ _ _ _ _ _ _ _ _ wr => ∃ k : Nat, k ≤ 256 ∧ iv = .int .i64 k ∧ Blk wr tb 280 (crcTab k) ∧ Below w.heap.size w wr) (fun _ _ _ iv _ _ _ _ _ _ _ _ _ _ _ _ _ _ _ _ _ _ _ => 256 - (Go.RowKit.intOf iv).toNat)
 case atStart => exact ⟨0, by omega, rfl, HB1.out⟩
 case round =>
  obtain ⟨k, hk, rfl, hB, hb⟩ := hrel
  by_cases hlt : k < 256
  ·have i1 : (k : Int) < 256 := by omega
   have HH := hd2 hB hb; clear hB hb
   have cw : IntKind.u32.wrap (k : Int) = (k : Int) := by unfold IntKind.wrap; rw [if_neg (by simp [IntKind.signed])]; show (k : Int) % 4294967296 = _; omega
   go_wp2
   go_loopw [3, 4, 10, 11, 12, 13, 14, 15, 16, 17, 18, 19] (fun xv _ jv _ _ _ _ _ _ _ _ _ wx => ∃ j : Nat, j ≤ 8 ∧ jv = .int .i64 j ∧ xv = .int .u32 ((crcN j k : Nat) : Int) ∧ wx = wr) (fun xv _ jv _ _ _ _ _ _ _ _ _ _ => 8 - (Go.RowKit.intOf jv).toNat)
   case atStart => exact ⟨0, by omega, rfl, rfl, rfl⟩
   case round =>
    obtain ⟨j, hj, rfl, rfl, rfl⟩ := hrel
    by_cases hj8 : j < 8
    ·have j1 : (j : Int) < 8 := by omega
     have hx : crcN j k < 4294967296 := crcN_lt (by omega) j; have e1 := crc_step hx; go_wp2
     go_roundw
     case rel => exact ⟨j + 1, by omega, by go_num, by first | rfl | (rw [← e1]; rfl) | exact congrArg _ e1, by trivial⟩
     case measure => simp [Go.RowKit.intOf]; omega
    ·have j1 : ¬ (j : Int) < 8 := by omega
     obtain rfl : j = 8 := by omega
     have hfz : wr.frozen? ⟨tb, k, none⟩ = false := HH.out.1.frozen k
     obtain ⟨v0, hv0⟩ : ∃ v, wr.cell? ⟨tb, k, none⟩ = some v := by
      have h3 := HH.out.1.cell k
      have h4 : k < (crcTab k).length := by simp [crcTab]; omega
      exact ⟨_, h3.trans (List.getElem?_eq_getElem h4)⟩
     go_wp2
     go_roundw
     case rel => exact ⟨k + 1, by omega, by go_num, by rw [← crcTab_set hlt]; exact HH.out.1.set k _, HH.out.2.setCell (p := ⟨tb, k, none⟩) (Nat.le_of_eq HTB.out) _⟩
     case measure => simp [Go.RowKit.intOf]; omega
  ·have i1 : ¬ (k : Int) < 256 := by omega
   obtain rfl : k = 256 := by omega
   go_wp2; go_ret
   exact ⟨tb, rfl, hB, Nat.le_of_eq HTB.out, hb⟩
theorem crc_not {x : Nat} (h : x < 4294967296) : bits BinOp.xor IntKind.u32 4294967295 (x : Int) = ((4294967295 - x : Nat) : Int) := by
 have h1 := Go.u32_xor_nat 4294967295 x (by omega) h
 have h2 : 4294967295 ^^^ x = 4294967295 - x := by
  have e := congrArg BitVec.toNat (BitVec.allOnes_xor (x := BitVec.ofNat 32 x)); rw [BitVec.toNat_xor, BitVec.toNat_not, BitVec.toNat_allOnes, BitVec.toNat_ofNat, Nat.mod_eq_of_lt h] at e
  exact e
 rw [h2] at h1
 exact h1
theorem crc_index {x c : Nat} (hc : c < 256) : bits BinOp.xor IntKind.u8 ((x : Int) % 256) (c : Int) = (((x % 256) ^^^ c : Nat) : Int) := by
 have := Go.u8_xor_nat (x % 256) c (by omega) hc; rw [show ((x % 256 : Nat) : Int) = (x : Int) % 256 by omega] at this
 exact this
theorem crc_xor {x c : Nat} (h : x < 4294967296) (hc : c < 256) : bits BinOp.xor IntKind.u32 ((x : Int) / 256) ((crcT ((x % 256) ^^^ c) : Nat) : Int) = ((crcS x c : Nat) : Int) := by
 have := Go.u32_xor_nat (x / 256) (crcT ((x % 256) ^^^ c)) (by omega) (crcT_lt (Nat.xor_lt_two_pow (n := 8) (by omega) (by omega))); rw [show ((x / 256 : Nat) : Int) = (x : Int) / 256 by omega] at this
 exact this
theorem crcL_snoc (x : Nat) (l : List Nat) (c : Nat) : crcL x (l ++ [c]) = crcS (crcL x l) c := by simp [crcL]
theorem crcL_take {x : Nat} {l : List Nat} {k : Nat} (h : k < l.length) : crcL x (l.take (k + 1)) = crcS (crcL x (l.take k)) l[k] := by
 rw [← crcL_snoc]; simp
theorem sum_calls (w : World) (sb : Nat) (A : Option Addr) (c : Nat) (L : List Nat) (hS : w.cell? ⟨sb, 0, none⟩ = some (.slice A L.length c)) (hs : sb < w.heap.size) (hr : Reads w w.heap.size 1 A L.length (bys L)) (hb : ∀ x ∈ L, x < 256) (hl : L.length ≤ 1000000) :
  Calls Tryz.prog 185 #[.slice (some ⟨sb, 0, none⟩) 1 1] w fun e w' => e = .returned (.int .u32 (crc L : Nat)) ∧ Below w.heap.size w w' := by
 go_enter Tryz.func185, Tryz.ntmps185
 go_wp2_with fail
 refine (sums_calls _).mono ?_
 rintro e w2 ⟨tb, rfl, hB, hlt, hb2⟩; have s0 : w2.cell? ⟨sb, 0, none⟩ = some (.slice A L.length c) := (hb2.cell (p := ⟨sb, 0, none⟩) hs).trans hS; have HH := hd4 hB hb2 hr hb; clear hB hlt hb2 hr hb hS; go_wp2
 go_loopw [4, 6, 8, 12, 14, 15, 16, 17, 18, 19, 20, 21, 22, 23, 24, 25, 26, 27, 28, 29, 30, 31, 32, 33, 34] (fun xv _ _ iv _ _ _ _ _ _ _ _ _ _ _ _ _ _ _ _ _ _ _ _ _ wx => ∃ i : Nat, i ≤ 1 ∧ iv = .int .i64 i ∧ xv = .int .u32 ((if i = 0 then 4294967295 else crcL 4294967295 L : Nat) : Int) ∧ wx = w2) (fun xv _ _ iv _ _ _ _ _ _ _ _ _ _ _ _ _ _ _ _ _ _ _ _ _ _ => 1 - (Go.RowKit.intOf iv).toNat)
 case atStart => exact ⟨0, by omega, rfl, rfl, rfl⟩
 case round =>
  obtain ⟨i, hi, rfl, rfl, rfl⟩ := hrel
  by_cases hi1 : i = 0
  ·subst hi1
   simp only [if_true]; go_wp2
   go_loopw [4, 8, 18, 19, 20, 21, 22, 23, 24, 25, 26, 27, 28, 29, 30, 31, 32, 33] (fun xv _ jv _ _ _ _ _ _ _ _ _ _ _ _ _ _ _ wx => ∃ j : Nat, j ≤ L.length ∧ jv = .int .i64 j ∧ xv = .int .u32 ((crcL 4294967295 (L.take j) : Nat) : Int) ∧ wx = wr) (fun xv _ jv _ _ _ _ _ _ _ _ _ _ _ _ _ _ _ _ => L.length - (Go.RowKit.intOf jv).toNat)
   case atStart => exact ⟨0, by omega, rfl, rfl, rfl⟩
   case round =>
    obtain ⟨j, hj, rfl, rfl, rfl⟩ := hrel
    by_cases hlt : j < L.length
    ·have j1 : (j : Int) < L.length := by omega
     obtain ⟨b, o, rfl, hbl, hc⟩ := HH.out.2.2.1.at_ (by omega); have g := (HH.out.2.1.cell (p := ⟨b, o + j, none⟩) hbl).trans (hc j _ (bys_get hlt)); have hx : crcL 4294967295 (L.take j) < 4294967296 := crcL_lt _ _ (by omega) (fun d hd => HH.out.2.2.2 d (List.mem_of_mem_take hd)); have hcb : L[j] < 256 := HH.out.2.2.2 _ (List.getElem_mem _); have e3 := crcL_take (x := 4294967295) hlt; obtain ⟨y, hy⟩ : ∃ y, L[j] = y := ⟨_, rfl⟩; obtain ⟨x, hxe⟩ : ∃ x, crcL 4294967295 (L.take j) = x := ⟨_, rfl⟩; rw [hy, hxe] at e3; rw [hy] at g hcb; rw [hxe] at hx ⊢; have e1 := crc_index (x := x) hcb; have e2 := crc_xor hx hcb; have hz : (x % 256) ^^^ y < 256 := Nat.xor_lt_two_pow (n := 8) (by omega) (by omega); obtain ⟨z, hze⟩ : ∃ z, (x % 256) ^^^ y = z := ⟨_, rfl⟩; rw [hze] at e1 e2 hz
     have gt : wr.cell? ⟨tb, z, none⟩ = some (.int .u32 (crcT z : Nat)) := by rw [HH.out.1.cell]; exact crcTab_get hz
     have z0 : (0 : Int) ≤ (z : Int) := by omega
     have z1 : (z : Int) < 256 := by omega
     have E3 := hide e3; clear hy hxe hze e3 hc hbl; go_wp2
     go_roundw
     case rel => exact ⟨j + 1, by omega, by go_num, by first | rfl | rw [E3.out] | rw [E3.out, ← e2], by trivial⟩
     case measure => simp [Go.RowKit.intOf]; omega
    ·have j1 : ¬ (j : Int) < L.length := by omega
     obtain rfl : j = L.length := by omega
     rw [List.take_length]; go_wp2
     go_roundw
     case rel => exact ⟨1, by omega, rfl, rfl, by trivial⟩
     case measure => simp [Go.RowKit.intOf]
  ·obtain rfl : i = 1 := by omega
   rw [if_neg hi1]; have hx : crcL 4294967295 L < 4294967296 := crcL_lt _ _ (by omega) HH.out.2.2.2; go_wp2; go_ret
   refine ⟨?_, HH.out.2.1⟩
   show Ending.returned (Value.int IntKind.u32 (bits BinOp.xor IntKind.u32 4294967295 _)) = _
   rw [crc_not hx]
   rfl
end Go.Proofs.YtcahcjfgmdpdoaaGreat

namespace Go.Proofs.YtcahcjfgmdpdoaaGreat
open Go.RowKit Go.Proofs Go.Maps
set_option linter.unusedVariables false
set_option linter.unusedSimpArgs false

theorem Reads.go {w w' : World} {size n : Nat} {A : Option Addr} {xs : List Value} (h : Reads w w.heap.size size A n xs) (hb : Below w.heap.size w w') : Reads w' w'.heap.size size A n xs := (h.below hb).more hb.size
theorem crc_lt {l : List Nat} (h : ∀ c ∈ l, c < 256) : crc l < 4294967296 := by unfold crc; omega
theorem crcTail_lt (x : Nat) : ∀ c ∈ crcTail x, c < 256 := by
 intro c hc
 simp only [crcTail, List.mem_cons, List.not_mem_nil, or_false] at hc
 omega
theorem seal_lt {l : List Nat} (h : ∀ c ∈ l, c < 256) : ∀ c ∈ seal_ l, c < 256 := by
 intro c hc
 rcases List.mem_append.1 hc with hc | hc
 ·exact h c hc
 ·exact crcTail_lt _ c hc
theorem seal_calls (w : World) (A : Option Addr) (c : Nat) (L : List Nat) (hr : Reads w w.heap.size 1 A L.length (bys L)) (hb : ∀ x ∈ L, x < 256) (hl : L.length ≤ 900000) :
  Calls Tryz.prog 171 #[.slice A L.length c] w fun e w' => ∃ A' c', e = .returned (.slice A' (seal_ L).length c') ∧ OwnB w w' A' c' (seal_ L) ∧ Below w.heap.size w w' := by
 obtain ⟨i0, hi0, hz0, hz1, hz2⟩ := info_parts Tryz.infoB; have hx := crc_lt hb; have e2 : (IntKind.u8.wrap (crc L : Nat)) = ((crc L % 256 : Nat) : Int) := u8w _; obtain ⟨x, hxe⟩ : ∃ x, crc L = x := ⟨_, rfl⟩
 have hsl : seal_ L = L ++ crcTail x := by unfold seal_; rw [hxe]
 rw [hsl]; rw [hxe] at hx e2
 go_enter Tryz.func171, Tryz.ntmps171
 obtain ⟨w1, hw1⟩ : ∃ w1, w.alloc (.cells #[.slice A L.length c] 42) = w1 := ⟨_, rfl⟩
 have hb1 : Below w.heap.size w w1 := hw1 ▸ belowL (Below.refl _ _) _
 have hS : w1.cell? ⟨w.heap.size, 0, none⟩ = some (.slice A L.length c) := by
  have h3 : Blk (w.alloc (.cells #[.slice A L.length c] 42)) w.heap.size 42 [.slice A L.length c] := Blk.new rfl; rw [← hw1]; exact h3.cell 0
 have hs : w.heap.size < w1.heap.size := by rw [← hw1]; simp
 have HSU := sum_calls w1 w.heap.size A c L hS hs (hr.go hb1) hb (by omega); rw [hxe] at HSU; have HSU := hide HSU; have HH := hd4 hw1 hb1 hr hl; clear hS hs hr hxe hsl; go_wp2_with fail; refine HSU.out.mono ?_; rintro e w2 ⟨rfl, hb2⟩; have hb02 : Below w.heap.size w w2 := belowA hb2 hb1; have HCL := hide (cloneB_calls A c L w2 (by omega) (HH.out.2.2.1.go hb02)); clear hb1 hb2 hw1; go_wp2_with fail; refine HCL.out.mono ?_; rintro e w3 ⟨A3, c3, rfl, ho3, hb3⟩; have HB3 := hide (belowA hb3 hb02); have HB2 := hide hb02.size; clear hb3 hb02 HCL
 have ht : [Value.int IntKind.u8 ((x : Int) % 256), Value.int IntKind.u8 ((x : Int) / 256 % 256), Value.int IntKind.u8 ((x : Int) / 65536 % 256), Value.int IntKind.u8 ((x : Int) / 16777216)] = bys (crcTail x) := by
  simp only [bys, crcTail, List.map_cons, List.map_nil, List.cons.injEq, Value.int.injEq, true_and, and_true]
  omega
 have HHT := hide ht; have HO3 := hide (show OwnB w w3 A3 c3 L from ho3.back HB2.out); clear ho3; clear ht
 go_wp2_with (at_builtin; refine wpList_append_lies _ rfl _ _ 42 rfl 0 5 i0 _ 1 1 Tryz.underlying42 hi0 hz0 hz1 hz2 rfl (by decide) (.slice A3 L.length c3) L.length (bys L) rfl (own_chg HO3.out.1 ((Chg.refl [] _).alloc _) (by simp)) ⟨w3.heap.size, 0, none⟩ 4 4 (bys (crcTail x)) rfl (by simp [bys, crcTail]) ?c0 ?c1 (by omega) ?c3 ?c4 (Nat.zero_le _) _ rfl ?_)
 case c0 =>
  intro j u hu
  rw [add_addr, Nat.zero_add]; rw [← HHT.out] at hu; have h3 : Blk (w3.alloc (.cells #[Value.int IntKind.u8 ((x : Int) % 256), Value.int IntKind.u8 ((x : Int) / 256 % 256), Value.int IntKind.u8 ((x : Int) / 65536 % 256), Value.int IntKind.u8 ((x : Int) / 16777216)] 5)) w3.heap.size 5 [Value.int IntKind.u8 ((x : Int) % 256), Value.int IntKind.u8 ((x : Int) / 256 % 256), Value.int IntKind.u8 ((x : Int) / 65536 % 256), Value.int IntKind.u8 ((x : Int) / 16777216)] := Blk.new rfl
  exact (h3.cell j).trans hu
 case c1 => exact bys_one _
 case c3 => unfold maxLen; omega
 case c4 => omega
 intro g2 cap2 w4 hown2 hgr2 hor2 hlt2
 have hch2 := Chg.of_grown hgr2; rw [owS] at hch2 hor2
 have HF : Hid (OwnB w w4 (some ⟨g2, 0, none⟩) cap2 (L ++ crcTail x) ∧ Below w.heap.size w w4) := by
  have hs3 := HB3.out.size
  refine hide ⟨⟨?_, fun g hg => ?_⟩, ?_⟩
  ·rw [bys_app, List.length_append]
   exact hown2
  ·cases hg
   rcases hor2 with h | h
   ·exact HO3.out.2 g2 h
   ·rw [h]; exact Nat.le_trans hs3 (Nat.le_succ _)
  ·refine Chg.onto (HB3.out.alloc hs3 _) (by simp; omega) hch2 (fun z hz => ?_)
   exact HO3.out.2 z (by simpa using hz)
 clear hown2 hgr2 hor2 hlt2 hch2; go_wp2; go_ret
 exact ⟨some ⟨g2, 0, none⟩, cap2, by simp [crcTail], HF.out⟩
theorem bys_take (L : List Nat) (k : Nat) : (bys L).take (k * 1) = bys (L.take k) := by simp [bys]
theorem copen_calls (w : World) (A : Option Addr) (c : Nat) (L : List Nat) (hr : Reads w w.heap.size 1 A L.length (bys L)) (hlc : L.length ≤ c) (hb : ∀ x ∈ L, x < 256) (hl : L.length ≤ 900000) :
  Calls Tryz.prog 151 #[.slice A L.length c] w fun e w' => ∃ A' c', e = .returned (.tuple #[.slice A' ((opened L).getD []).length c', .bool (opened L).isSome]) ∧ OwnB w w' A' c' ((opened L).getD []) ∧ Below w.heap.size w w' := by
 by_cases h4 : L.length < 4
 ·have ho : opened L = none := by unfold opened; rw [if_neg (by omega)]
  have i1 : (L.length : Int) - 4 < 0 := by omega
  have cw : IntKind.i64.wrap ((L.length : Int) - 4) = (L.length : Int) - 4 := IntWalk.i64_in _ (by omega); rw [ho]; clear ho h4
  go_enter Tryz.func151, Tryz.ntmps151
  go_wp2
  go_ret2
  exact ⟨none, 0, rfl, OwnB.nil _ _ _ _ rfl rfl, Below.refl _ _⟩
 ·obtain ⟨n, hn⟩ : ∃ n, L.length - 4 = n := ⟨_, rfl⟩
  obtain ⟨T, hT⟩ : ∃ T, L.take n = T := ⟨_, rfl⟩
  have hTl : T.length = n := by rw [← hT, List.length_take]; omega
  have cw : IntKind.i64.wrap ((L.length : Int) - 4) = (n : Int) := by rw [IntWalk.i64_in _ (by omega)]; omega
  have hTr : Reads w w.heap.size 1 A n (bys T) := by
   have h3 := hr.take (k := n) (by omega); rw [bys_take, hT] at h3
   exact h3
  have hTb : ∀ x ∈ T, x < 256 := fun x hx => hb x (List.mem_of_mem_take (hT ▸ hx))
  have HSE := seal_calls w A c T (by rw [hTl]; exact hTr) hTb (by omega); rw [hTl] at HSE; obtain ⟨S, hS⟩ : ∃ S, seal_ T = S := ⟨_, rfl⟩
  have hop : opened L = if S = L then some T else none := by
   unfold opened; rw [hn, hT, hS]
   by_cases e : S = L
   ·rw [if_pos e, if_pos ⟨by omega, e⟩]
   ·rw [if_neg e, if_neg (fun h => e h.2)]
  rw [hS] at HSE
  have hSl : S.length = n + 4 := by rw [← hS, seal_len, hTl]
  have HSE := hide HSE; have HR := hd4 hr hTr hTl hl
  have n1 : n ≤ c := by omega
  have hne : ¬ (n : Int) < 0 := by omega
  have n0 : (0 : Int) ≤ n := by omega
  have nc : (n : Int) ≤ c := by omega
  obtain ⟨R, hR⟩ : ∃ R, opened L = R := ⟨_, rfl⟩; rw [hR] at hop ⊢; have HSL := hd2 hSl hn; clear hn hT hTb hTr hr hS hSl h4 hR hTl
  go_enter Tryz.func151, Tryz.ntmps151
  go_wp2_with fail; refine HSE.out.mono ?_; rintro e w1 ⟨A1, c1, rfl, ho1, hb1⟩; have ho1' := ho1.rb (no := []) (by simp); have HEQ := hide (equalBytes_calls S L A1 A c1 c w1 ho1'.rd (HR.out.1.go hb1) (by have := HSL.out; have := HR.out; omega) (by have := HR.out; omega)); have HB1 := hide hb1; clear hb1 ho1 ho1' HSE; go_wp2_with fail; refine HEQ.out.mono ?_; rintro e w2 ⟨rfl, q, rfl⟩; have hb2 : Below w.heap.size w (w1.drewN q) := below_drewN HB1.out q
  by_cases e : S = L
  ·rw [if_pos e] at hop
   subst hop
   have hd : decide (S = L) = true := by simpa using e
   rw [hd]; have HCL := cloneB_calls A c T (w1.drewN q) (by have := HR.out; have := HSL.out; omega) (by rw [HR.out.2.2.1]; exact HR.out.2.1.go hb2); rw [HR.out.2.2.1] at HCL; have HCL := hide HCL; have HB2 := hide hb2; clear hb2 hd e; go_wp2_with fail; refine HCL.out.mono ?_; rintro e w3 ⟨A3, c3, rfl, ho3, hb3⟩; have HF := hd2 (show OwnB w w3 A3 c3 T from ho3.back HB2.out.size) (belowA hb3 HB2.out); clear ho3 hb3 HCL; go_wp2
   go_ret2
   exact ⟨A3, c3, by simp only [Option.getD_some, HR.out.2.2.1, Option.isSome_some]; rfl, HF.out⟩
  ·rw [if_neg e] at hop
   subst hop
   have hd : decide (S = L) = false := by simpa using e
   rw [hd]; have HB2 := hide hb2; clear hb2 hd e; go_wp2
   go_ret2
   exact ⟨none, 0, rfl, OwnB.nil _ _ _ _ rfl rfl, HB2.out⟩
end Go.Proofs.YtcahcjfgmdpdoaaGreat
