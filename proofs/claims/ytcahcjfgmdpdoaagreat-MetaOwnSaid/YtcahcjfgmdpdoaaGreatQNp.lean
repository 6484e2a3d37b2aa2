/- One text of: Np. -/
import Derived.Test.YtcahcjfgmdpdoaaGreatQND
set_option maxHeartbeats 4000000
set_option maxRecDepth 100000
namespace Go.Proofs.YtcahcjfgmdpdoaaGreat
open Go.RowKit Go.Proofs Go.Maps
set_option linter.unusedVariables false
set_option linter.unusedSimpArgs false

theorem kvChange_put {k : Nat} {b : List Nat} (l : KV) (hk : k ≤ 1099511627776) (hb : b.length ≤ 900) : kvChange l (enc k ++ enc 1 ++ encT b) = some (kvPut ⟨k, b⟩ l) := by
 unfold kvChange; rw [show enc k ++ enc 1 ++ encT b = enc k ++ (enc 1 ++ encT b) by rw [List.append_assoc], Rdr.num_enc _ (by omega) hk]; simp only []; rw [Rdr.num_enc _ (by omega) (Nat.le_refl 1)]; simp only []; rw [if_neg (by omega)]
 have h1 : (⟨encT b, 0⟩ : Rdr).text 900 = (b, ⟨[], 0⟩) := by
  unfold Rdr.text encT; simp only []; rw [Rdr.num_enc _ (by omega) hb]; simp only []; rw [if_neg (by simp), if_neg (by omega), List.take_of_length_le (Nat.le_refl _), List.drop_of_length_le (Nat.le_refl _)]
 rw [h1]
 simp [Rdr.fin]
theorem Vlt.turn_l (V : Vlt) (l : KV) : (V.turn l).2.l = V.l ∨ (V.turn l).2.l = l := by
 unfold Vlt.turn; simp only []
 split
 ·exact Or.inl rfl
 ·split
  ·exact Or.inl rfl
  ·exact Or.inr rfl
theorem Vlt.keep_l (V : Vlt) (b : List Nat) : (V.keep b).2.l = V.l ∨ (V.keep b).2.l = (kvChange V.l b).getD V.l := by
 unfold Vlt.keep
 split
 ·exact Or.inl rfl
 ·simp only []
  split
  ·exact Vlt.turn_l _ _
  ·split
   ·exact Or.inl rfl
   ·split
    ·exact Or.inl rfl
    ·exact Or.inr rfl
theorem Vlt.put_l {V : Vlt} (k : Nat) (b : List Nat) (hk : k ≤ 1099511627776) (hb : b.length ≤ 900) : (V.put (k : Int) b).2.l = V.l ∨ (V.put (k : Int) b).2.l = kvPut ⟨k, b⟩ V.l := by
 unfold Vlt.put; rw [if_neg (by omega), if_neg (by omega), Int.toNat_natCast]; have h := V.keep_l (enc k ++ enc 1 ++ encT b); rw [kvChange_put V.l hk hb, Option.getD_some] at h
 exact h
theorem kvGetI_nil (k : Int) : kvGetI [] k = none := by unfold kvGetI kvGet; split <;> rfl
theorem kvGetI_one {x : Kv} {k : Int} (h : (x.k : Int) ≠ k) : kvGetI [x] k = none := by
 unfold kvGetI kvGet
 split
 ·rfl
 ·rw [List.find?_cons_of_neg (by simp; omega)]
  rfl
section
variable {w w' : World} {nb v d g : Nat} {F : List Nat} {V : Vlt}
theorem nput0_calls {x0 : Value} {rest : List Value} (hB : Blk w nb 111 (x0 :: .pointer (some ⟨v, 0, none⟩) :: .bool false :: rest)) (hv : VltM w v d F V) (hnF : nb ∉ F) (hV : VltOk V g) (hg : g < 2 ^ 60) (k : Int) {A : Option Addr} {c : Nat} {b : List Nat} (hb : Bt w A c b) (hbb : ∀ x ∈ b, x < 256) (hbl : b.length ≤ 100000) :
  Calls Tryz.prog 85 #[.pointer (some ⟨nb, 0, none⟩), .int .i64 k, .slice A b.length c] w fun e w' => e = .returned (.bool ((V.put k b).1 == 0)) ∧ Blk w' nb 111 (x0 :: .pointer (some ⟨v, 0, none⟩) :: .bool ((V.put k b).1 != 0) :: rest) ∧ (∃ F', VltM w' v d F' (V.put k b).2 ∧ Chg (nb :: F) w w' ∧ (∀ x ∈ F', x ∈ F ∨ w.heap.size ≤ x) ∧ nb ∉ F') ∧ VltOk (V.put k b).2 (g + 1) := by
 have y2 : w.cell? ⟨nb, 2, none⟩ = some (.bool false) := hB.cell 2; have y1 : w.cell? ⟨nb, 1, none⟩ = some (.pointer (some ⟨v, 0, none⟩)) := hB.cell 1; have HPU := vlput_calls hv hV hg k hb hbb hbl; obtain ⟨⟨e1, V1⟩, hq⟩ : ∃ x, V.put k b = x := ⟨_, rfl⟩; rw [hq] at HPU ⊢; simp only [] at HPU ⊢; have HPU := hide HPU; have H := hd3 hB hnF hv; clear hB hv hnF hV hb hbb hq
 go_enter Tryz.func85, Tryz.ntmps85
 go_wp2_with fail
 with_reducible refine HPU.out.mono ?_
 rintro e w1 ⟨rfl, ⟨F1, hv1, hc1, hF1⟩, hok1⟩; have b1 := H.out.1.chg hc1 H.out.2.1; have y2' : w1.cell? ⟨nb, 2, none⟩ = some (.bool false) := b1.cell 2
 have hn1 : nb ∉ F1 := fun hx => (hF1 nb hx).elim H.out.2.1 (fun h => by have := H.out.1.lt; omega)
 have H1 := hd6 b1 hv1 (hc1.mono (L' := nb :: F) (fun z hz => Or.inl (List.mem_cons_of_mem _ hz))) hF1 hn1 hok1; clear b1 hv1 hc1 hF1 hok1 hn1 HPU y1 y2
 by_cases he : e1 = 0
 ·subst he
  go_wp2; go_ret
  exact ⟨rfl, H1.out.1, ⟨F1, H1.out.2.1, H1.out.2.2.1, H1.out.2.2.2.1, H1.out.2.2.2.2.1⟩, H1.out.2.2.2.2.2⟩
 ·have u1 : ((e1 : Int) != 0) = true := by simp; omega
  have u2 : (e1 == 0) = false := by simpa using he
  have u3 : (e1 != 0) = true := by simpa using he
  have q2 := H1.out.1.cell 2; have f2 := H1.out.1.frozen 2; simp only [List.getElem?_cons_succ, List.getElem?_cons_zero] at q2; have b2 := H1.out.1.set 2 (.bool true); have c2 : Chg [nb] w1 (w1.setCell ⟨nb, 2, none⟩ (.bool true)) := (Chg.refl [nb] w1).setCell (p := ⟨nb, 2, none⟩) (Or.inl (by simp)) _; have hv2 := H1.out.2.1.chg c2 (fun x hx hy => H1.out.2.2.2.2.1 (List.mem_singleton.1 hy ▸ hx)) (NoB.blk H1.out.1 (by decide)); have H2 := hd3 b2 hv2 (H1.out.2.2.1.trans c2 (fun z hz => Or.inl (by rw [List.mem_singleton.1 hz]; simp))); have HU := hd2 u2 u3; clear he b2 c2 hv2 u2 u3; go_wp2; go_ret; rw [HU.out.1, HU.out.2]
  exact ⟨rfl, H2.out.1, ⟨F1, H2.out.2.1, H2.out.2.2, H1.out.2.2.2.1, H1.out.2.2.2.2.1⟩, H1.out.2.2.2.2.2⟩
end
def S5 (w : World) (nb : Nat) : Prop := w.cell? ⟨nb, 5, none⟩ = some (.int .i64 0)
theorem S5.load {w : World} {nb : Nat} (h : S5 w nb) : (Instr.loadAt 3 (.pointer (some ⟨nb, 5, none⟩))).run Tryz.prog w = .ok (.int .i64 0) w := by
 have h2 : w.cell? ⟨nb, 5, none⟩ = some (.int .i64 0) := h; clear h
 first
 |(go_simp; done)
 |(simp [Instr.loadAt, go_sem, h2]; done)
 |(simp [Instr.loadAt, Instr.sureAddr, Instr.loadVar, go_sem, h2, Tryz.underlying3]; done)
theorem S5.set {w : World} {nb o : Nat} (u : Value) (h : S5 w nb) (ho : 5 < o) : S5 (w.setCell ⟨nb, o, none⟩ u) nb := by
 unfold S5 at h ⊢
 have hne : (⟨nb, o, Option.none⟩ : Addr) ≠ ⟨nb, 5, Option.none⟩ := fun e => by
  have h8 := congrArg Addr.off e; simp only [] at h8
  omega
 first
 |exact (World.cell?_setCell_other _ _ hne).trans h
 |exact (World.cell?_setCell_other _ _ _ hne).trans h
 |exact (World.cell?_setCell_other _ _ _ _ hne).trans h
theorem S5.drew {w : World} {nb : Nat} (h : S5 w nb) : S5 w.drew nb := h
def Nd.new (id : Int) (V : Vlt) (l : List Int) : Nd := ({ id := id, V := V, dead := false, bt := 0, bv := -1, sm := l, L := [], commit := 0, told := 0, role := 0, leader := -1, quiet := 0, beats := 0, votes := [], next := noF, mat := noF } : Nd).put 1 (sbytes 0 0 l [])
section
variable {w w' : World} {nb v d g : Nat} {F : List Nat} {V : Vlt} {no : List Nat} {A : Option Addr} {c : Nat} {l : List Int}
theorem nnewV_calls (hv : VltM w v d F V) (hV : VltOk V g) (hg : g < 2 ^ 60) (hl0 : V.l = []) (h : Sl w no A c l) (id : Int) (hid : 0 ≤ id ∧ id ≤ 15) (hr : l.length = 0 ∨ RightP l) :
  Calls Tryz.prog 41 #[.int .i64 id, .pointer (some ⟨v, 0, none⟩), .slice A l.length c] w fun e w' => ∃ nb p Fl Fv, e = .returned (.tuple #[.pointer (some ⟨nb, 0, none⟩), .int .i64 0]) ∧ NP w' nb p Fl Fv (Nd.new id V l) ∧ VltOk (Nd.new id V l).V (g + 1) ∧ Chg F w w' ∧ (∀ x ∈ ft nb p Fl Fv, x ∈ F ∨ w.heap.size ≤ x) ∧ p.Av = none ∧ p.cv = 0 := by
 have hml : l.length ≤ 7 := hr.elim (fun h => by omega) (fun h => h.2.2)
 have hmx : ∀ x ∈ l, 0 ≤ x ∧ x ≤ 15 := fun x hx => by
  rcases hr with h | h
  ·rw [List.eq_nil_of_length_eq_zero h] at hx; cases hx
  ·obtain ⟨j, hj, rfl⟩ := List.getElem_of_mem hx
   have := (h.1 j hj).1; rw [List.getD_eq_getElem?_getD, List.getElem?_eq_getElem hj] at this
   exact this
 have HQ := hide (qright_calls h); have r0 := Below.refl w.heap.size w; obtain ⟨n, hn⟩ : ∃ n, l.length = n := ⟨_, rfl⟩; have HN := hide hn; rw [hn] at HQ hr ⊢
 have hd : 0 < n → decide (RightP l) = true := fun h => decide_eq_true (hr.resolve_left (by omega))
 have H := hd7 hv hV hg hl0 h hml hmx
 have h1 : ¬ id < 0 := by omega
 have h2 : ¬ 15 < id := by omega
 have hmm := @run_makeMap Tryz.prog; have HID := hide hid; clear hv hV hg hl0 h hml hmx hn hr hid
 -- the node's block, made of two maps and its cells
 obtain ⟨wa, hwa⟩ : ∃ wa, w.alloc (.map #[] 0) = wa := ⟨_, rfl⟩; obtain ⟨m1, hm1⟩ : ∃ m1, w.heap.size = m1 := ⟨_, rfl⟩; obtain ⟨wb, hwb⟩ : ∃ wb, wa.alloc (.map #[] 0) = wb := ⟨_, rfl⟩; obtain ⟨m2, hm2⟩ : ∃ m2, m1 + 1 = m2 := ⟨_, rfl⟩
 have i1 : IM wa m1 0 noF := by rw [← hwa, ← hm1]; exact IM.made w
 have i2 : IM wb m2 0 noF := by
  have := IM.made wa; rw [hwb, show wa.heap.size = m2 by rw [← hwa, ← hm2, ← hm1]; simp] at this
  exact this
 have ba : Below w.heap.size w wa := hwa ▸ belowL r0 _
 have bb : Below wa.heap.size wa wb := hwb ▸ belowL (Below.refl _ _) _
 have hszb : wb.heap.size = m2 + 1 := by rw [← hwb, ← hwa, ← hm2, ← hm1]; simp
 have HM := hd6 (i1.chg (L := []) (Chg.of_below bb) (by simp)) i2 (belowA bb ba) hm1 hm2 hszb; have HWA := hd4 hwa hm1 hwb hm2; clear hwa hm1 hwb hm2 i1 i2 ba bb hszb
 by_cases hp : 0 < n
 ·have h3 : (0 : Int) < n := by omega
  have hd := hd hp; rw [hd] at HQ; clear hd hp
  go_enter Tryz.func41, Tryz.ntmps41
  go_wp2_with fail
  with_reducible refine HQ.out.mono ?_
  rintro e w' ⟨rfl, rfl⟩; clear HQ; go_wp2_with fail
  (try rw [HWA.out.2.1])
  (try rw [HWA.out.2.2.2])
  (try rw [HWA.out.1])
  (try rw [HWA.out.2.2.1])
  obtain ⟨nb, hnb⟩ : ∃ nb, m2 + 1 = nb := ⟨_, rfl⟩
  (try rw [hnb])
  obtain ⟨w1, hw1⟩ : ∃ w1, wb.alloc (.cells #[.int .i64 id, .pointer (some ⟨v, 0, none⟩), .bool false, .int .i64 0, .int .i64 (-1), .int .i64 0, .int .i64 0, .slice none 0 0, .slice none 0 0, .pointer none, .int .i64 0, .int .i64 0, .bool false, .int .i64 0, .int .i64 (-1), .int .i64 0, .int .i64 0, .slice none 0 0, .map (some m1), .map (some m2), .slice none 0 0] 111) = w1 := ⟨_, rfl⟩; rw [hw1]
  have bN1 : Blk w1 nb 111 [.int .i64 id, .pointer (some ⟨v, 0, none⟩), .bool false, .int .i64 0, .int .i64 (-1), .int .i64 0, .int .i64 0, .slice none 0 0, .slice none 0 0, .pointer none, .int .i64 0, .int .i64 0, .bool false, .int .i64 0, .int .i64 (-1), .int .i64 0, .int .i64 0, .slice none 0 0, .map (some m1), .map (some m2), .slice none 0 0] := by rw [← hw1, ← hnb, ← HM.out.2.2.2.2.2]; exact Blk.new rfl
  have hb1' : Below wb.heap.size wb w1 := hw1 ▸ belowL (Below.refl _ _) _
  have hb1 := belowA hb1' HM.out.2.2.1; have i1 := HM.out.1.chg (L := []) (Chg.of_below hb1') (by simp); have i2 := HM.out.2.1.chg (L := []) (Chg.of_below hb1') (by simp)
  have hnbw : w.heap.size ≤ nb := by have := HM.out; omega
  have hm12 : m1 ≠ m2 ∧ m1 ≠ nb ∧ m2 ≠ nb ∧ w.heap.size ≤ m1 ∧ w.heap.size ≤ m2 := by have := HM.out; omega
  have hnF : nb ∉ F := fun hx => by have := (H.out.1.hard nb hx).lt; omega
  have HGET : Hid (∀ (w' : World) (k : Int), i64ok k → VltM w' v d F V → Calls Tryz.prog 82 #[.pointer (some ⟨v, 0, none⟩), .int .i64 k] w' fun e w'' => ∃ A' c', e = .returned (.tuple #[.slice A' 0 c', .bool false]) ∧ Below w'.heap.size w' w'') := hide (fun w' k hk hv => by
   have h9 := vget_calls hv k hk; rw [H.out.2.2.2.1, kvGetI_nil] at h9
   exact h9.mono fun e w'' ⟨A', c', he, _, hb⟩ => ⟨A', c', he, hb⟩)
  have HG0 := hide (HGET.out w1 0 (by unfold i64ok; omega) (H.out.1.below hb1)); have H1 := hd7 bN1 hb1 i1 i2 hnbw hm12 hnF; clear hw1 hnb bN1 hb1' hb1 i1 i2 hnbw hm12 hnF hmm
  with_reducible refine HG0.out.mono ?_
  rintro e w2 ⟨A2, c2, rfl, hb2⟩; have HG1 := hide (HGET.out w2 1 (by unfold i64ok; omega) (H.out.1.below (belowA hb2 H1.out.2.1))); have HB2 := hide hb2; clear hb2 HG0; go_wp2_with fail
  with_reducible refine HG1.out.mono ?_
  rintro e w3 ⟨A3, c3, rfl, hb3⟩; have hb13 := belowA hb3 HB2.out; have hcl := cloneI_calls A l.length c l no w3 rfl (H.out.2.2.2.2.1.below (belowA hb13 H1.out.2.1)); rw [HN.out] at hcl; have HCL := hide hcl; have HB3 := hide hb13; clear hb3 hb13 hcl HG1 HB2; go_wp2_with fail
  with_reducible refine HCL.out.mono ?_
  rintro e w4 ⟨A4, c4, rfl, ho4, hb4⟩; have hb14 := belowA hb4 HB3.out; have bN4 := H1.out.1.below hb14; have q5 := bN4.cell 5; have q6 := bN4.cell 6; have q7 := bN4.cell 7; have q8 := bN4.cell 8; have f5 := bN4.frozen 5; have f6 := bN4.frozen 6; have f7 := bN4.frozen 7; have f8 := bN4.frozen 8; simp only [List.getElem?_cons_succ, List.getElem?_cons_zero] at q5 q6 q7 q8; obtain ⟨w5, hw5⟩ : ∃ w5, (((w4.setCell ⟨nb, 5, none⟩ (.int .i64 0)).setCell ⟨nb, 6, none⟩ (.int .i64 0)).setCell ⟨nb, 7, none⟩ (.slice A4 n c4)).setCell ⟨nb, 8, none⟩ (.slice none 0 0) = w5 := ⟨_, rfl⟩
  have c5 : Chg [nb] w4 w5 := by rw [← hw5]; exact ((((Chg.refl [nb] w4).setCell (p := ⟨nb, 5, none⟩) (Or.inl (by simp)) _).setCell (p := ⟨nb, 6, none⟩) (Or.inl (by simp)) _).setCell (p := ⟨nb, 7, none⟩) (Or.inl (by simp)) _).setCell (p := ⟨nb, 8, none⟩) (Or.inl (by simp)) _
  have bN5 := (((bN4.set 5 (.int .i64 0)).set 6 (.int .i64 0)).set 7 (.slice A4 n c4)).set 8 (.slice none 0 0); rw [hw5] at bN5; have hh4 : HardL w4 [nb] := HardL.cons (bN4.hard (by decide) (by decide)) (fun g hg => by cases hg); have it5 : It w5 A4 c4 l := (ho4.it (by have := H.out.2.2.2.2.2.1; omega)).chg c5 hh4; have hv5 : VltM w5 v d F V := (H.out.1.below (belowA hb14 H1.out.2.1)).chg c5 (fun x hx hy => H1.out.2.2.2.2.2.2 (List.mem_singleton.1 hy ▸ hx)) hh4.nob; have i15 := (H1.out.2.2.1.chg (L := []) (Chg.of_below hb14) (by simp)).chg c5 (fun hx => H1.out.2.2.2.2.2.1.2.1 (List.mem_singleton.1 hx)); have i25 := (H1.out.2.2.2.1.chg (L := []) (Chg.of_below hb14) (by simp)).chg c5 (fun hx => H1.out.2.2.2.2.2.1.2.2.1 (List.mem_singleton.1 hx)); have hb5 : Below w.heap.size w w5 := Chg.onto (belowA hb14 H1.out.2.1) (belowA hb14 H1.out.2.1).size c5 (fun z hz => by rw [List.mem_singleton.1 hz]; exact H1.out.2.2.2.2.1); have hsn := snapb_calls (w := w5) (no := []) (A := A4) (c := c4) (B := none) (d := 0) 0 0 (l := l) (b := []) it5.sl H.out.2.2.2.2.2.1 H.out.2.2.2.2.2.2 (Or.inl rfl) (by omega) (by omega) (by simp); rw [show ((0 : Nat) : Int) = 0 from rfl, HN.out, List.length_nil] at hsn
  have hsl : (sbytes 0 0 l []).length ≤ 900 ∧ ∀ x ∈ sbytes 0 0 l [], x < 256 := by
   have hq := qbytes_len H.out.2.2.2.2.2.1 H.out.2.2.2.2.2.2; have e1 := enc_len9 (n := 0) (by omega); have e2 := enc_len9 (n := (qbytes l).length) (by omega)
   refine ⟨by unfold sbytes encT; simp only [List.length_append, List.length_nil]; omega, fun x hx => ?_⟩
   unfold sbytes encT at hx; simp only [List.mem_append, List.not_mem_nil, or_false] at hx
   rcases hx with ((hx | hx) | (hx | hx)) | hx
   ·exact enc_byte _ x hx
   ·exact enc_byte _ x hx
   ·exact enc_byte _ x hx
   ·exact hq.2 x hx
   ·exact enc_byte _ x hx
  obtain ⟨SB, hSB⟩ : ∃ SB, sbytes 0 0 l [] = SB := ⟨_, rfl⟩; rw [hSB] at hsn hsl; have HSN := hide hsn; have hlt4 := bN4.lt; have H5 := hd8 bN5 it5 hv5 i15 i25 hb5 hsl hSB; have HW5 := hide hw5; clear hb4 hb14 ho4 bN4 c5 bN5 hh4 it5 hv5 i15 i25 hb5 hsn hsl hSB hw5 HCL HB3; go_wp2_with fail; rw [HW5.out]
  with_reducible refine HSN.out.mono ?_
  rintro e w6 ⟨A6, c6, rfl, ho6, hb6⟩; have hpu := nput0_calls (H5.out.1.below hb6) (H5.out.2.2.1.below hb6) H1.out.2.2.2.2.2.2 H.out.2.1 H.out.2.2.1 1 ho6.bt H5.out.2.2.2.2.2.2.1.2 (by have := H5.out.2.2.2.2.2.2.1.1; omega); have hpl := Vlt.put_l (V := V) 1 SB (by omega) H5.out.2.2.2.2.2.2.1.1; rw [show ((1 : Nat) : Int) = 1 from rfl, H.out.2.2.2.1] at hpl
  have hg1 : kvGetI (V.put 1 SB).2.l 1001 = none := by
   rcases hpl with h9 | h9
   ·rw [h9]; exact kvGetI_nil _
   ·rw [h9]; exact kvGetI_one (by simp)
  have hnw : Nd.new id V l = { id := id, V := (V.put 1 SB).2, dead := (V.put 1 SB).1 != 0, bt := 0, bv := -1, sm := l, L := [], commit := 0, told := 0, role := 0, leader := -1, quiet := 0, beats := 0, votes := [], next := noF, mat := noF } := by
   unfold Nd.new Nd.put; rw [H5.out.2.2.2.2.2.2.2]
   rfl
  obtain ⟨⟨pe, V1⟩, hpv⟩ : ∃ x, V.put 1 SB = x := ⟨_, rfl⟩; rw [hpv] at hpu hg1 hnw; simp only [] at hpu hg1 hnw; have HPU := hide hpu; have H6 := hd3 hb6 hg1 hnw; clear ho6 hb6 hpu hpl hg1 hnw hpv HSN q5 q6 q7 q8 f5 f6 f7 f8; go_wp2_with fail
  with_reducible refine HPU.out.mono ?_
  rintro e w7 ⟨rfl, bN7, ⟨F7, hv7, hc7, hF7, hn7⟩, hok7⟩; have hB7 : Hid (Blk w7 nb 111 [.int .i64 id, .pointer (some ⟨v, 0, none⟩), .bool (pe != 0), .int .i64 0, .int .i64 (-1), .int .i64 0, .int .i64 0, .slice A4 n c4, .slice none 0 0, .pointer none, .int .i64 0, .int .i64 0, .bool false, .int .i64 0, .int .i64 (-1), .int .i64 0, .int .i64 0, .slice none 0 0, .map (some m1), .map (some m2), .slice none 0 0]) := hide bN7; have hh6 : HardL w6 (nb :: F) := HardL.cons ((H5.out.1.below H6.out.1).hard (by decide) (by decide)) (H5.out.2.2.1.below H6.out.1).hard; have it7 : It w7 A4 c4 l := (H5.out.2.1.below H6.out.1).chg hc7 hh6
  have hmF : ∀ m : Nat, w.heap.size ≤ m → m ≠ nb → m ∉ nb :: F := fun m hm hne hx => by
   rcases List.mem_cons.1 hx with h | h
   ·exact hne h
   ·have := (H.out.1.hard m h).lt; omega
  have i17 := (H5.out.2.2.2.1.chg (L := []) (Chg.of_below H6.out.1) (by simp)).chg hc7 (hmF m1 H1.out.2.2.2.2.2.1.2.2.2.1 H1.out.2.2.2.2.2.1.2.1); have i27 := (H5.out.2.2.2.2.1.chg (L := []) (Chg.of_below H6.out.1) (by simp)).chg hc7 (hmF m2 H1.out.2.2.2.2.2.1.2.2.2.2 H1.out.2.2.2.2.2.1.2.2.1)
  have hc07 : Chg F w w7 := (Chg.of_below (belowA H6.out.1 H5.out.2.2.2.2.2.1)).trans hc7 (fun z hz => by
   rcases List.mem_cons.1 hz with h | h
   ·rw [h]; exact Or.inr H1.out.2.2.2.2.1
   ·exact Or.inl h)
  have hF07 : ∀ x ∈ F7, x ∈ F ∨ w.heap.size ≤ x := fun x hx => (hF7 x hx).imp (fun h => h) (fun h => Nat.le_trans (belowA H6.out.1 H5.out.2.2.2.2.2.1).size h)
  have HF7 := hide hF7; have r7 := Below.refl w7.heap.size w7; have y5 := hB7.out.rule 5 _ rfl; have y6 := hB7.out.rule 6 _ rfl; have HLN := hide (fun (w' : World) => lg_new 0 0 w' (Int.le_refl _) (Int.le_refl _)); have H7 := hd8 it7 i17 i27 hc07 hF07 hv7 hn7 hok7; clear bN7 hh6 it7 hmF i17 i27 hc07 hF07 hv7 hn7 hok7 hc7 hF7 HPU
  go_upto_region 12 with fail
  refine region_lx (fun w' => Below w7.heap.size w7 w') [14] [2, 2, 2, 2, 2, 0, 2, 2, 2, 2, 0, 1, 2, 2, 3] (by (first | exact r7.drew | exact hb8')) (fun hS0 => ?_)
  (iterate 11 (first | refine lxt ?_ | refine lxp ?_))
  (refine lxe ?_; go_simp; ((go_at_call 87; (with_reducible refine (HLN.out _).mono ?_); rintro e w8 ⟨lb, rfl, hlg8, hlb8, hb8⟩; have hb8' := belowA hb8 r7.drew; have q9 := (hB7.out.below hb8').cell 9; have f9 := (hB7.out.below hb8').frozen 9; simp only [List.getElem?_cons_succ, List.getElem?_cons_zero] at q9)); refine lxB (by (first | exact r7.drew | exact hb8')) (fun hS1 => ?_))
  (iterate 2 (refine lxp ?_))
  (refine lxn ?_; go_simp)
  refine lxN ?_
  obtain ⟨w9, hw9⟩ : ∃ w9, w8.setCell ⟨nb, 9, none⟩ (.pointer (some ⟨lb, 0, none⟩)) = w9 := ⟨_, rfl⟩; rw [hw9]; have bN9 := (hB7.out.below hb8').set 9 (.pointer (some ⟨lb, 0, none⟩))
  have c9 : Chg [nb] w8 w9 := by rw [← hw9]; exact (Chg.refl [nb] w8).setCell (p := ⟨nb, 9, none⟩) (Or.inl (by simp)) _
  rw [hw9] at bN9; have hh8 : HardL w8 [nb] := HardL.cons ((hB7.out.below hb8').hard (by decide) (by decide)) (fun g hg => by cases hg); have hnl : nb < w7.heap.size := hB7.out.lt
  have hlb : nb ≠ lb := by have := r7.drew.size; have h9 : w7.drew.heap.size = w7.heap.size := rfl; omega
  have h9v : VltM w9 v d F7 V1 := (H7.out.2.2.2.2.2.1.below hb8').chg c9 (fun x hx hy => H7.out.2.2.2.2.2.2.1 (List.mem_singleton.1 hy ▸ hx)) hh8.nob; have h9l : LG w9 lb 0 0 [] [lb] := hlg8.keep c9 (fun x hx hy => by rw [List.mem_singleton.1 hx] at hy; exact hlb (List.mem_singleton.1 hy).symm) (fun x hx => (hh8 x hx).notByte); have it9 := (H7.out.1.below hb8').chg c9 hh8; have i19 := (H7.out.2.1.chg (L := []) (Chg.of_below hb8') (by simp)).chg c9 (fun hx => H1.out.2.2.2.2.2.1.2.1 (List.mem_singleton.1 hx)); have i29 := (H7.out.2.2.1.chg (L := []) (Chg.of_below hb8') (by simp)).chg c9 (fun hx => H1.out.2.2.2.2.2.1.2.2.1 (List.mem_singleton.1 hx)); have hc09 : Chg F w w9 := (H7.out.2.2.2.1.below hb8').trans c9 (fun z hz => by rw [List.mem_singleton.1 hz]; exact Or.inr H1.out.2.2.2.2.1); have hlb7 : w7.heap.size ≤ lb := hlb8
  have hp9 : NP w9 nb ⟨v, d, lb, m1, m2, A4, c4, none, 0⟩ [lb] F7 (Nd.new id V l) := by
   rw [H6.out.2.2]
   have hF7l : ∀ x ∈ F7, x < w7.heap.size := fun x hx => (H7.out.2.2.2.2.2.1.hard x hx).lt
   have hm1l : m1 < w7.heap.size := H7.out.2.1.lt; have hm2l : m2 < w7.heap.size := H7.out.2.2.1.lt
   have hnF7 : ∀ {m n : Nat} {f : Int → Option Int}, IM w5 m n f → w.heap.size ≤ m → m ∉ F7 := fun {m n f} hi hm hx => by
    rcases HF7.out m hx with h | h
    ·have := (H.out.1.hard m h).lt; omega
    ·have := hi.lt; have := H6.out.1.size; omega
   have hmlb : ∀ m, m < w7.heap.size → m ≠ lb := fun m hm => by omega
   refine ⟨by rw [show (Nd.cells _ _) = _ from rfl]; rw [← HN.out] at bN9; exact bN9, h9v, h9l, it9, It.nil _, by rw [cnt16_no]; exact i19, by rw [cnt16_no]; exact i29, ⟨H1.out.2.2.2.2.2.1.1, ?_, ?_, fun x hx hx' => ?_, ?_⟩⟩
   ·intro hx
    rcases List.mem_append.1 hx with h | h
    ·exact hmlb m1 hm1l (List.mem_singleton.1 h)
    ·exact hnF7 H5.out.2.2.2.1 H1.out.2.2.2.2.2.1.2.2.2.1 h
   ·intro hx
    rcases List.mem_append.1 hx with h | h
    ·exact hmlb m2 hm2l (List.mem_singleton.1 h)
    ·exact hnF7 H5.out.2.2.2.2.1 H1.out.2.2.2.2.2.1.2.2.2.2 h
   ·have := hF7l x hx'
    rw [List.mem_singleton.1 hx] at this
    omega
   ·simp only [List.mem_cons, List.mem_append, List.not_mem_nil, or_false, not_or]
    exact ⟨fun h => H1.out.2.2.2.2.2.1.2.1 h.symm, fun h => H1.out.2.2.2.2.2.1.2.2.1 h.symm, hlb, H7.out.2.2.2.2.2.2.1⟩
  have hfF : ∀ x ∈ ft nb ⟨v, d, lb, m1, m2, A4, c4, none, 0⟩ [lb] F7, x ∈ F ∨ w.heap.size ≤ x := fun x hx => by
   rcases ft_mem.1 hx with h | h | h | h | h
   ·rw [h]; exact Or.inr H1.out.2.2.2.2.1
   ·rw [h]; exact Or.inr H1.out.2.2.2.2.2.1.2.2.2.1
   ·rw [h]; exact Or.inr H1.out.2.2.2.2.2.1.2.2.2.2
   ·rw [List.mem_singleton.1 h]; exact Or.inr (Nat.le_trans H7.out.2.2.2.1.size hlb7)
   ·exact H7.out.2.2.2.2.1 x h
  have hnv : (Nd.new id V l).V = V1 := by rw [H6.out.2.2]
  have hgt := vget_calls hp9.vlt 1001 (by unfold i64ok; omega); rw [hnv, H6.out.2.1] at hgt; simp only [Option.getD_none, List.length_nil, Option.isSome_none] at hgt; have HGT := hide hgt
  have hok9 : VltOk (Nd.new id V l).V (g + 1) := by rw [hnv]; exact H7.out.2.2.2.2.2.2.2
  obtain ⟨ND, hND⟩ : ∃ ND, Nd.new id V l = ND := ⟨_, rfl⟩; rw [hND] at hp9 hok9
  have hids : ND.cells ⟨v, d, lb, m1, m2, A4, c4, none, 0⟩ = [.int .i64 id, .pointer (some ⟨v, 0, none⟩), .bool (pe != 0), .int .i64 0, .int .i64 (-1), .int .i64 0, .int .i64 0, .slice A4 l.length c4, .slice none 0 0, .pointer (some ⟨lb, 0, none⟩), .int .i64 0, .int .i64 0, .bool false, .int .i64 0, .int .i64 (-1), .int .i64 0, .int .i64 0, .slice none 0 0, .map (some m1), .map (some m2), .slice none 0 0] := by rw [← hND, H6.out.2.2]; rfl
  have y5' : w9.cell? ⟨nb, 5, none⟩ = some (.int .i64 0) := hp9.blk.cell 5; have H9 := hd6 hp9 hok9 hc09 hfF hids hND; clear hw9 bN9 c9 hh8 hnl hlb h9v h9l it9 i19 i29 hc09 hlb7 hp9 hfF hnv hgt hok9 hids hND hlg8 hlb8 hb8 hb8' q9 f9 hS0 hS1 y5 y6 HLN; go_wp2
  go_loopw [13, 14, 15, 16, 17, 106, 107, 108, 109, 110, 111, 112, 113, 114, 115, 116, 117, 118, 119, 120, 121, 122, 123, 124, 125, 126, 127] (fun iv _ _ _ _ _ _ _ _ _ _ _ _ _ _ _ _ _ _ _ _ _ _ _ _ _ _ wr => iv = .int .i64 1 ∧ wr = w9) (fun iv _ _ _ _ _ _ _ _ _ _ _ _ _ _ _ _ _ _ _ _ _ _ _ _ _ _ _ => 0)
  case atStart => exact ⟨rfl, rfl⟩
  case round =>
   obtain ⟨rfl, rfl⟩ := hrel; go_wp2_with fail
   with_reducible refine HGT.out.mono ?_
   rintro e w10 ⟨A10, c10, rfl, _, hb10⟩; have hp10 := H9.out.1.below hb10
   have b10 : Blk w10 nb 111 [.int .i64 id, .pointer (some ⟨v, 0, none⟩), .bool (pe != 0), .int .i64 0, .int .i64 (-1), .int .i64 0, .int .i64 0, .slice A4 l.length c4, .slice none 0 0, .pointer (some ⟨lb, 0, none⟩), .int .i64 0, .int .i64 0, .bool false, .int .i64 0, .int .i64 (-1), .int .i64 0, .int .i64 0, .slice none 0 0, .map (some m1), .map (some m2), .slice none 0 0] := by have := hp10.blk; rw [H9.out.2.2.2.2.1] at this; exact this
   have bd := b10.drewT; have hs5 : S5 w10 nb := b10.cell 5; have q10 := b10.cell 10; have q11 := b10.cell 11; have q12 := b10.cell 12; have f10 := b10.frozen 10; have f11 := b10.frozen 11; have f12 := b10.frozen 12; simp only [List.getElem?_cons_succ, List.getElem?_cons_zero] at q10 q11 q12; have HS5 := hide hs5; have HK : Hid (∀ (w' : World) (o : Nat) (u : Value), S5 w' nb → 5 < o → S5 (w'.setCell ⟨nb, o, none⟩ u) nb) := hide (fun w' o u hs ho => hs.set u ho); have H10 := hd3 hp10 b10 hb10; clear hp10 b10 bd hs5 hb10 HGT y5'
   go_upto_region 19 with fail
   refine region_lx (fun w' => S5 w' nb) [] [2, 2, 2, 2, 2, 2, 2, 0, 2, 2, 2, 2, 0, 2, 2, 2, 2, 0, 2, 2, 2, 1, 2, 2, 1, 2, 2, 1] (by (first | exact S5.drew HS5.out | exact S5.drew (HK.out _ _ _ HS5.out (by omega)) | exact S5.drew (HK.out _ _ _ (HK.out _ _ _ HS5.out (by omega)) (by omega)) | exact S5.drew (HK.out _ _ _ (HK.out _ _ _ (HK.out _ _ _ HS5.out (by omega)) (by omega)) (by omega)))) (fun hS0 => ?_)
   (iterate 7 (refine lxp ?_)); (apply lxT (by rfl); (focus (intro w hw; (try dsimp only at hw); exact run_exec_load 3 _ rfl rfl (S5.load hw))); simp only [Act.put, List.setIfInBounds_toArray, List.set_cons_zero, List.set_cons_succ]); (iterate 4 (refine lxp ?_)); (apply lxT (by rfl); (focus (intro w hw; (try dsimp only at hw); exact run_exec_load 3 _ rfl rfl (S5.load hw))); simp only [Act.put, List.setIfInBounds_toArray, List.set_cons_zero, List.set_cons_succ]); (iterate 4 (refine lxp ?_)); (apply lxT (by rfl); (focus (intro w hw; (try dsimp only at hw); exact run_exec_load 3 _ rfl rfl (S5.load hw))); simp only [Act.put, List.setIfInBounds_toArray, List.set_cons_zero, List.set_cons_succ]); (iterate 3 (refine lxp ?_))
   (refine lxe ?_; go_simp; refine lxB (by (first | exact S5.drew HS5.out | exact S5.drew (HK.out _ _ _ HS5.out (by omega)) | exact S5.drew (HK.out _ _ _ (HK.out _ _ _ HS5.out (by omega)) (by omega)) | exact S5.drew (HK.out _ _ _ (HK.out _ _ _ (HK.out _ _ _ HS5.out (by omega)) (by omega)) (by omega)))) (fun hS1 => ?_))
   (iterate 2 (refine lxp ?_))
   (refine lxe ?_; go_simp; refine lxB (by (first | exact S5.drew HS5.out | exact S5.drew (HK.out _ _ _ HS5.out (by omega)) | exact S5.drew (HK.out _ _ _ (HK.out _ _ _ HS5.out (by omega)) (by omega)) | exact S5.drew (HK.out _ _ _ (HK.out _ _ _ (HK.out _ _ _ HS5.out (by omega)) (by omega)) (by omega)))) (fun hS1 => ?_))
   (iterate 2 (refine lxp ?_))
   (refine lxe ?_; go_simp; refine lxB (by (first | exact S5.drew HS5.out | exact S5.drew (HK.out _ _ _ HS5.out (by omega)) | exact S5.drew (HK.out _ _ _ (HK.out _ _ _ HS5.out (by omega)) (by omega)) | exact S5.drew (HK.out _ _ _ (HK.out _ _ _ (HK.out _ _ _ HS5.out (by omega)) (by omega)) (by omega)))) (fun hS1 => ?_))
   refine lxN ?_
   obtain ⟨w11, hw11⟩ : ∃ w11, (((w10.setCell ⟨nb, 10, none⟩ (.int .i64 0)).setCell ⟨nb, 11, none⟩ (.int .i64 0)).setCell ⟨nb, 12, none⟩ (.bool false)).drew = w11 := ⟨_, rfl⟩
   have c11 : Chg [nb] w10 w11 := by rw [← hw11]; exact ((((Chg.refl [nb] w10).setCell (p := ⟨nb, 10, none⟩) (Or.inl (by simp)) _).setCell (p := ⟨nb, 11, none⟩) (Or.inl (by simp)) _).setCell (p := ⟨nb, 12, none⟩) (Or.inl (by simp)) _).drew
   have b11 := (((H10.out.2.1.set 10 (.int .i64 0)).set 11 (.int .i64 0)).set 12 (.bool false)).drewT; rw [hw11] at b11; rw [hw11]
   have b11' : Blk w11 nb 111 (ND.cells ⟨v, d, lb, m1, m2, A4, c4, none, 0⟩) := by rw [H9.out.2.2.2.2.1]; exact b11
   have h11 : NP w11 nb ⟨v, d, lb, m1, m2, A4, c4, none, 0⟩ [lb] F7 ND := H10.out.1.own c11 (dead := ND.dead) (bt := ND.bt) (bv := ND.bv) (commit := ND.commit) (told := ND.told) (role := ND.role) (leader := ND.leader) (quiet := ND.quiet) (beats := ND.beats) b11'; have hc11 : Chg F w w11 := (H9.out.2.2.1.below H10.out.2.2).trans c11 (fun z hz => by rw [List.mem_singleton.1 hz]; exact Or.inr H1.out.2.2.2.2.1); have HF := hd2 h11 hc11; clear hw11 c11 b11 b11' h11 hc11 q10 q11 q12 f10 f11 f12 HS5 HK hS0 hS1; go_wp2
   go_ret2
   refine ⟨nb, ⟨v, d, lb, m1, m2, A4, c4, none, 0⟩, [lb], F7, rfl, ?_⟩
   rw [H9.out.2.2.2.2.2]
   exact ⟨HF.out.1, H9.out.2.1, HF.out.2, H9.out.2.2.2.1, rfl, rfl⟩
 ·have h3 : ¬ (0 : Int) < n := by omega
  clear hd HQ hp
  go_enter Tryz.func41, Tryz.ntmps41
  go_wp2_with fail
  (try rw [HWA.out.2.1])
  (try rw [HWA.out.2.2.2])
  (try rw [HWA.out.1])
  (try rw [HWA.out.2.2.1])
  obtain ⟨nb, hnb⟩ : ∃ nb, m2 + 1 = nb := ⟨_, rfl⟩
  (try rw [hnb])
  obtain ⟨w1, hw1⟩ : ∃ w1, wb.alloc (.cells #[.int .i64 id, .pointer (some ⟨v, 0, none⟩), .bool false, .int .i64 0, .int .i64 (-1), .int .i64 0, .int .i64 0, .slice none 0 0, .slice none 0 0, .pointer none, .int .i64 0, .int .i64 0, .bool false, .int .i64 0, .int .i64 (-1), .int .i64 0, .int .i64 0, .slice none 0 0, .map (some m1), .map (some m2), .slice none 0 0] 111) = w1 := ⟨_, rfl⟩; rw [hw1]
  have bN1 : Blk w1 nb 111 [.int .i64 id, .pointer (some ⟨v, 0, none⟩), .bool false, .int .i64 0, .int .i64 (-1), .int .i64 0, .int .i64 0, .slice none 0 0, .slice none 0 0, .pointer none, .int .i64 0, .int .i64 0, .bool false, .int .i64 0, .int .i64 (-1), .int .i64 0, .int .i64 0, .slice none 0 0, .map (some m1), .map (some m2), .slice none 0 0] := by rw [← hw1, ← hnb, ← HM.out.2.2.2.2.2]; exact Blk.new rfl
  have hb1' : Below wb.heap.size wb w1 := hw1 ▸ belowL (Below.refl _ _) _
  have hb1 := belowA hb1' HM.out.2.2.1; have i1 := HM.out.1.chg (L := []) (Chg.of_below hb1') (by simp); have i2 := HM.out.2.1.chg (L := []) (Chg.of_below hb1') (by simp)
  have hnbw : w.heap.size ≤ nb := by have := HM.out; omega
  have hm12 : m1 ≠ m2 ∧ m1 ≠ nb ∧ m2 ≠ nb ∧ w.heap.size ≤ m1 ∧ w.heap.size ≤ m2 := by have := HM.out; omega
  have hnF : nb ∉ F := fun hx => by have := (H.out.1.hard nb hx).lt; omega
  have HGET : Hid (∀ (w' : World) (k : Int), i64ok k → VltM w' v d F V → Calls Tryz.prog 82 #[.pointer (some ⟨v, 0, none⟩), .int .i64 k] w' fun e w'' => ∃ A' c', e = .returned (.tuple #[.slice A' 0 c', .bool false]) ∧ Below w'.heap.size w' w'') := hide (fun w' k hk hv => by
   have h9 := vget_calls hv k hk; rw [H.out.2.2.2.1, kvGetI_nil] at h9
   exact h9.mono fun e w'' ⟨A', c', he, _, hb⟩ => ⟨A', c', he, hb⟩)
  have HG0 := hide (HGET.out w1 0 (by unfold i64ok; omega) (H.out.1.below hb1)); have H1 := hd7 bN1 hb1 i1 i2 hnbw hm12 hnF; clear hw1 hnb bN1 hb1' hb1 i1 i2 hnbw hm12 hnF hmm
  with_reducible refine HG0.out.mono ?_
  rintro e w2 ⟨A2, c2, rfl, hb2⟩; have HG1 := hide (HGET.out w2 1 (by unfold i64ok; omega) (H.out.1.below (belowA hb2 H1.out.2.1))); have HB2 := hide hb2; clear hb2 HG0; go_wp2_with fail
  with_reducible refine HG1.out.mono ?_
  rintro e w3 ⟨A3, c3, rfl, hb3⟩; have hb13 := belowA hb3 HB2.out; have hcl := cloneI_calls A l.length c l no w3 rfl (H.out.2.2.2.2.1.below (belowA hb13 H1.out.2.1)); rw [HN.out] at hcl; have HCL := hide hcl; have HB3 := hide hb13; clear hb3 hb13 hcl HG1 HB2; go_wp2_with fail
  with_reducible refine HCL.out.mono ?_
  rintro e w4 ⟨A4, c4, rfl, ho4, hb4⟩; have hb14 := belowA hb4 HB3.out; have bN4 := H1.out.1.below hb14; have q5 := bN4.cell 5; have q6 := bN4.cell 6; have q7 := bN4.cell 7; have q8 := bN4.cell 8; have f5 := bN4.frozen 5; have f6 := bN4.frozen 6; have f7 := bN4.frozen 7; have f8 := bN4.frozen 8; simp only [List.getElem?_cons_succ, List.getElem?_cons_zero] at q5 q6 q7 q8; obtain ⟨w5, hw5⟩ : ∃ w5, (((w4.setCell ⟨nb, 5, none⟩ (.int .i64 0)).setCell ⟨nb, 6, none⟩ (.int .i64 0)).setCell ⟨nb, 7, none⟩ (.slice A4 n c4)).setCell ⟨nb, 8, none⟩ (.slice none 0 0) = w5 := ⟨_, rfl⟩
  have c5 : Chg [nb] w4 w5 := by rw [← hw5]; exact ((((Chg.refl [nb] w4).setCell (p := ⟨nb, 5, none⟩) (Or.inl (by simp)) _).setCell (p := ⟨nb, 6, none⟩) (Or.inl (by simp)) _).setCell (p := ⟨nb, 7, none⟩) (Or.inl (by simp)) _).setCell (p := ⟨nb, 8, none⟩) (Or.inl (by simp)) _
  have bN5 := (((bN4.set 5 (.int .i64 0)).set 6 (.int .i64 0)).set 7 (.slice A4 n c4)).set 8 (.slice none 0 0); rw [hw5] at bN5; have hh4 : HardL w4 [nb] := HardL.cons (bN4.hard (by decide) (by decide)) (fun g hg => by cases hg); have it5 : It w5 A4 c4 l := (ho4.it (by have := H.out.2.2.2.2.2.1; omega)).chg c5 hh4; have hv5 : VltM w5 v d F V := (H.out.1.below (belowA hb14 H1.out.2.1)).chg c5 (fun x hx hy => H1.out.2.2.2.2.2.2 (List.mem_singleton.1 hy ▸ hx)) hh4.nob; have i15 := (H1.out.2.2.1.chg (L := []) (Chg.of_below hb14) (by simp)).chg c5 (fun hx => H1.out.2.2.2.2.2.1.2.1 (List.mem_singleton.1 hx)); have i25 := (H1.out.2.2.2.1.chg (L := []) (Chg.of_below hb14) (by simp)).chg c5 (fun hx => H1.out.2.2.2.2.2.1.2.2.1 (List.mem_singleton.1 hx)); have hb5 : Below w.heap.size w w5 := Chg.onto (belowA hb14 H1.out.2.1) (belowA hb14 H1.out.2.1).size c5 (fun z hz => by rw [List.mem_singleton.1 hz]; exact H1.out.2.2.2.2.1); have hsn := snapb_calls (w := w5) (no := []) (A := A4) (c := c4) (B := none) (d := 0) 0 0 (l := l) (b := []) it5.sl H.out.2.2.2.2.2.1 H.out.2.2.2.2.2.2 (Or.inl rfl) (by omega) (by omega) (by simp); rw [show ((0 : Nat) : Int) = 0 from rfl, HN.out, List.length_nil] at hsn
  have hsl : (sbytes 0 0 l []).length ≤ 900 ∧ ∀ x ∈ sbytes 0 0 l [], x < 256 := by
   have hq := qbytes_len H.out.2.2.2.2.2.1 H.out.2.2.2.2.2.2; have e1 := enc_len9 (n := 0) (by omega); have e2 := enc_len9 (n := (qbytes l).length) (by omega)
   refine ⟨by unfold sbytes encT; simp only [List.length_append, List.length_nil]; omega, fun x hx => ?_⟩
   unfold sbytes encT at hx; simp only [List.mem_append, List.not_mem_nil, or_false] at hx
   rcases hx with ((hx | hx) | (hx | hx)) | hx
   ·exact enc_byte _ x hx
   ·exact enc_byte _ x hx
   ·exact enc_byte _ x hx
   ·exact hq.2 x hx
   ·exact enc_byte _ x hx
  obtain ⟨SB, hSB⟩ : ∃ SB, sbytes 0 0 l [] = SB := ⟨_, rfl⟩; rw [hSB] at hsn hsl; have HSN := hide hsn; have hlt4 := bN4.lt; have H5 := hd8 bN5 it5 hv5 i15 i25 hb5 hsl hSB; have HW5 := hide hw5; clear hb4 hb14 ho4 bN4 c5 bN5 hh4 it5 hv5 i15 i25 hb5 hsn hsl hSB hw5 HCL HB3; go_wp2_with fail; rw [HW5.out]
  with_reducible refine HSN.out.mono ?_
  rintro e w6 ⟨A6, c6, rfl, ho6, hb6⟩; have hpu := nput0_calls (H5.out.1.below hb6) (H5.out.2.2.1.below hb6) H1.out.2.2.2.2.2.2 H.out.2.1 H.out.2.2.1 1 ho6.bt H5.out.2.2.2.2.2.2.1.2 (by have := H5.out.2.2.2.2.2.2.1.1; omega); have hpl := Vlt.put_l (V := V) 1 SB (by omega) H5.out.2.2.2.2.2.2.1.1; rw [show ((1 : Nat) : Int) = 1 from rfl, H.out.2.2.2.1] at hpl
  have hg1 : kvGetI (V.put 1 SB).2.l 1001 = none := by
   rcases hpl with h9 | h9
   ·rw [h9]; exact kvGetI_nil _
   ·rw [h9]; exact kvGetI_one (by simp)
  have hnw : Nd.new id V l = { id := id, V := (V.put 1 SB).2, dead := (V.put 1 SB).1 != 0, bt := 0, bv := -1, sm := l, L := [], commit := 0, told := 0, role := 0, leader := -1, quiet := 0, beats := 0, votes := [], next := noF, mat := noF } := by
   unfold Nd.new Nd.put; rw [H5.out.2.2.2.2.2.2.2]
   rfl
  obtain ⟨⟨pe, V1⟩, hpv⟩ : ∃ x, V.put 1 SB = x := ⟨_, rfl⟩; rw [hpv] at hpu hg1 hnw; simp only [] at hpu hg1 hnw; have HPU := hide hpu; have H6 := hd3 hb6 hg1 hnw; clear ho6 hb6 hpu hpl hg1 hnw hpv HSN q5 q6 q7 q8 f5 f6 f7 f8; go_wp2_with fail
  with_reducible refine HPU.out.mono ?_
  rintro e w7 ⟨rfl, bN7, ⟨F7, hv7, hc7, hF7, hn7⟩, hok7⟩; have hB7 : Hid (Blk w7 nb 111 [.int .i64 id, .pointer (some ⟨v, 0, none⟩), .bool (pe != 0), .int .i64 0, .int .i64 (-1), .int .i64 0, .int .i64 0, .slice A4 n c4, .slice none 0 0, .pointer none, .int .i64 0, .int .i64 0, .bool false, .int .i64 0, .int .i64 (-1), .int .i64 0, .int .i64 0, .slice none 0 0, .map (some m1), .map (some m2), .slice none 0 0]) := hide bN7; have hh6 : HardL w6 (nb :: F) := HardL.cons ((H5.out.1.below H6.out.1).hard (by decide) (by decide)) (H5.out.2.2.1.below H6.out.1).hard; have it7 : It w7 A4 c4 l := (H5.out.2.1.below H6.out.1).chg hc7 hh6
  have hmF : ∀ m : Nat, w.heap.size ≤ m → m ≠ nb → m ∉ nb :: F := fun m hm hne hx => by
   rcases List.mem_cons.1 hx with h | h
   ·exact hne h
   ·have := (H.out.1.hard m h).lt; omega
  have i17 := (H5.out.2.2.2.1.chg (L := []) (Chg.of_below H6.out.1) (by simp)).chg hc7 (hmF m1 H1.out.2.2.2.2.2.1.2.2.2.1 H1.out.2.2.2.2.2.1.2.1); have i27 := (H5.out.2.2.2.2.1.chg (L := []) (Chg.of_below H6.out.1) (by simp)).chg hc7 (hmF m2 H1.out.2.2.2.2.2.1.2.2.2.2 H1.out.2.2.2.2.2.1.2.2.1)
  have hc07 : Chg F w w7 := (Chg.of_below (belowA H6.out.1 H5.out.2.2.2.2.2.1)).trans hc7 (fun z hz => by
   rcases List.mem_cons.1 hz with h | h
   ·rw [h]; exact Or.inr H1.out.2.2.2.2.1
   ·exact Or.inl h)
  have hF07 : ∀ x ∈ F7, x ∈ F ∨ w.heap.size ≤ x := fun x hx => (hF7 x hx).imp (fun h => h) (fun h => Nat.le_trans (belowA H6.out.1 H5.out.2.2.2.2.2.1).size h)
  have HF7 := hide hF7; have r7 := Below.refl w7.heap.size w7; have y5 := hB7.out.rule 5 _ rfl; have y6 := hB7.out.rule 6 _ rfl; have HLN := hide (fun (w' : World) => lg_new 0 0 w' (Int.le_refl _) (Int.le_refl _)); have H7 := hd8 it7 i17 i27 hc07 hF07 hv7 hn7 hok7; clear bN7 hh6 it7 hmF i17 i27 hc07 hF07 hv7 hn7 hok7 hc7 hF7 HPU
  go_upto_region 12 with fail
  refine region_lx (fun w' => Below w7.heap.size w7 w') [14] [2, 2, 2, 2, 2, 0, 2, 2, 2, 2, 0, 1, 2, 2, 3] (by (first | exact r7.drew | exact hb8')) (fun hS0 => ?_)
  (iterate 11 (first | refine lxt ?_ | refine lxp ?_))
  (refine lxe ?_; go_simp; ((go_at_call 87; (with_reducible refine (HLN.out _).mono ?_); rintro e w8 ⟨lb, rfl, hlg8, hlb8, hb8⟩; have hb8' := belowA hb8 r7.drew; have q9 := (hB7.out.below hb8').cell 9; have f9 := (hB7.out.below hb8').frozen 9; simp only [List.getElem?_cons_succ, List.getElem?_cons_zero] at q9)); refine lxB (by (first | exact r7.drew | exact hb8')) (fun hS1 => ?_))
  (iterate 2 (refine lxp ?_))
  (refine lxn ?_; go_simp)
  refine lxN ?_
  obtain ⟨w9, hw9⟩ : ∃ w9, w8.setCell ⟨nb, 9, none⟩ (.pointer (some ⟨lb, 0, none⟩)) = w9 := ⟨_, rfl⟩; rw [hw9]; have bN9 := (hB7.out.below hb8').set 9 (.pointer (some ⟨lb, 0, none⟩))
  have c9 : Chg [nb] w8 w9 := by rw [← hw9]; exact (Chg.refl [nb] w8).setCell (p := ⟨nb, 9, none⟩) (Or.inl (by simp)) _
  rw [hw9] at bN9; have hh8 : HardL w8 [nb] := HardL.cons ((hB7.out.below hb8').hard (by decide) (by decide)) (fun g hg => by cases hg); have hnl : nb < w7.heap.size := hB7.out.lt
  have hlb : nb ≠ lb := by have := r7.drew.size; have h9 : w7.drew.heap.size = w7.heap.size := rfl; omega
  have h9v : VltM w9 v d F7 V1 := (H7.out.2.2.2.2.2.1.below hb8').chg c9 (fun x hx hy => H7.out.2.2.2.2.2.2.1 (List.mem_singleton.1 hy ▸ hx)) hh8.nob; have h9l : LG w9 lb 0 0 [] [lb] := hlg8.keep c9 (fun x hx hy => by rw [List.mem_singleton.1 hx] at hy; exact hlb (List.mem_singleton.1 hy).symm) (fun x hx => (hh8 x hx).notByte); have it9 := (H7.out.1.below hb8').chg c9 hh8; have i19 := (H7.out.2.1.chg (L := []) (Chg.of_below hb8') (by simp)).chg c9 (fun hx => H1.out.2.2.2.2.2.1.2.1 (List.mem_singleton.1 hx)); have i29 := (H7.out.2.2.1.chg (L := []) (Chg.of_below hb8') (by simp)).chg c9 (fun hx => H1.out.2.2.2.2.2.1.2.2.1 (List.mem_singleton.1 hx)); have hc09 : Chg F w w9 := (H7.out.2.2.2.1.below hb8').trans c9 (fun z hz => by rw [List.mem_singleton.1 hz]; exact Or.inr H1.out.2.2.2.2.1); have hlb7 : w7.heap.size ≤ lb := hlb8
  have hp9 : NP w9 nb ⟨v, d, lb, m1, m2, A4, c4, none, 0⟩ [lb] F7 (Nd.new id V l) := by
   rw [H6.out.2.2]
   have hF7l : ∀ x ∈ F7, x < w7.heap.size := fun x hx => (H7.out.2.2.2.2.2.1.hard x hx).lt
   have hm1l : m1 < w7.heap.size := H7.out.2.1.lt; have hm2l : m2 < w7.heap.size := H7.out.2.2.1.lt
   have hnF7 : ∀ {m n : Nat} {f : Int → Option Int}, IM w5 m n f → w.heap.size ≤ m → m ∉ F7 := fun {m n f} hi hm hx => by
    rcases HF7.out m hx with h | h
    ·have := (H.out.1.hard m h).lt; omega
    ·have := hi.lt; have := H6.out.1.size; omega
   have hmlb : ∀ m, m < w7.heap.size → m ≠ lb := fun m hm => by omega
   refine ⟨by rw [show (Nd.cells _ _) = _ from rfl]; rw [← HN.out] at bN9; exact bN9, h9v, h9l, it9, It.nil _, by rw [cnt16_no]; exact i19, by rw [cnt16_no]; exact i29, ⟨H1.out.2.2.2.2.2.1.1, ?_, ?_, fun x hx hx' => ?_, ?_⟩⟩
   ·intro hx
    rcases List.mem_append.1 hx with h | h
    ·exact hmlb m1 hm1l (List.mem_singleton.1 h)
    ·exact hnF7 H5.out.2.2.2.1 H1.out.2.2.2.2.2.1.2.2.2.1 h
   ·intro hx
    rcases List.mem_append.1 hx with h | h
    ·exact hmlb m2 hm2l (List.mem_singleton.1 h)
    ·exact hnF7 H5.out.2.2.2.2.1 H1.out.2.2.2.2.2.1.2.2.2.2 h
   ·have := hF7l x hx'
    rw [List.mem_singleton.1 hx] at this
    omega
   ·simp only [List.mem_cons, List.mem_append, List.not_mem_nil, or_false, not_or]
    exact ⟨fun h => H1.out.2.2.2.2.2.1.2.1 h.symm, fun h => H1.out.2.2.2.2.2.1.2.2.1 h.symm, hlb, H7.out.2.2.2.2.2.2.1⟩
  have hfF : ∀ x ∈ ft nb ⟨v, d, lb, m1, m2, A4, c4, none, 0⟩ [lb] F7, x ∈ F ∨ w.heap.size ≤ x := fun x hx => by
   rcases ft_mem.1 hx with h | h | h | h | h
   ·rw [h]; exact Or.inr H1.out.2.2.2.2.1
   ·rw [h]; exact Or.inr H1.out.2.2.2.2.2.1.2.2.2.1
   ·rw [h]; exact Or.inr H1.out.2.2.2.2.2.1.2.2.2.2
   ·rw [List.mem_singleton.1 h]; exact Or.inr (Nat.le_trans H7.out.2.2.2.1.size hlb7)
   ·exact H7.out.2.2.2.2.1 x h
  have hnv : (Nd.new id V l).V = V1 := by rw [H6.out.2.2]
  have hgt := vget_calls hp9.vlt 1001 (by unfold i64ok; omega); rw [hnv, H6.out.2.1] at hgt; simp only [Option.getD_none, List.length_nil, Option.isSome_none] at hgt; have HGT := hide hgt
  have hok9 : VltOk (Nd.new id V l).V (g + 1) := by rw [hnv]; exact H7.out.2.2.2.2.2.2.2
  obtain ⟨ND, hND⟩ : ∃ ND, Nd.new id V l = ND := ⟨_, rfl⟩; rw [hND] at hp9 hok9
  have hids : ND.cells ⟨v, d, lb, m1, m2, A4, c4, none, 0⟩ = [.int .i64 id, .pointer (some ⟨v, 0, none⟩), .bool (pe != 0), .int .i64 0, .int .i64 (-1), .int .i64 0, .int .i64 0, .slice A4 l.length c4, .slice none 0 0, .pointer (some ⟨lb, 0, none⟩), .int .i64 0, .int .i64 0, .bool false, .int .i64 0, .int .i64 (-1), .int .i64 0, .int .i64 0, .slice none 0 0, .map (some m1), .map (some m2), .slice none 0 0] := by rw [← hND, H6.out.2.2]; rfl
  have y5' : w9.cell? ⟨nb, 5, none⟩ = some (.int .i64 0) := hp9.blk.cell 5; have H9 := hd6 hp9 hok9 hc09 hfF hids hND; clear hw9 bN9 c9 hh8 hnl hlb h9v h9l it9 i19 i29 hc09 hlb7 hp9 hfF hnv hgt hok9 hids hND hlg8 hlb8 hb8 hb8' q9 f9 hS0 hS1 y5 y6 HLN; go_wp2
  go_loopw [13, 14, 15, 16, 17, 106, 107, 108, 109, 110, 111, 112, 113, 114, 115, 116, 117, 118, 119, 120, 121, 122, 123, 124, 125, 126, 127] (fun iv _ _ _ _ _ _ _ _ _ _ _ _ _ _ _ _ _ _ _ _ _ _ _ _ _ _ wr => iv = .int .i64 1 ∧ wr = w9) (fun iv _ _ _ _ _ _ _ _ _ _ _ _ _ _ _ _ _ _ _ _ _ _ _ _ _ _ _ => 0)
  case atStart => exact ⟨rfl, rfl⟩
  case round =>
   obtain ⟨rfl, rfl⟩ := hrel; go_wp2_with fail
   with_reducible refine HGT.out.mono ?_
   rintro e w10 ⟨A10, c10, rfl, _, hb10⟩; have hp10 := H9.out.1.below hb10
   have b10 : Blk w10 nb 111 [.int .i64 id, .pointer (some ⟨v, 0, none⟩), .bool (pe != 0), .int .i64 0, .int .i64 (-1), .int .i64 0, .int .i64 0, .slice A4 l.length c4, .slice none 0 0, .pointer (some ⟨lb, 0, none⟩), .int .i64 0, .int .i64 0, .bool false, .int .i64 0, .int .i64 (-1), .int .i64 0, .int .i64 0, .slice none 0 0, .map (some m1), .map (some m2), .slice none 0 0] := by have := hp10.blk; rw [H9.out.2.2.2.2.1] at this; exact this
   have bd := b10.drewT; have hs5 : S5 w10 nb := b10.cell 5; have q10 := b10.cell 10; have q11 := b10.cell 11; have q12 := b10.cell 12; have f10 := b10.frozen 10; have f11 := b10.frozen 11; have f12 := b10.frozen 12; simp only [List.getElem?_cons_succ, List.getElem?_cons_zero] at q10 q11 q12; have HS5 := hide hs5; have HK : Hid (∀ (w' : World) (o : Nat) (u : Value), S5 w' nb → 5 < o → S5 (w'.setCell ⟨nb, o, none⟩ u) nb) := hide (fun w' o u hs ho => hs.set u ho); have H10 := hd3 hp10 b10 hb10; clear hp10 b10 bd hs5 hb10 HGT y5'
   go_upto_region 19 with fail
   refine region_lx (fun w' => S5 w' nb) [] [2, 2, 2, 2, 2, 2, 2, 0, 2, 2, 2, 2, 0, 2, 2, 2, 2, 0, 2, 2, 2, 1, 2, 2, 1, 2, 2, 1] (by (first | exact S5.drew HS5.out | exact S5.drew (HK.out _ _ _ HS5.out (by omega)) | exact S5.drew (HK.out _ _ _ (HK.out _ _ _ HS5.out (by omega)) (by omega)) | exact S5.drew (HK.out _ _ _ (HK.out _ _ _ (HK.out _ _ _ HS5.out (by omega)) (by omega)) (by omega)))) (fun hS0 => ?_)
   (iterate 7 (refine lxp ?_)); (apply lxT (by rfl); (focus (intro w hw; (try dsimp only at hw); exact run_exec_load 3 _ rfl rfl (S5.load hw))); simp only [Act.put, List.setIfInBounds_toArray, List.set_cons_zero, List.set_cons_succ]); (iterate 4 (refine lxp ?_)); (apply lxT (by rfl); (focus (intro w hw; (try dsimp only at hw); exact run_exec_load 3 _ rfl rfl (S5.load hw))); simp only [Act.put, List.setIfInBounds_toArray, List.set_cons_zero, List.set_cons_succ]); (iterate 4 (refine lxp ?_)); (apply lxT (by rfl); (focus (intro w hw; (try dsimp only at hw); exact run_exec_load 3 _ rfl rfl (S5.load hw))); simp only [Act.put, List.setIfInBounds_toArray, List.set_cons_zero, List.set_cons_succ]); (iterate 3 (refine lxp ?_))
   (refine lxe ?_; go_simp; refine lxB (by (first | exact S5.drew HS5.out | exact S5.drew (HK.out _ _ _ HS5.out (by omega)) | exact S5.drew (HK.out _ _ _ (HK.out _ _ _ HS5.out (by omega)) (by omega)) | exact S5.drew (HK.out _ _ _ (HK.out _ _ _ (HK.out _ _ _ HS5.out (by omega)) (by omega)) (by omega)))) (fun hS1 => ?_))
   (iterate 2 (refine lxp ?_))
   (refine lxe ?_; go_simp; refine lxB (by (first | exact S5.drew HS5.out | exact S5.drew (HK.out _ _ _ HS5.out (by omega)) | exact S5.drew (HK.out _ _ _ (HK.out _ _ _ HS5.out (by omega)) (by omega)) | exact S5.drew (HK.out _ _ _ (HK.out _ _ _ (HK.out _ _ _ HS5.out (by omega)) (by omega)) (by omega)))) (fun hS1 => ?_))
   (iterate 2 (refine lxp ?_))
   (refine lxe ?_; go_simp; refine lxB (by (first | exact S5.drew HS5.out | exact S5.drew (HK.out _ _ _ HS5.out (by omega)) | exact S5.drew (HK.out _ _ _ (HK.out _ _ _ HS5.out (by omega)) (by omega)) | exact S5.drew (HK.out _ _ _ (HK.out _ _ _ (HK.out _ _ _ HS5.out (by omega)) (by omega)) (by omega)))) (fun hS1 => ?_))
   refine lxN ?_
   obtain ⟨w11, hw11⟩ : ∃ w11, (((w10.setCell ⟨nb, 10, none⟩ (.int .i64 0)).setCell ⟨nb, 11, none⟩ (.int .i64 0)).setCell ⟨nb, 12, none⟩ (.bool false)).drew = w11 := ⟨_, rfl⟩
   have c11 : Chg [nb] w10 w11 := by rw [← hw11]; exact ((((Chg.refl [nb] w10).setCell (p := ⟨nb, 10, none⟩) (Or.inl (by simp)) _).setCell (p := ⟨nb, 11, none⟩) (Or.inl (by simp)) _).setCell (p := ⟨nb, 12, none⟩) (Or.inl (by simp)) _).drew
   have b11 := (((H10.out.2.1.set 10 (.int .i64 0)).set 11 (.int .i64 0)).set 12 (.bool false)).drewT; rw [hw11] at b11; rw [hw11]
   have b11' : Blk w11 nb 111 (ND.cells ⟨v, d, lb, m1, m2, A4, c4, none, 0⟩) := by rw [H9.out.2.2.2.2.1]; exact b11
   have h11 : NP w11 nb ⟨v, d, lb, m1, m2, A4, c4, none, 0⟩ [lb] F7 ND := H10.out.1.own c11 (dead := ND.dead) (bt := ND.bt) (bv := ND.bv) (commit := ND.commit) (told := ND.told) (role := ND.role) (leader := ND.leader) (quiet := ND.quiet) (beats := ND.beats) b11'; have hc11 : Chg F w w11 := (H9.out.2.2.1.below H10.out.2.2).trans c11 (fun z hz => by rw [List.mem_singleton.1 hz]; exact Or.inr H1.out.2.2.2.2.1); have HF := hd2 h11 hc11; clear hw11 c11 b11 b11' h11 hc11 q10 q11 q12 f10 f11 f12 HS5 HK hS0 hS1; go_wp2
   go_ret2
   refine ⟨nb, ⟨v, d, lb, m1, m2, A4, c4, none, 0⟩, [lb], F7, rfl, ?_⟩
   rw [H9.out.2.2.2.2.2]
   exact ⟨HF.out.1, H9.out.2.1, HF.out.2, H9.out.2.2.2.1, rfl, rfl⟩
theorem nnew_calls (hv : VltM w v d F V) (hV : VltOk V g) (hg : g < 2 ^ 60) (hl0 : V.l = []) (h : Sl w no A c l) (id : Int) (hid : 0 ≤ id ∧ id ≤ 15) (hr : l.length = 0 ∨ RightP l) :
  Calls Tryz.prog 41 #[.int .i64 id, .pointer (some ⟨v, 0, none⟩), .slice A l.length c] w fun e w' => ∃ nb p Fl Fv, e = .returned (.tuple #[.pointer (some ⟨nb, 0, none⟩), .int .i64 0]) ∧ NP w' nb p Fl Fv (Nd.new id V l) ∧ VltOk (Nd.new id V l).V (g + 1) ∧ Chg F w w' ∧ ∀ x ∈ ft nb p Fl Fv, x ∈ F ∨ w.heap.size ≤ x :=
 (nnewV_calls hv hV hg hl0 h id hid hr).mono fun e w' ⟨nb, p, Fl, Fv, h1, h2, h3, h4, h5, _⟩ => ⟨nb, p, Fl, Fv, h1, h2, h3, h4, h5⟩
end
end Go.Proofs.YtcahcjfgmdpdoaaGreat
