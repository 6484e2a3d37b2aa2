/- One text of: Nj Nk Nl. -/
import Derived.Test.YtcahcjfgmdpdoaaGreatQNB
set_option maxHeartbeats 4000000
set_option maxRecDepth 100000
namespace Go.Proofs.YtcahcjfgmdpdoaaGreat
open Go.RowKit Go.Proofs Go.Maps
set_option linter.unusedVariables false
set_option linter.unusedSimpArgs false

structure Solo (N : Nd) : Prop where
 sm : N.sm = [N.id]
 id : 0 ≤ N.id ∧ N.id ≤ 15
 L : ConOk N.L
 n : N.L.length ≤ 1000
 nx : 0 ≤ (N.next N.id).getD 0 ∧ (N.next N.id).getD 0 ≤ 1000000
 bt : 0 ≤ N.bt ∧ N.bt < 2 ^ 58
 com : 0 ≤ N.commit ∧ N.commit ≤ 1000000
theorem rightP_one {x : Int} (h : 0 ≤ x ∧ x ≤ 15) : RightP [x] :=
  ⟨fun j hj => by obtain rfl : j = 0 := by simpa using hj
                  exact ⟨h, fun h => by omega⟩, by simp, by simp⟩
theorem idxP_one {x : Int} (f : Int → Option Int) (h : 0 ≤ x ∧ x ≤ 15) : idxP [x] f = (f x).getD 0 := by
 unfold idxP; rw [if_pos (rightP_one h)]
 simp [sortL]
section
variable {w w' : World} {nb : Nat} {p : Pl} {Fl Fv : List Nat} {N : Nd}
theorem Solo.mem (hs : Solo N) (h : NP w nb p Fl Fv N) : Calls Tryz.prog 92 #[.pointer (some ⟨nb, 0, none⟩)] w fun e w' => e = .returned (.tuple #[.slice p.Am 1 p.cm, .int .i64 0]) ∧ Below w.heap.size w w' := by
 have := nmem_calls h hs.L.kind hs.L.few (by have := hs.n; omega); rw [hs.sm] at this
 exact this
theorem Solo.one (hs : Solo N) (h : NP w nb p Fl Fv N) : ∃ b o, p.Am = some ⟨b, o, none⟩ ∧ w.cell? ⟨b, o + 0, none⟩ = some (.int .i64 N.id) := by
 have h1 := h.sm.sl; rw [hs.sm] at h1; obtain ⟨b, o, e, hc⟩ := h1.get (k := 0) (by simp)
 exact ⟨b, o, e, hc 0 (by simp)⟩
theorem nspread_calls (h : NP w nb p Fl Fv N) (hs : Solo N) (hn : 1 ≤ N.L.length) :
  Calls Tryz.prog 44 #[.pointer (some ⟨nb, 0, none⟩)] w fun e w' => e = .returned (.tuple #[]) ∧ NP w' nb p Fl Fv N.hand ∧ Chg [p.nx] w w' := by
 have HM := hide (hs.mem h); have H := hd3 h hs hn; clear h hs hn
 go_enter Tryz.func44, Tryz.ntmps44
 go_wp2_with fail
 with_reducible refine HM.out.mono ?_
 rintro e w1 ⟨rfl, hb1⟩; have h1 := H.out.1.below hb1; obtain ⟨b, o, hAm, hc0⟩ := H.out.2.1.one h1; rw [hAm]; have H1 := hd3 h1 hb1 hc0; clear h1 hb1 hc0 HM; go_wp2
 go_loopw [5, 13, 14, 15, 16, 17, 18, 19, 20] (fun _ iv _ _ _ _ _ _ _ wr => ∃ (k : Nat), k ≤ 1 ∧ iv = .int .i64 k ∧ Hid (k = 0 → NP wr nb p Fl Fv N ∧ wr.cell? ⟨b, o + 0, none⟩ = some (.int .i64 N.id) ∧ Below w.heap.size w wr) ∧ Hid (k = 1 → NP wr nb p Fl Fv N.hand ∧ Chg [p.nx] w wr)) (fun _ iv _ _ _ _ _ _ _ _ => 1 - (Go.RowKit.intOf iv).toNat)
 case atStart => exact ⟨0, Nat.zero_le _, rfl, hide (fun _ => ⟨H1.out.1, H1.out.2.2, H1.out.2.1⟩), hide (fun h => by cases h)⟩
 case round =>
  obtain ⟨k, hk, rfl, h0, h1⟩ := hrel
  by_cases hlt : k < 1
  ·have i1 : (k : Int) < 1 := by omega
   obtain ⟨ha, hc, hbr⟩ := h0.out (by omega)
   have hc' : wr.cell? ⟨b, o + k, none⟩ = some (.int .i64 N.id) := by rw [show k = 0 by omega]; exact hc
   have HH := hide (nhand_calls ha H.out.2.1.id H.out.2.1.L ⟨H.out.2.2, by have := H.out.2.1.n; omega⟩ H.out.2.1.nx); have HB := hide hbr; clear ha hc hbr h0 h1; go_wp2_with fail
   with_reducible refine HH.out.mono ?_
   rintro e w2 ⟨rfl, hn2, hc2⟩; have H2 := hd2 hn2 ((Chg.of_below (L := [p.nx]) HB.out).trans hc2 (fun z hz => Or.inl hz)); clear hn2 hc2 HH hc'; go_wp2
   go_roundw
   case rel => exact ⟨k + 1, by omega, by go_num, hide (fun h => by omega), hide (fun _ => H2.out)⟩
   case measure => simp [Go.RowKit.intOf]; omega
  ·have i1 : ¬ (k : Int) < 1 := by omega
   have HE := hide (h1.out (by omega)); clear h0 h1; go_wp2
   go_end0
   exact ⟨rfl, HE.out⟩
def Nd.settle (N : Nd) : Nd := if N.role ≠ 2 ∨ N.dead = true then N else if (termC 0 0 N.L ((N.mat N.id).getD 0).toNat).1 = N.bt ∧ N.commit < (N.mat N.id).getD 0 then { N with commit := (N.mat N.id).getD 0 } else N
theorem nsettle_calls (h : NP w nb p Fl Fv N) (hs : Solo N) (hm : 0 ≤ (N.mat N.id).getD 0 ∧ (N.mat N.id).getD 0 ≤ N.L.length) :
  Calls Tryz.prog 49 #[.pointer (some ⟨nb, 0, none⟩)] w fun e w' => e = .returned (.tuple #[]) ∧ NP w' nb p Fl Fv N.settle ∧ Chg [nb] w w' := by
 obtain ⟨R, hR⟩ : ∃ R, N.settle = R := ⟨_, rfl⟩; rw [hR]; unfold Nd.settle at hR; have HM := hide (hs.mem h); have H := hd3 h hs hm; clear h hs hm
 by_cases hrd : N.role ≠ 2 ∨ N.dead = true
 ·rw [if_pos hrd] at hR
  subst hR
  go_enter Tryz.func49, Tryz.ntmps49
  go_wp2_with fail
  with_reducible refine HM.out.mono ?_
  rintro e w1 ⟨rfl, hb1⟩; have h1 := H.out.1.below hb1; have y13 : w1.cell? ⟨nb, 13, none⟩ = some (.int .i64 N.role) := h1.blk.cell 13; have y2 : w1.cell? ⟨nb, 2, none⟩ = some (.bool N.dead) := h1.blk.cell 2; have HF := hd2 h1 (Chg.of_below (L := [nb]) hb1); clear h1 hb1 HM
  by_cases hr : N.role = 2
  ·have hd : N.dead = true := hrd.resolve_left (fun h => h hr)
   rw [hr] at y13; rw [hd] at y2; clear hr hd hrd; go_wp2
   refine bodyPost_ret (results_none rfl _ _ _) rfl ?_
   exact ⟨rfl, HF.out⟩
  ·have u1 : (N.role != 2) = true := by simpa using hr
   clear hr hrd y2; go_wp2
   refine bodyPost_ret (results_none rfl _ _ _) rfl ?_
   exact ⟨rfl, HF.out⟩
 ·rw [if_neg hrd] at hR
  have hr : N.role = 2 := Classical.not_not.1 (fun h => hrd (Or.inl h))
  have hd : N.dead = false := by
   cases hdd : N.dead with
   |false => rfl
   |true => exact absurd (Or.inr hdd) hrd
  obtain ⟨mi, hmi⟩ : ∃ mi : Nat, (N.mat N.id).getD 0 = mi := ⟨((N.mat N.id).getD 0).toNat, by have := H.out.2.2; omega⟩
  have hml : mi ≤ N.L.length := by have := H.out.2.2.2; omega
  rw [hmi, Int.toNat_natCast] at hR; have HRD := hd2 hr hd; have HMI := hd2 hmi hml; clear hrd hr hd hmi
  go_enter Tryz.func49, Tryz.ntmps49
  go_wp2_with fail
  with_reducible refine HM.out.mono ?_
  rintro e w1 ⟨rfl, hb1⟩; have h1 := H.out.1.below hb1
  have y13 : w1.cell? ⟨nb, 13, none⟩ = some (.int .i64 2) := by have := h1.blk.cell 13; simp only [Nd.cells, List.getElem?_cons_succ, List.getElem?_cons_zero, HRD.out.1] at this; exact this
  have y2 : w1.cell? ⟨nb, 2, none⟩ = some (.bool false) := by have := h1.blk.cell 2; simp only [Nd.cells, List.getElem?_cons_succ, List.getElem?_cons_zero, HRD.out.2] at this; exact this
  have y19 : w1.cell? ⟨nb, 19, none⟩ = some (.map (some p.mx)) := h1.blk.cell 19; have hqi := qindex_calls (no := []) (l := N.sm) h1.sm.sl h1.mx; rw [H.out.2.1.sm, idxP_one _ H.out.2.1.id, HMI.out.1, show [N.id].length = 1 from rfl] at hqi; have HQI := hide hqi; have H1 := hd2 h1 hb1; clear h1 hb1 HM hqi; go_wp2_with fail
  with_reducible refine HQI.out.mono ?_
  rintro e w2 ⟨rfl, hb2⟩; have h2 := H1.out.1.below hb2; have hte := lg_term mi h2.log (Int.le_refl _) (by omega) (by have := H.out.2.1.n; omega) (i := (mi : Int)) (by omega); have htc := termC_in (base := 0) (term := 0) (L := N.L) hml; rw [htc] at hte; obtain ⟨tv, htv⟩ : ∃ tv, (termC 0 0 N.L mi).1 = tv := ⟨_, rfl⟩; rw [htv] at hte hR; have HTE := hide hte; have y9 : w2.cell? ⟨nb, 9, none⟩ = some (.pointer (some ⟨p.lb, 0, none⟩)) := h2.blk.cell 9; have H2 := hd2 h2 (belowA hb2 H1.out.2); clear h2 hb2 hte htc htv HQI y13 y2 y19 H1; go_wp2_with fail
  with_reducible refine HTE.out.mono ?_
  rintro e w3 ⟨rfl, q3, rfl⟩; have hb3 := below_drewN (Below.refl w2.heap.size w2) q3; have h3 := H2.out.1.below hb3; obtain ⟨w3, hw3⟩ : ∃ w3, w2.drewN q3 = w3 := ⟨_, rfl⟩; rw [hw3] at h3 hb3; rw [hw3]; have y3 : w3.cell? ⟨nb, 3, none⟩ = some (.int .i64 N.bt) := h3.blk.cell 3; have y10 : w3.cell? ⟨nb, 10, none⟩ = some (.int .i64 N.commit) := h3.blk.cell 10; have H3 := hd2 h3 (belowA hb3 H2.out.2); clear h3 hb3 hw3 HTE y9 H2
  by_cases hok : tv = N.bt ∧ N.commit < mi
  ·rw [if_pos hok] at hR
   have u1 : (tv == N.bt) = true := by simp [hok.1]
   have u2 : N.commit < (mi : Int) := hok.2; have q10 := H3.out.1.blk.cell 10; have f10 := H3.out.1.blk.frozen 10; simp only [Nd.cells, List.getElem?_cons_succ, List.getElem?_cons_zero] at q10; obtain ⟨w4, hw4⟩ : ∃ w4, w3.setCell ⟨nb, 10, none⟩ (.int .i64 mi) = w4 := ⟨_, rfl⟩
   have c4 : Chg [nb] w3 w4 := by rw [← hw4]; exact (Chg.refl [nb] w3).setCell (p := ⟨nb, 10, none⟩) (Or.inl (by simp)) _
   have b4 := H3.out.1.blk.set 10 (.int .i64 mi); rw [hw4] at b4; have h4 := H3.out.1.own c4 (dead := N.dead) (bt := N.bt) (bv := N.bv) (commit := mi) (told := N.told) (role := N.role) (leader := N.leader) (quiet := N.quiet) (beats := N.beats) b4; have hs4 : Solo { N with commit := (mi : Int) } := ⟨H.out.2.1.sm, H.out.2.1.id, H.out.2.1.L, H.out.2.1.n, H.out.2.1.nx, H.out.2.1.bt, by have := H.out.2.1.n; simp only []; omega⟩; have HM4 := hide (hs4.mem h4); have HR := hide hR; have HW4 := hide hw4; have H4 := hd3 h4 hs4 ((Chg.of_below (L := [nb]) H3.out.2).trans c4 (fun z hz => Or.inl hz)); clear c4 b4 h4 hs4 hw4 hR hok; go_wp2_with fail; rw [HW4.out]
   with_reducible refine HM4.out.mono ?_
   rintro e w5 ⟨rfl, hb5⟩; have h5 := H4.out.1.below hb5; have y10' : w5.cell? ⟨nb, 10, none⟩ = some (.int .i64 mi) := h5.blk.cell 10; have y0 : w5.cell? ⟨nb, 0, none⟩ = some (.int .i64 N.id) := h5.blk.cell 0
   have u3 : ¬ (mi : Int) < 0 := by omega
   have hcn := contains_calls p.Am 1 p.cm [N.id] N.id w5 rfl (by omega) (by have := h5.sm.sl.rd; rw [show ({ N with commit := (mi : Int) } : Nd).sm = N.sm from rfl, H.out.2.1.sm] at this; exact this); rw [show ([N.id].contains N.id) = true by simp] at hcn; have HCN := hide hcn; have H5 := hd2 h5 (H4.out.2.2.below hb5); clear h5 hb5 hcn HM4 q10 f10 y3 y10 u1 u2; go_wp2_with fail
   with_reducible refine HCN.out.mono ?_
   rintro e w6 ⟨rfl, q, rfl⟩; have hb6 := below_drewN (Below.refl w5.heap.size w5) q; have H6 := hd2 (H5.out.1.below hb6) (H5.out.2.below hb6); clear hb6 HCN; go_wp2
   go_end0
   obtain rfl := HR.out
   exact ⟨rfl, H6.out⟩
  ·rw [if_neg hok] at hR
   subst hR; have HF := hd2 H3.out.1 (Chg.of_below (L := [nb]) H3.out.2)
   by_cases ht : tv = N.bt
   ·have u1 : (tv == N.bt) = true := by simp [ht]
    have u2 : ¬ N.commit < (mi : Int) := fun h => hok ⟨ht, h⟩
    clear hok ht; go_wp2
    go_end0
    exact ⟨rfl, HF.out⟩
   ·have u1 : (tv == N.bt) = false := by simpa using ht
    clear hok ht; go_wp2
    go_end0
    exact ⟨rfl, HF.out⟩
end

def noF : Int → Option Int := fun _ => none
theorem cnt16_no : cnt16 noF = 0 := by unfold cnt16 noF; simp
def Nd.lead0 (N : Nd) : Nd := { N with role := 2, leader := N.id, beats := 0, next := noF, mat := noF }
def Nd.lead (N : Nd) : Nd := ((N.lead0.pushE 0 []).hand).settle
theorem Nd.put_same (N : Nd) (k : Int) (b : List Nat) : (N.put k b).id = N.id ∧ (N.put k b).bt = N.bt ∧ (N.put k b).sm = N.sm ∧ (N.put k b).L = N.L ∧ (N.put k b).commit = N.commit ∧ (N.put k b).next = N.next ∧ (N.put k b).mat = N.mat ∧ (N.put k b).role = N.role ∧ (N.put k b).votes = N.votes := by
 unfold Nd.put
 split
 ·exact ⟨rfl, rfl, rfl, rfl, rfl, rfl, rfl, rfl, rfl⟩
 ·exact ⟨rfl, rfl, rfl, rfl, rfl, rfl, rfl, rfl, rfl⟩
theorem Nd.pushE_same (N : Nd) (k : Nat) (b : List Nat) : (N.pushE k b).id = N.id ∧ (N.pushE k b).bt = N.bt ∧ (N.pushE k b).sm = N.sm ∧ (N.pushE k b).L = N.L ++ [(N.bt, (k : Int), bi b)] ∧ (N.pushE k b).commit = N.commit ∧ (N.pushE k b).next = N.next ∧ (N.pushE k b).role = N.role ∧
  ((N.pushE k b).mat = N.mat ∨ (N.pushE k b).mat = upd N.mat N.id (some (N.L.length + 1 : Nat))) := by
 obtain ⟨h1, h2, h3, h4, h5, h6, h7, h8, _⟩ := Nd.put_same ({ N with L := N.L ++ [(N.bt, (k : Int), bi b)] } : Nd) (1000 + (N.L.length + 1 : Nat)) (ebytes N.bt.toNat k b); unfold Nd.pushE; simp only []
 split
 ·exact ⟨h1, h2, h3, h4, h5, h6, h8, Or.inl h7⟩
 ·exact ⟨h1, h2, h3, h4, h5, h6, h8, Or.inr (by rw [h7, h1])⟩
theorem Solo.push {N : Nd} (h : Solo N) {k : Nat} {b : List Nat} (hk : k ≠ 2 ∧ k < 100) (hb : b.length ≤ 50000) (hl : N.L.length ≤ 900) : Solo (N.pushE k b) := by
 obtain ⟨h1, h2, h3, h4, h5, h6, h7, _⟩ := N.pushE_same k b
 refine ⟨by rw [h3, h1]; exact h.sm, by rw [h1]; exact h.id, fun c hc => ?_, by rw [h4, List.length_append, List.length_singleton]; omega, by rw [h1, h6]; exact h.nx, by rw [h2]; exact h.bt, by rw [h5]; exact h.com⟩
 rw [h4] at hc
 rcases List.mem_append.1 hc with hc | hc
 ·exact h.L c hc
 ·rw [List.mem_singleton.1 hc]
  exact ⟨N.bt.toNat, k, b, by rw [show ((N.bt.toNat : Nat) : Int) = N.bt by have := h.bt; omega], by have := h.bt; omega, by omega, hk.1, hb⟩
theorem Nd.at_le (N : Nd) (hn : 1 ≤ N.L.length) : 1 ≤ N.at_ ∧ N.at_ ≤ N.L.length + 1 := by
 unfold Nd.at_; simp only []
 split <;> omega
theorem Solo.hand {N : Nd} (h : Solo N) (hn : 1 ≤ N.L.length) : Solo N.hand := by
 have := N.at_le hn; have hl := h.n
 exact ⟨h.sm, h.id, h.L, h.n, by show 0 ≤ ((upd N.next N.id (some (N.at_ : Int))) N.id).getD 0 ∧ _; rw [show N.hand.next N.hand.id = some (N.at_ : Int) from upd_same _ _ _]; simp only [Option.getD_some]; rw [upd_same]; simp only [Option.getD_some]; omega, h.bt, h.com⟩
theorem Nd.settle_same (N : Nd) : N.settle.V = N.V ∧ N.settle.id = N.id ∧ N.settle.sm = N.sm ∧ N.settle.L = N.L ∧ N.settle.bt = N.bt ∧ N.settle.next = N.next ∧ N.settle.mat = N.mat ∧ N.settle.role = N.role ∧ N.settle.dead = N.dead := by
 unfold Nd.settle
 split
 ·exact ⟨rfl, rfl, rfl, rfl, rfl, rfl, rfl, rfl, rfl⟩
 ·split
  ·exact ⟨rfl, rfl, rfl, rfl, rfl, rfl, rfl, rfl, rfl⟩
  ·exact ⟨rfl, rfl, rfl, rfl, rfl, rfl, rfl, rfl, rfl⟩
theorem Bt.nil (w : World) : Bt w none 0 [] := ⟨Rb.nil w [] 0, fun a ha => by cases ha⟩
def MatOk (N : Nd) : Prop := 0 ≤ (N.mat N.id).getD 0 ∧ (N.mat N.id).getD 0 ≤ N.L.length
theorem MatOk.push {N : Nd} (h : MatOk N) (k : Nat) (b : List Nat) : MatOk (N.pushE k b) := by
 obtain ⟨h1, h2, h3, h4, h5, h6, h7, h8⟩ := N.pushE_same k b; unfold MatOk at h ⊢; rw [h1, h4, List.length_append, List.length_singleton]
 rcases h8 with h8 | h8
 ·rw [h8]; omega
 ·rw [h8, upd_same, Option.getD_some]; omega
section
variable {w w' : World} {nb : Nat} {p : Pl} {Fl Fv : List Nat} {N : Nd}
theorem NP.remap (h : NP w nb p Fl Fv N) {b1 b2 : Nat} (hc : Chg [nb] w w') {role leader beats : Int} {f1 f2 : Int → Option Int} (i1 : IM w' b1 (cnt16 f1) f1) (i2 : IM w' b2 (cnt16 f2) f2) (hne : b1 ≠ b2) (h1 : w.heap.size ≤ b1) (h2 : w.heap.size ≤ b2)
  (hb : Blk w' nb 111 (Nd.cells { N with role := role, leader := leader, beats := beats, next := f1, mat := f2 } { p with nx := b1, mx := b2 })) :
  NP w' nb { p with nx := b1, mx := b2 } Fl Fv { N with role := role, leader := leader, beats := beats, next := f1, mat := f2 } := by
 have hh : HardL w [nb] := HardL.cons (h.blk.hard (by decide) (by decide)) (fun g hg => by cases hg); have hs := h.sep.e; simp only [List.mem_cons, List.mem_append, not_or] at hs
 have hlt : ∀ x ∈ Fl ++ Fv, x < w.heap.size := fun x hx => (List.mem_append.1 hx).elim (h.log.lt x) (fun hx => (h.vlt.hard x hx).lt)
 have hnb := h.blk.lt
 refine ⟨hb, h.vlt.chg hc (fun x hx hy => hs.2.2.2 (List.mem_singleton.1 hy ▸ hx)) hh.nob, h.log.keep hc (fun x hx hy => hs.2.2.1 (List.mem_singleton.1 hy ▸ hx)) (fun x hx => (hh x hx).notByte), h.sm.chg hc hh, h.vo.chg hc hh, i1, i2, ⟨hne, fun hx => by have := hlt _ hx; simp only [] at this; omega, fun hx => by have := hlt _ hx; simp only [] at this; omega, h.sep.d, ?_⟩⟩
 simp only [List.mem_cons, List.mem_append, not_or]
 exact ⟨by omega, by omega, hs.2.2.1, hs.2.2.2⟩
theorem ncount_calls (h : NP w nb p Fl Fv N) (hs : Solo N) (hl : N.L.length ≤ 900) (hr : N.role = 1) (hvo : N.votes = [N.id]) {g : Nat} (hV : VltOk N.V g) (hg : g < 2 ^ 60) :
  Calls Tryz.prog 99 #[.pointer (some ⟨nb, 0, none⟩)] w fun e w' => e = .returned (.tuple #[]) ∧ NodeT w w' nb (ft nb p Fl Fv) N.lead ∧ VltOk N.lead.V (g + 1) := by
 have HM := hide (hs.mem h); have H := hd7 h hs hl hr hvo hV hg; clear h hs hl hr hvo hV hg
 go_enter Tryz.func99, Tryz.ntmps99
 go_wp2_with fail
 with_reducible refine HM.out.mono ?_
 rintro e w1 ⟨rfl, hb1⟩; have h1 := H.out.1.below hb1
 have y13 : w1.cell? ⟨nb, 13, none⟩ = some (.int .i64 1) := by have := h1.blk.cell 13; simp only [Nd.cells, List.getElem?_cons_succ, List.getElem?_cons_zero, H.out.2.2.2.1] at this; exact this
 have y17 : w1.cell? ⟨nb, 17, none⟩ = some (.slice p.Av 1 p.cv) := by have := h1.blk.cell 17; simp only [Nd.cells, List.getElem?_cons_succ, List.getElem?_cons_zero, H.out.2.2.2.2.1] at this; exact this
 have hwo := qwon_calls (no := []) h1.sm.sl h1.vo.sl; rw [H.out.2.2.2.2.1, H.out.2.1.sm] at hwo; have hwt : decide (wonP [N.id] [N.id]) = true := decide_eq_true ⟨rightP_one H.out.2.1.id, by simp⟩; rw [hwt, show [N.id].length = 1 from rfl] at hwo; have HWO := hide hwo; have H1 := hd2 h1 hb1; clear h1 hb1 hwo hwt HM; go_wp2_with fail
 with_reducible refine HWO.out.mono ?_
 rintro e w2 ⟨rfl, hb2⟩; have h2 := H1.out.1.below hb2; have hb02 := belowA hb2 H1.out.2; have y0 : w2.cell? ⟨nb, 0, none⟩ = some (.int .i64 N.id) := h2.blk.cell 0; have q13 := h2.blk.cell 13; have q14 := h2.blk.cell 14; have q16 := h2.blk.cell 16; have q18 := h2.blk.cell 18; have q19 := h2.blk.cell 19; have f13 := h2.blk.frozen 13; have f14 := h2.blk.frozen 14; have f16 := h2.blk.frozen 16; have f18 := h2.blk.frozen 18; have f19 := h2.blk.frozen 19; simp only [Nd.cells, List.getElem?_cons_succ, List.getElem?_cons_zero] at q13 q14 q16 q18 q19; have hmm := @run_makeMap Tryz.prog; have HB2 := hd2 h2 hb02; have hlt := h2.blk.lt; clear h2 hb02 hb2 HWO y13 y17 H1; go_wp2_with fail; obtain ⟨wS, hwS⟩ : ∃ wS, (((((w2.setCell ⟨nb, 13, none⟩ (.int .i64 2)).setCell ⟨nb, 14, none⟩ (.int .i64 N.id)).setCell ⟨nb, 16, none⟩ (.int .i64 0)).setCell ⟨nb, 18, none⟩ (.map (some w2.heap.size))).setCell ⟨nb, 19, none⟩ (.map (some (w2.heap.size + 1)))) = wS := ⟨_, rfl⟩
 have hsz : wS.heap.size = w2.heap.size := by rw [← hwS]; simp
 have bS := ((((HB2.out.1.blk.set 13 (.int .i64 2)).set 14 (.int .i64 N.id)).set 16 (.int .i64 0)).set 18 (.map (some w2.heap.size))).set 19 (.map (some (w2.heap.size + 1)))
 have cS : Chg [nb] w2 wS := by rw [← hwS]; exact (((((Chg.refl [nb] w2).setCell (p := ⟨nb, 13, none⟩) (Or.inl (by simp)) _).setCell (p := ⟨nb, 14, none⟩) (Or.inl (by simp)) _).setCell (p := ⟨nb, 16, none⟩) (Or.inl (by simp)) _).setCell (p := ⟨nb, 18, none⟩) (Or.inl (by simp)) _).setCell (p := ⟨nb, 19, none⟩) (Or.inl (by simp)) _
 rw [hwS] at bS; have i1 := IM.made wS; have i2 := IM.made (wS.alloc (.map #[] 0))
 have hsz2 : (wS.alloc (.map #[] 0)).heap.size = w2.heap.size + 1 := by rw [← hsz]; simp
 rw [hsz] at i1; rw [hsz2] at i2; have bl2 : Below (wS.alloc (.map #[] 0)).heap.size (wS.alloc (.map #[] 0)) ((wS.alloc (.map #[] 0)).alloc (.map #[] 0)) := belowL (Below.refl _ _) _; have bl1 : Below wS.heap.size wS (wS.alloc (.map #[] 0)) := belowL (Below.refl _ _) _; obtain ⟨w3, hw3⟩ : ∃ w3, (wS.alloc (.map #[] 0)).alloc (.map #[] 0) = w3 := ⟨_, rfl⟩; have i1' := i1.chg (L := []) (Chg.of_below bl2) (by simp); rw [hw3] at i1' i2 bl2; have hbS : Below wS.heap.size wS w3 := belowA bl2 bl1; have c3 : Chg [nb] w2 w3 := cS.below hbS; have h3 := HB2.out.1.remap (b1 := w2.heap.size) (b2 := w2.heap.size + 1) c3 (role := 2) (leader := N.id) (beats := 0) (f1 := noF) (f2 := noF) (by rw [cnt16_no]; exact i1') (by rw [cnt16_no]; exact i2) (by omega) (Nat.le_refl _) (by omega) (bS.below hbS); have hl0 : ({ N with role := 2, leader := N.id, beats := 0, next := noF, mat := noF } : Nd) = N.lead0 := rfl; rw [hl0] at h3; obtain ⟨p', hp'⟩ : ∃ p', ({ p with nx := w2.heap.size, mx := w2.heap.size + 1 } : Pl) = p' := ⟨_, rfl⟩; rw [hp'] at h3
 have hfr : ∀ {Fl' Fv' : List Nat} {s : Nat}, w.heap.size ≤ s → (∀ x ∈ Fl', x ∈ Fl ∨ s ≤ x) → (∀ x ∈ Fv', x ∈ Fv ∨ s ≤ x) → ∀ x ∈ ft nb p' Fl' Fv', x ∈ ft nb p Fl Fv ∨ w.heap.size ≤ x := fun hs hl hv x hx => by
  have hsz := HB2.out.2.size
  rcases ft_mem.1 hx with h | h | h | h | h
  ·exact Or.inl (ft_mem.2 (Or.inl h))
  ·refine Or.inr ?_; rw [h, ← hp']; exact hsz
  ·refine Or.inr ?_; rw [h, ← hp']; exact Nat.le_succ_of_le hsz
  ·exact (hl x h).imp (fun h => ft_mem.2 (Or.inr (Or.inr (Or.inr (Or.inl h))))) (fun h => Nat.le_trans hs h)
  ·exact (hv x h).imp (fun h => ft_mem.2 (Or.inr (Or.inr (Or.inr (Or.inr h))))) (fun h => Nat.le_trans hs h)
 have hc03 : Chg (ft nb p Fl Fv) w w3 := (Chg.of_below HB2.out.2).trans c3 (fun z hz => Or.inl (ft_mem.2 (Or.inl (List.mem_singleton.1 hz)))); have hs0 : Solo N.lead0 := ⟨H.out.2.1.sm, H.out.2.1.id, H.out.2.1.L, H.out.2.1.n, by show 0 ≤ (noF N.id).getD 0 ∧ _; simp [Nd.lead0, noF], H.out.2.1.bt, H.out.2.1.com⟩; have hpu := npush_calls h3 (show VltOk N.lead0.V g from H.out.2.2.2.2.2.1) H.out.2.2.2.2.2.2 (by have := hs0.bt; omega) hs0.id (by have := H.out.2.2.1; show N.L.length ≤ _; omega) 0 (by omega) (Bt.nil w3) (by simp) (by simp) (Nat.zero_le _); rw [show ((0 : Nat) : Int) = 0 from rfl, List.length_nil] at hpu; have HPU := hide hpu; have H3 := hd3 hc03 hs0 @hfr; have HWS := hd2 hwS hw3; clear hwS hw3 hsz bS cS i1 i2 hsz2 bl1 bl2 i1' hbS c3 h3 hp' hfr hc03 hs0 hpu hmm y0 q13 q14 q16 q18 q19 f13 f14 f16 f18 f19
 (try rw [HWS.out.1])
 (try rw [HWS.out.2])
 with_reducible refine HPU.out.mono ?_
 rintro e w4 ⟨rfl, ⟨Fl4, Fv4, h4, hc4, hl4, hv4⟩, hok4⟩; have hsame := N.lead0.pushE_same 0 []; have hs1 := H3.out.2.1.push (k := 0) (b := []) (by omega) (by simp) (by have := H.out.2.2.1; show N.L.length ≤ _; omega); have hm1 : MatOk (N.lead0.pushE 0 []) := MatOk.push (by unfold MatOk Nd.lead0 noF; simp) _ _
 have hn1 : 1 ≤ (N.lead0.pushE 0 []).L.length := by rw [hsame.2.2.2.1, List.length_append, List.length_singleton]; omega
 obtain ⟨N1, hN1⟩ : ∃ N1, N.lead0.pushE 0 [] = N1 := ⟨_, rfl⟩; rw [hN1] at h4 hok4 hs1 hm1 hn1; have HSP := hide (nspread_calls h4 hs1 hn1); have hc04 := H3.out.1.trans hc4 (H3.out.2.2 (Nat.le_refl _) (fun x hx => Or.inl hx) (fun x hx => Or.inl hx)); have hl4' := H3.out.2.2 H3.out.1.size hl4 hv4; have H4 := hd7 hs1 hm1 hn1 hc04 hl4' hok4 hN1; clear h4 hc4 hl4 hv4 hok4 hs1 hm1 hn1 hc04 hl4' hsame hN1 HPU; go_wp2_with fail
 with_reducible refine HSP.out.mono ?_
 rintro e w5 ⟨rfl, h5, hc5⟩; have HSE := hide (nsettle_calls h5 (H4.out.1.hand H4.out.2.2.1) H4.out.2.1); have hc05 := H4.out.2.2.2.1.trans hc5 (fun z hz => H4.out.2.2.2.2.1 z (ft_mem.2 (Or.inr (Or.inl (List.mem_singleton.1 hz))))); have HC5 := hide hc05; clear h5 hc5 hc05 HSP; go_wp2_with fail
 with_reducible refine HSE.out.mono ?_
 rintro e w6 ⟨rfl, h6, hc6⟩; have hc06 := HC5.out.trans hc6 (fun z hz => H4.out.2.2.2.2.1 z (ft_mem.2 (Or.inl (List.mem_singleton.1 hz))))
 have hle : N1.hand.settle = N.lead := by unfold Nd.lead; rw [H4.out.2.2.2.2.2.2]
 have hv6 : VltOk N1.hand.settle.V (g + 1) := by rw [N1.hand.settle_same.1]; exact H4.out.2.2.2.2.2.1
 rw [hle] at h6 hv6; have HF := hd2 (NP.node h6 hc06 H4.out.2.2.2.2.1) hv6; clear h6 hc6 hc06 hle hv6 HSE; go_wp2
 go_end0
 exact ⟨rfl, HF.out⟩
end

def Nd.still (N : Nd) : Nd := { N with quiet := 0 }
def Nd.wish (N : Nd) : Nd := N.still.keepB (N.bt + 1) N.id
def Nd.cand (N : Nd) : Nd := { N with role := 1, leader := -1, votes := [N.id] }
def Nd.stand (N : Nd) : Nd := if N.wish.dead then N.wish else N.wish.cand.lead
theorem Nd.wish_same (N : Nd) : N.wish.id = N.id ∧ N.wish.bt = N.bt + 1 ∧ N.wish.sm = N.sm ∧ N.wish.L = N.L ∧ N.wish.commit = N.commit ∧ N.wish.next = N.next ∧ N.wish.mat = N.mat := by
 unfold Nd.wish Nd.keepB; rw [if_neg (by show ¬ (N.bt + 1 = N.bt ∧ _); omega)]; obtain ⟨h1, h2, h3, h4, h5, h6, h7, _⟩ := (N.still.seeB (N.bt + 1) N.id).put_same 0 (bbytes (N.bt + 1) N.id)
 exact ⟨h1, h2, h3, h4, h5, h6, h7⟩
theorem Solo.wish {N : Nd} (h : Solo N) (hb : N.bt < 2 ^ 57) : Solo N.wish := by
 obtain ⟨h1, h2, h3, h4, h5, h6, _⟩ := N.wish_same
 exact ⟨by rw [h3, h1]; exact h.sm, by rw [h1]; exact h.id, by rw [h4]; exact h.L, by rw [h4]; exact h.n, by rw [h1, h6]; exact h.nx, by rw [h2]; have := h.bt; omega, by rw [h5]; exact h.com⟩
theorem Solo.cand {N : Nd} (h : Solo N) : Solo N.cand := ⟨h.sm, h.id, h.L, h.n, h.nx, h.bt, h.com⟩
section
variable {w w' : World} {nb : Nat} {p : Pl} {Fl Fv : List Nat} {N : Nd}
theorem NP.revote (h : NP w nb p Fl Fv N) (hc : Chg [nb] w w') {A : Option Addr} {c : Nat} {vs : List Int} {role leader : Int} (it : It w' A c vs)
  (hb : Blk w' nb 111 (Nd.cells { N with role := role, leader := leader, votes := vs } { p with Av := A, cv := c })) : NP w' nb { p with Av := A, cv := c } Fl Fv { N with role := role, leader := leader, votes := vs } := by
 have hh : HardL w [nb] := HardL.cons (h.blk.hard (by decide) (by decide)) (fun g hg => by cases hg); have hs := h.sep.e; simp only [List.mem_cons, List.mem_append, not_or] at hs
 exact ⟨hb, h.vlt.chg hc (fun x hx hy => hs.2.2.2 (List.mem_singleton.1 hy ▸ hx)) hh.nob, h.log.keep hc (fun x hx hy => hs.2.2.1 (List.mem_singleton.1 hy ▸ hx)) (fun x hx => (hh x hx).notByte), h.sm.chg hc hh, it, h.nx.chg hc (fun hx => hs.1 (List.mem_singleton.1 hx).symm), h.mx.chg hc (fun hx => hs.2.1 (List.mem_singleton.1 hx).symm), h.sep⟩
theorem nstand_calls (h : NP w nb p Fl Fv N) (hs : Solo N) (hl : N.L.length ≤ 900) (hbt : N.bt < 2 ^ 57) {g : Nat} (hV : VltOk N.V g) (hg : g + 1 < 2 ^ 60) :
  Calls Tryz.prog 45 #[.pointer (some ⟨nb, 0, none⟩)] w fun e w' => e = .returned (.tuple #[]) ∧ NodeT w w' nb (ft nb p Fl Fv) N.stand ∧ VltOk N.stand.V (g + 2) := by
 obtain ⟨R, hR⟩ : ∃ R, N.stand = R := ⟨_, rfl⟩; rw [hR]; unfold Nd.stand at hR; have HM := hide (hs.mem h); have H := hd6 h hs hl hbt hV hg; clear h hs hl hbt hV hg
 go_enter Tryz.func45, Tryz.ntmps45
 go_wp2_with fail
 with_reducible refine HM.out.mono ?_
 rintro e w1 ⟨rfl, hb1⟩; have h1 := H.out.1.below hb1; have q15 := h1.blk.cell 15; have f15 := h1.blk.frozen 15; simp only [Nd.cells, List.getElem?_cons_succ, List.getElem?_cons_zero] at q15; obtain ⟨w2, hw2⟩ : ∃ w2, w1.setCell ⟨nb, 15, none⟩ (.int .i64 0) = w2 := ⟨_, rfl⟩
 have c2 : Chg [nb] w1 w2 := by rw [← hw2]; exact (Chg.refl [nb] w1).setCell (p := ⟨nb, 15, none⟩) (Or.inl (by simp)) _
 have b2 := h1.blk.set 15 (.int .i64 0); rw [hw2] at b2; have h2 := h1.own c2 (dead := N.dead) (bt := N.bt) (bv := N.bv) (commit := N.commit) (told := N.told) (role := N.role) (leader := N.leader) (quiet := 0) (beats := N.beats) b2; rw [show ({ N with quiet := 0 } : Nd) = N.still from rfl] at h2; have hc02 : Chg (nb :: Fv) w w2 := (Chg.of_below hb1).trans c2 (fun z hz => Or.inl (by rw [List.mem_singleton.1 hz]; simp)); have r2 := Below.refl w2.heap.size w2; have HW2 := hide hw2; have y0 := h2.blk.rule 0 _ rfl; have y3 := h2.blk.rule 3 _ rfl; have y4 := h2.blk.rule 4 _ rfl; rw [show N.still.id = N.id from rfl] at y0; rw [show N.still.bt = N.bt from rfl] at y3; rw [show N.still.bv = N.bv from rfl] at y4
 have HCN : Hid (∀ w', Below w2.heap.size w2 w' → Calls Tryz.prog 94 #[.slice p.Am 1 p.cm, .int .i64 N.id] w' fun e w'' => e = .returned (.bool true) ∧ ∃ q, w'' = w'.drewN q) := hide (fun w' hb => by
  have h9 := contains_calls p.Am 1 p.cm [N.id] N.id w' rfl (by omega) (by have := (h2.below hb).sm.sl.rd; rw [show N.still.sm = N.sm from rfl, H.out.2.1.sm] at this; exact this); rw [show ([N.id].contains N.id) = true by simp] at h9
  exact h9)
 have HBT := hide (show 0 ≤ N.bt ∧ N.bt < 2 ^ 60 by have := H.out.2.1.bt; omega); obtain ⟨dd, hdd⟩ : ∃ dd, N.wish.dead = dd := ⟨_, rfl⟩
 have HKE : Hid (∀ w', Below w2.heap.size w2 w' → Calls Tryz.prog 95 #[.pointer (some ⟨nb, 0, none⟩), .agg #[.int .i64 (N.bt + 1), .int .i64 N.id]] w' fun e w'' => e = .returned (.bool (!dd)) ∧ PutT w' w'' nb p Fl Fv N.wish ∧ VltOk N.wish.V (g + 1)) := hide (fun w' hb => by
  have h9 := nkeep_calls (h2.below hb) (show VltOk N.still.V g from H.out.2.2.2.2.1) (by have := H.out.2.2.2.2.2; omega) (N.bt + 1) N.id (by have := H.out.2.1.bt; omega) (by have := H.out.2.1.id; omega); rw [show N.still.keepB (N.bt + 1) N.id = N.wish from rfl, hdd] at h9
  exact h9)
 have HC2 := hide hc02; have HDD := hide hdd; rw [hdd] at hR; clear h1 hb1 c2 b2 h2 hw2 hc02 hdd HM
 go_upto_region 2 with fail
 (try rw [HW2.out])
 clear q15 f15
 refine region_lx (fun w' => Below w2.heap.size w2 w') [18] [2, 2, 2, 2, 0, 1, 2, 2, 2, 2, 2, 2, 0, 2, 2, 2, 0, 1, 3, 2, 2] (by (first | exact r2.drew | exact hbc | exact hbd')) (fun hS0 => ?_)
 (iterate 5 (first | refine lxt ?_ | refine lxp ?_))
 (refine lxe ?_; go_simp; (first | (go_at_call 94; with_reducible refine (HCN.out _ r2.drew).mono ?_; rintro e wc ⟨rfl, qc, rfl⟩; have hbc := below_drewN r2.drew qc) | (go_at_call 96; with_reducible refine (bstand_calls _ _ _ HBT.out).mono ?_; rintro e wd ⟨rfl, hbd⟩; have hbd' : Below w2.heap.size w2 wd := belowA hbd (below_drewN r2 _)) | (go_at_call 95; with_reducible refine (HKE.out _ hbd').mono ?_; rintro e w5 ⟨rfl, hpt, hok5⟩)); refine lxB (by (first | exact r2.drew | exact hbc | exact hbd')) (fun hS1 => ?_))
 (iterate 11 (first | refine lxt ?_ | refine lxp ?_ | refine lxs ?_ | refine lxk ?_))
 first | (refine lxe ?_; go_simp; (first | (go_at_call 94; with_reducible refine (HCN.out _ r2.drew).mono ?_; rintro e wc ⟨rfl, qc, rfl⟩; have hbc := below_drewN r2.drew qc) | (go_at_call 96; with_reducible refine (bstand_calls _ _ _ HBT.out).mono ?_; rintro e wd ⟨rfl, hbd⟩; have hbd' : Below w2.heap.size w2 wd := belowA hbd (below_drewN r2 _)) | (go_at_call 95; with_reducible refine (HKE.out _ hbd').mono ?_; rintro e w5 ⟨rfl, hpt, hok5⟩)); refine lxB (by (first | exact r2.drew | exact hbc | exact hbd')) (fun hS1 => ?_)) | (refine lxK (by rfl) (by assumption) ?_; simp only [Act.put, List.setIfInBounds_toArray, List.set_cons_zero, List.set_cons_succ])
 first | (refine lxn ?_; go_simp; (first | (go_at_call 94; with_reducible refine (HCN.out _ r2.drew).mono ?_; rintro e wc ⟨rfl, qc, rfl⟩; have hbc := below_drewN r2.drew qc) | (go_at_call 96; with_reducible refine (bstand_calls _ _ _ HBT.out).mono ?_; rintro e wd ⟨rfl, hbd⟩; have hbd' : Below w2.heap.size w2 wd := belowA hbd (below_drewN r2 _)) | (go_at_call 95; with_reducible refine (HKE.out _ hbd').mono ?_; rintro e w5 ⟨rfl, hpt, hok5⟩))) | (refine lexg_effskipN (by rfl) ?_; simp only [Act.put, List.setIfInBounds_toArray, List.set_cons_zero, List.set_cons_succ])
 (iterate 2 (first | refine lxp ?_ | refine lxk ?_))
 refine lxN ?_
 have hpt5 := PutT.step (HC2.out.below hbd') (fun x hx => Or.inl hx) hpt; have HPT := hd2 hpt5 hok5; clear hpt hpt5 hok5 hbd hbd' hS0 hS1 hbc y0 y3 y4 HKE HCN
 cases dd with
 |true =>
  rw [if_pos rfl] at hR; subst hR; go_wp2
  refine bodyPost_ret (results_none rfl _ _ _) rfl ?_
  exact ⟨rfl, HPT.out.1.nodeP.node, HPT.out.2.up (by omega)⟩
 |false =>
  rw [if_neg (by simp)] at hR; obtain ⟨⟨Fv5, h5, hc5, hF5⟩, hok5⟩ := HPT.out; obtain ⟨e1, e2, e3, e4, e5, e6, e7⟩ := N.wish_same; have hs5 := H.out.2.1.wish H.out.2.2.2.1; obtain ⟨N5, hN5⟩ : ∃ N5, N.wish = N5 := ⟨_, rfl⟩; rw [hN5] at h5 hok5 e1 e2 e3 e4 e5 e6 e7 hs5 hR; have q0 := h5.blk.cell 0; have q13 := h5.blk.cell 13; have q14 := h5.blk.cell 14; have q17 := h5.blk.cell 17; have f13 := h5.blk.frozen 13; have f14 := h5.blk.frozen 14; have f17 := h5.blk.frozen 17; have q9 := h5.blk.cell 9; simp only [Nd.cells, List.getElem?_cons_succ, List.getElem?_cons_zero] at q0 q13 q14 q17 q9; rw [e1] at q0; have hlt5 := h5.blk.lt; obtain ⟨wS, hwS⟩ : ∃ wS, ((w5.setCell ⟨nb, 13, none⟩ (.int .i64 1)).setCell ⟨nb, 14, none⟩ (.int .i64 (-1))).setCell ⟨nb, 17, none⟩ (.slice (some ⟨w5.heap.size, 0, none⟩) 1 1) = wS := ⟨_, rfl⟩
  have hsz : wS.heap.size = w5.heap.size := by rw [← hwS]; simp
  have bS := ((h5.blk.set 13 (.int .i64 1)).set 14 (.int .i64 (-1))).set 17 (.slice (some ⟨w5.heap.size, 0, none⟩) 1 1)
  have cS : Chg [nb] w5 wS := by rw [← hwS]; exact (((Chg.refl [nb] w5).setCell (p := ⟨nb, 13, none⟩) (Or.inl (by simp)) _).setCell (p := ⟨nb, 14, none⟩) (Or.inl (by simp)) _).setCell (p := ⟨nb, 17, none⟩) (Or.inl (by simp)) _
  rw [hwS] at bS; obtain ⟨w6, hw6⟩ : ∃ w6, wS.alloc (.cells #[.int .i64 N.id] 3) = w6 := ⟨_, rfl⟩
  have hb6 : Below wS.heap.size wS w6 := hw6 ▸ belowL (Below.refl _ _) _
  have it6 : It w6 (some ⟨w5.heap.size, 0, none⟩) 1 [N.id] := by
   have ho := own_built wS 3 #[.int .i64 N.id] 1 1 rfl (by unfold maxLen; omega); rw [hsz, hw6] at ho
   exact OwnI.it (w0 := w5) (l := [N.id]) ⟨ho, fun g hg => by cases hg; exact Nat.le_refl _⟩ (by simp)
  have h6 := h5.revote (cS.below hb6) (role := 1) (leader := -1) it6 (by
   have := bS.below hb6
   exact this)
  have hcd : ({ N5 with role := 1, leader := -1, votes := [N.id] } : Nd) = N5.cand := by unfold Nd.cand; rw [e1]
  rw [hcd] at h6; obtain ⟨p6, hp6⟩ : ∃ p6, ({ p with Av := some ⟨w5.heap.size, 0, none⟩, cv := 1 } : Pl) = p6 := ⟨_, rfl⟩; rw [hp6] at h6
  have hft : ∀ Fl' Fv', ft nb p6 Fl' Fv' = ft nb p Fl' Fv' := fun Fl' Fv' => by rw [← hp6]; rfl
  have hcF : Chg (ft nb p Fl Fv) w w6 := ((hc5.mono (fun z hz => Or.inl (ft_mem.2 ((List.mem_cons.1 hz).imp id (fun h => Or.inr (Or.inr (Or.inr h))))))).trans cS (fun z hz => Or.inl (ft_mem.2 (Or.inl (List.mem_singleton.1 hz))))).below hb6
  have y9 : w6.cell? ⟨nb, 9, none⟩ = some (.pointer (some ⟨p.lb, 0, none⟩)) := by have := h6.blk.cell 9; rw [← hp6] at this; exact this
  have hla := lg_last0 h6.log (by have := hs5.n; show N5.L.length ≤ _; omega); rw [show p6.lb = p.lb by rw [← hp6]] at hla; have HLA := hide hla
  have hp6a : p6.Am = p.Am ∧ p6.cm = p.cm := by rw [← hp6]; exact ⟨rfl, rfl⟩
  have HP6 := hide hp6a; have HW6 := hd2 hwS hw6; have H6 := hd6 h6 hs5.cand hcF hok5 hF5 hft; have HE := hd2 e1 e4; clear h5 hc5 hF5 hok5 e1 e2 e3 e4 e5 e6 e7 hs5 hsz bS cS hb6 it6 h6 hcd hp6 hft hcF hla hwS hw6 hN5 hp6a; go_wp2_with fail
  (try rw [HW6.out.1])
  (try rw [HW6.out.2])
  with_reducible refine HLA.out.mono ?_
  rintro e w7 ⟨rfl, q7, rfl⟩; have hb7 := below_drewN (Below.refl w6.heap.size w6) q7; obtain ⟨b, o, hAm, hc0⟩ := H6.out.2.1.one (H6.out.1.below hb7); rw [HP6.out.1] at hAm; rw [show N5.cand.id = N5.id from rfl, HE.out.1] at hc0; rw [hAm]; have H7 := hd2 hb7 hc0; obtain ⟨w7, hw7⟩ : ∃ w7, w6.drewN q7 = w7 := ⟨_, rfl⟩; rw [hw7] at H7; rw [hw7]; clear hb7 hc0 hw7 y9 q0 q13 q14 q17 q9 f13 f14 f17 HLA; obtain ⟨la, hla⟩ : ∃ la : Int, ((N5.cand.L.length : Nat) : Int) = la := ⟨_, rfl⟩; obtain ⟨lt, hlt⟩ : ∃ lt : Int, (N5.cand.L.getLast?.map (·.1)).getD 0 = lt := ⟨_, rfl⟩; rw [hla, hlt]; clear hla hlt; go_wp2
  go_loopw [7, 61, 62, 63, 64, 65, 66, 67, 68, 69, 70, 71, 72, 73, 74, 75, 76, 77] (fun _ iv _ _ _ _ _ _ _ _ _ _ _ _ _ _ _ _ wr => ∃ (k : Nat), k ≤ 1 ∧ iv = .int .i64 k ∧ Hid (Below w6.heap.size w6 wr ∧ wr.cell? ⟨b, o + 0, none⟩ = some (.int .i64 N.id))) (fun _ iv _ _ _ _ _ _ _ _ _ _ _ _ _ _ _ _ _ => 1 - (Go.RowKit.intOf iv).toNat)
  case atStart => exact ⟨0, Nat.zero_le _, rfl, hide H7.out⟩
  case round =>
   obtain ⟨k, hk, rfl, hB⟩ := hrel; have hr := H6.out.1.below hB.out.1
   by_cases hlt : k < 1
   ·have i1 : (k : Int) < 1 := by omega
    have hc' : wr.cell? ⟨b, o + k, none⟩ = some (.int .i64 N.id) := by rw [show k = 0 by omega]; exact hB.out.2
    have y3 : wr.cell? ⟨nb, 3, none⟩ = some (.int .i64 N5.bt) := hr.blk.cell 3; have hbN := belowL (Below.refl wr.heap.size wr) (.cells #[.int .i64 N5.bt, .int .i64 la, .int .i64 lt] 3); have hse := nsend_calls (hr.below hbN) 1 (some ⟨wr.heap.size, 0, none⟩) none none 3 0 0 3 0 0; rw [show N5.cand.id = N5.id from rfl, HE.out.1] at hse; have HSE := hide hse; have HBN := hide hbN; have HAL := hide (H6.out.2.1.one hr); clear hr hse hbN; go_wp2_with fail
    with_reducible refine HSE.out.mono ?_
    rintro e w8 ⟨rfl, hb8⟩; have hb68 := belowA hb8 HBN.out
    have hcell : w8.cell? ⟨b, o + 0, none⟩ = some (.int .i64 N.id) := by
     obtain ⟨b', o', h1, h2⟩ := H6.out.2.1.one ((H6.out.1.below hB.out.1).below hb68); rw [HP6.out.1, hAm] at h1
     cases h1
     rw [show N5.cand.id = N5.id from rfl, HE.out.1] at h2
     exact h2
    have H8 := hd2 (belowA hb68 hB.out.1) hcell; clear hb8 hb68 hcell HSE y3 hc'; go_wp2
    go_roundw
    case rel => exact ⟨k + 1, by omega, by go_num, hide H8.out⟩
    case measure => simp [Go.RowKit.intOf]; omega
   ·have i1 : ¬ (k : Int) < 1 := by omega
    have HCO := hide (ncount_calls hr H6.out.2.1 (by have := H.out.2.2.1; show N5.L.length ≤ _; rw [HE.out.2]; omega) rfl rfl H6.out.2.2.2.1 (by have := H.out.2.2.2.2.2; omega)); clear hr; go_wp2_with fail
    with_reducible refine HCO.out.mono ?_
    rintro e w9 ⟨rfl, hn9, hok9⟩; have hcr := H6.out.2.2.1.below hB.out.1; rw [H6.out.2.2.2.2.2] at hn9; have HF := hd2 (NodeT.step hcr (ft_step (fun x hx => Or.inl hx) (fun x hx => H6.out.2.2.2.2.1 x hx)) hn9) hok9; have HR := hide hR; clear hn9 hok9 hcr HCO hR; go_wp2
    go_end0
    obtain rfl := HR.out
    exact ⟨rfl, HF.out⟩
end
end Go.Proofs.YtcahcjfgmdpdoaaGreat
