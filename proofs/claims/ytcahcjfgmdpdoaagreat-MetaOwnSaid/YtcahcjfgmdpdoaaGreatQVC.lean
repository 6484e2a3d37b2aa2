/- One text of: Vma Vmb Vmc Vmd. -/
import Derived.Test.YtcahcjfgmdpdoaaGreatDels
import Derived.Sort.OwnSortedInts
import Derived.Test.YtcahcjfgmdpdoaaGreatQVB
import Derived.Test.YtcahcjfgmdpdoaaGreatQVO
set_option maxHeartbeats 8000000
set_option maxRecDepth 100000
namespace Go.Proofs.YtcahcjfgmdpdoaaGreat
open Go.RowKit Go.Proofs Go.Maps
set_option linter.unusedVariables false
set_option linter.unusedSimpArgs false

section
variable {w w' : World} {no L : List Nat} {b m1 m2 m3 : Nat} {S : Vst} {V : List VoM} {C : List CkM}
theorem VM.other (h : VM w no b m1 m2 m3 S V C) (hc : Chg L w w') (hL : ∀ x ∈ L, (x ∈ no ∨ w.heap.size ≤ x) ∧ x ≠ b ∧ x ≠ m1 ∧ x ≠ m2 ∧ x ≠ m3) : VM w' no b m1 m2 m3 S V C :=
 ⟨h.blk.chg hc (fun hx => (hL _ hx).2.1 rfl), h.t1.chg hc (fun hx => (hL _ hx).2.2.1 rfl), h.t2.chg hc (fun hx => (hL _ hx).2.2.2.1 rfl), h.t3.chg hc (fun hx => (hL _ hx).2.2.2.2 rfl), h.eV, h.eC,
  fun x hx => (h.sV x hx).chg hc (fun z hz => (hL z hz).1), fun x hx => ⟨(h.sC x hx).1.chg hc (fun z hz => (hL z hz).1), (h.sC x hx).2.chg hc (fun z hz => (hL z hz).1)⟩,
  h.ib, h.i1, h.i2, h.i3, fun x hx => Nat.lt_of_lt_of_le (h.lt x hx) hc.size, h.ne⟩
theorem VM.grow (h : VM w no b m1 m2 m3 S V C) (hc : Chg L w w') (hL : ∀ x ∈ L, (x ∈ no ∨ w.heap.size ≤ x) ∧ x ≠ b ∧ x ≠ m1 ∧ x ≠ m2 ∧ x ≠ m3) {G : List Nat} (hg : ∀ g ∈ G, (g ∈ no ∨ w.heap.size ≤ g) ∧ g < w'.heap.size) : VM w' (G ++ no) b m1 m2 m3 S V C := by
 have hp : ∀ x ∈ G ++ no, x ∈ no ∨ w.heap.size ≤ x := fun x hx => by
  rcases List.mem_append.1 hx with hx | hx
  ·exact (hg x hx).1
  ·exact Or.inl hx
 have hq : ∀ z ∈ L, z ∈ G ++ no ∨ w.heap.size ≤ z := fun z hz => (hL z hz).1.imp (List.mem_append_right _) id
 exact ⟨h.blk.chg hc (fun hx => (hL _ hx).2.1 rfl), h.t1.chg hc (fun hx => (hL _ hx).2.2.1 rfl), h.t2.chg hc (fun hx => (hL _ hx).2.2.2.1 rfl), h.t3.chg hc (fun hx => (hL _ hx).2.2.2.2 rfl), h.eV, h.eC,
  fun x hx => ((h.sV x hx).plus hp).chg hc hq, fun x hx => ⟨((h.sC x hx).1.plus hp).chg hc hq, ((h.sC x hx).2.plus hp).chg hc hq⟩,
  List.mem_append_right _ h.ib, List.mem_append_right _ h.i1, List.mem_append_right _ h.i2, List.mem_append_right _ h.i3, fun x hx => by
   rcases List.mem_append.1 hx with hx | hx
   ·exact (hg x hx).2
   ·exact Nat.lt_of_lt_of_le (h.lt x hx) hc.size, h.ne⟩
theorem ins_le {α : Type} {key : α → Int} {L : List α} (h : Rise key L) (x : α) : (ins key x L).length ≤ L.length + 1 := by
 rw [ins_length h]
 split <;> omega
end
theorem lack_le (bl : Int) (ch : List Int) (h : bl ≤ 512) : lack bl ch ≤ 64 := by unfold lack; omega
structure GrowSt (w : World) (no : List Nat) (b m1 m2 m3 : Nat) (S0 : Vst) (V : List VoM) (v : Vo) (cp : Nat) (wr : World) (F : List Nat) (S : Vst) (C : List CkM) (ch : List Int) (A : Option Addr) (c rem : Nat) : Prop where
 vm : VM wr F b m1 m2 m3 S V C
 sv : S.sv = S0.sv
 vs : S.vs = S0.vs
 nx : S.nx + rem = S0.nx + lack v.bl v.ch
 len : ch.length + rem = ((v.bl + 7) / 8).toNat
 cl : S.cs.length + rem ≤ 100064
 run : growN rem S v.id ch cp = growN (lack v.bl v.ch) S0 v.id v.ch cp
 blk : Blk wr w.heap.size 46 [.int .i64 v.id, .int .i64 v.bl, .int .i64 v.p.r, .int .i64 v.p.w, .int .i64 v.p.l, .int .i64 v.p.b, .int .i64 v.ver, .slice A ch.length c]
 own : wr.ownsRow 0 3 1 (.slice A ch.length c) ch.length (ch.map (Value.int .i64))
 fresh : ∀ g, A.map Addr.block = some g → w.heap.size + 1 ≤ g ∧ g ∈ F
 up : ∀ x ∈ no, x ∈ F
 dn : ∀ x ∈ F, x ∈ no ∨ w.heap.size ≤ x
 iv : w.heap.size ∈ F
 chg : Chg [b, m3] w wr
theorem GrowSt.below {w : World} {no : List Nat} {b m1 m2 m3 : Nat} {S0 : Vst} {V : List VoM} {v : Vo} {cp : Nat} {wr wr' : World} {F : List Nat} {S : Vst} {C : List CkM} {ch : List Int} {A : Option Addr} {c rem : Nat}
  (h : GrowSt w no b m1 m2 m3 S0 V v cp wr F S C ch A c rem) (hb : Below wr.heap.size wr wr') : GrowSt w no b m1 m2 m3 S0 V v cp wr' F S C ch A c rem :=
 ⟨h.vm.below hb, h.sv, h.vs, h.nx, h.len, h.cl, h.run, h.blk.below hb, own_chg h.own (Chg.of_below (L := []) hb) (fun _ _ hx => by cases hx), h.fresh, h.up, h.dn, h.iv, h.chg.below hb⟩
def measG (w : World) (b : Nat) (z : Int) : Nat := (z - intOf ((w.cell? ⟨b, 3, none⟩).getD (.int .i64 0))).toNat
theorem GrowSt.meas {w : World} {no : List Nat} {b m1 m2 m3 : Nat} {S0 : Vst} {V : List VoM} {v : Vo} {cp : Nat} {wr : World} {F : List Nat} {S : Vst} {C : List CkM} {ch : List Int} {A : Option Addr} {c rem : Nat}
  (h : GrowSt w no b m1 m2 m3 S0 V v cp wr F S C ch A c rem) : measG wr b (S0.nx + lack v.bl v.ch) = rem := by
 have h1 : wr.cell? ⟨b, 3, none⟩ = some (.int .i64 S.nx) := h.vm.blk.cell 3; have h2 := h.nx; unfold measG; rw [h1]; simp only [Option.getD_some, intOf]
 omega
theorem vgrow_calls (w : World) (no : List Nat) (b m1 m2 m3 : Nat) (S : Vst) (V : List VoM) (C : List CkM) (v : Vo) (A : Option Addr) (c cp : Nat) (h : VM w no b m1 m2 m3 S V C) (hs : Sl w no A c v.ch)
  (h1 : S.sv.length ≤ 1000) (h2 : S.cs.length ≤ 100000) (h3 : 1 ≤ S.nx) (h4 : S.nx ≤ 100000) (h5 : 1 ≤ v.bl) (h5' : v.bl ≤ 512) (h6 : v.ch.length ≤ ((v.bl + 7) / 8).toNat) (hcp : cp ≤ 100) (hid : i64ok v.id) (hvs : S.vs.length ≤ 100000) :
  Calls Tryz.prog 107 #[.pointer (some ⟨b, 0, none⟩), (⟨v, A, c⟩ : VoM).val, .int .i64 cp] w fun e w' => e = .returned (.tuple #[]) ∧ Chg [b, m2, m3] w w' ∧ ∃ V' C', VM w' no b m1 m2 m3 (S.grow v cp) V' C' := by
 obtain ⟨i0, hi, hz0, hz1, hz2⟩ := info_parts Tryz.infoI3; obtain ⟨id, bl, ⟨pr, pw, pl, pb⟩, ver, ch0⟩ := v; simp only [] at hs h5 h5' h6 hid; simp only [VoM.val, VoM.cells]; obtain ⟨w0, hw0⟩ : ∃ w0, w.alloc (.cells #[.int .i64 id, .int .i64 bl, .int .i64 pr, .int .i64 pw, .int .i64 pl, .int .i64 pb, .int .i64 ver, .slice A ch0.length c] 46) = w0 := ⟨_, rfl⟩
 have hb0 : Below w.heap.size w w0 := hw0 ▸ (Below.refl w.heap.size w).alloc (Nat.le_refl _) _
 have d0 : Blk w0 w.heap.size 46 [.int .i64 id, .int .i64 bl, .int .i64 pr, .int .i64 pw, .int .i64 pl, .int .i64 pb, .int .i64 ver, .slice A ch0.length c] := hw0 ▸ Blk.new rfl
 have hw0s : w0.heap.size = w.heap.size + 1 := by rw [← hw0]; simp
 have hcl := hide (cloneI_calls A ch0.length c ch0 no w0 rfl (hs.below hb0)); have k7 : w0.cell? ⟨w.heap.size, 7, none⟩ = some (.slice A ch0.length c) := d0.cell 7; have H := hide h; have HD := hide d0; have HB0 := hide hb0; clear h hs d0 hb0
 go_enter Tryz.func107, Tryz.ntmps107
 go_wp2_with fail; refine hcl.out.mono ?_; rintro e w1 ⟨A1, c1, rfl, ho, hb1⟩; have D1 := HD.out.below hb1; have k7' : w1.cell? ⟨w.heap.size, 7, none⟩ = some (.slice A ch0.length c) := D1.cell 7; have z7 : w1.frozen? ⟨w.heap.size, 7, none⟩ = false := D1.frozen 7; have H1 := H.out.below (HB0.out.trans (hb1.mono HB0.out.size)); have HB1 := hide (HB0.out.trans (hb1.mono HB0.out.size))
 have hf : ∀ g, A1.map Addr.block = some g → w.heap.size + 1 ≤ g := fun g hg => by have := ho.2 g hg; omega
 have hvb : w.heap.size < w1.heap.size := D1.lt
 have G0 : ∃ F, GrowSt w no b m1 m2 m3 S V ⟨id, bl, ⟨pr, pw, pl, pb⟩, ver, ch0⟩ cp (w1.setCell ⟨w.heap.size, 7, none⟩ (.slice A1 ch0.length c1)) F S C ch0 A1 c1 (lack bl ch0) := by
  have hlt := H.out.lt; have hb' := hlt b H.out.ib; have h1' := hlt m1 H.out.i1; have h2' := hlt m2 H.out.i2; have h3' := hlt m3 H.out.i3
  have hV1 := H.out.grow (L := []) (Chg.of_below HB1.out) (fun x hx => by cases hx) (G := w.heap.size :: (A1.map Addr.block).toList) (fun g hg => by
   rcases List.mem_cons.1 hg with rfl | hg
   ·exact ⟨Or.inr (Nat.le_refl _), hvb⟩
   ·have hg' : A1.map Addr.block = some g := by simpa using hg
    exact ⟨Or.inr (by have := hf g hg'; omega), own_lt ho.1 (by rw [owS]; exact hg')⟩)
  have hc2 : Chg [w.heap.size] w1 (w1.setCell ⟨w.heap.size, 7, none⟩ (.slice A1 ch0.length c1)) := (Chg.refl _ _).setCell (Or.inl (by simp)) _
  refine ⟨_, hV1.other hc2 (fun x hx => ?_), rfl, rfl, rfl, ?_, ?_, rfl, ?_, ?_, fun g hg => ⟨hf g hg, ?_⟩, fun x hx => List.mem_append_right _ hx, fun x hx => ?_, by simp, ?_⟩
  ·obtain rfl : x = w.heap.size := by simpa using hx
   exact ⟨Or.inl (by simp), by omega, by omega, by omega, by omega⟩
  ·simp only [lack]; omega
  ·have := lack_le bl ch0 h5'
   omega
  ·exact D1.set 7 _
  ·refine own_chg ho.1 hc2 (fun g hg => ?_)
   rw [owS] at hg; have := hf g hg
   simp
   omega
  ·simp [hg]
  ·rcases List.mem_append.1 hx with hx | hx
   ·rcases List.mem_cons.1 hx with rfl | hx
    ·exact Or.inr (Nat.le_refl _)
    ·have := hf x (by simpa using hx)
     exact Or.inr (by omega)
   ·exact Or.inl hx
  ·exact (Chg.of_below HB1.out).setCell (Or.inr (Nat.le_refl _)) _
 have HG0 := hide G0; clear hcl k7 ho D1 H1 hf hb1 G0 hw0; go_wp2_with fail
 go_loopw [6] (fun _ wr => ∃ F S' C' ch A' c' rem, GrowSt w no b m1 m2 m3 S V ⟨id, bl, ⟨pr, pw, pl, pb⟩, ver, ch0⟩ cp wr F S' C' ch A' c' rem) (fun _ wr => measG wr b (S.nx + lack bl ch0))
 case atStart =>
  obtain ⟨F, h⟩ := HG0.out
  exact ⟨F, S, C, ch0, A1, c1, _, h⟩
 case round =>
  obtain ⟨F, S', C', ch, A', c', rem, hG⟩ := hrel; have HG := hide hG; have e1 : wr.cell? ⟨w.heap.size, 1, none⟩ = some (.int .i64 bl) := hG.blk.cell 1; have e7 : wr.cell? ⟨w.heap.size, 7, none⟩ = some (.slice A' ch.length c') := hG.blk.cell 7; have HLEN : Hid (ch.length + rem = ((bl + 7) / 8).toNat) := hide hG.len; clear hG; have hbl := H.out.lt b H.out.ib; have hm3l := H.out.lt m3 H.out.i3
  by_cases hrem : rem = 0
  ·have ht : ¬ ((ch.length : Int) < (bl + 8 - 1) / 8) := by have := HLEN.out; omega
   have HREM := hide hrem; clear hrem; go_wp2_with fail; have c1' := HG.out.vm.blk.rule 1 _ rfl; have v0 : ∀ w', Below wr.heap.size wr w' → w'.cell? ⟨w.heap.size, 0, none⟩ = some (.int .i64 id) := HG.out.blk.rule 0 _ rfl; have v1 : ∀ w', Below wr.heap.size wr w' → w'.cell? ⟨w.heap.size, 1, none⟩ = some (.int .i64 bl) := HG.out.blk.rule 1 _ rfl; have v2 : ∀ w', Below wr.heap.size wr w' → w'.cell? ⟨w.heap.size, 2, none⟩ = some (.int .i64 pr) := HG.out.blk.rule 2 _ rfl; have v3 : ∀ w', Below wr.heap.size wr w' → w'.cell? ⟨w.heap.size, 3, none⟩ = some (.int .i64 pw) := HG.out.blk.rule 3 _ rfl; have v4 : ∀ w', Below wr.heap.size wr w' → w'.cell? ⟨w.heap.size, 4, none⟩ = some (.int .i64 pl) := HG.out.blk.rule 4 _ rfl; have v5 : ∀ w', Below wr.heap.size wr w' → w'.cell? ⟨w.heap.size, 5, none⟩ = some (.int .i64 pb) := HG.out.blk.rule 5 _ rfl; have v6 : ∀ w', Below wr.heap.size wr w' → w'.cell? ⟨w.heap.size, 6, none⟩ = some (.int .i64 ver) := HG.out.blk.rule 6 _ rfl; have v7 := HG.out.blk.rule 7 _ rfl; have r0 := Below.refl wr.heap.size wr
   have hVl : V.length < 1000000 := by have := congrArg List.length HG.out.vm.eV; rw [List.length_map, HG.out.vs] at this; omega
   have HV := hide hVl; clear hVl ht e1 e7
   refine region_lx (fun w' => Below wr.heap.size wr w') [7] [2, 2, 2, 0, 2, 0, 0, 3] (by (exact r0.drew)) (fun hS0 => ?_)
   (iterate 7 (first | refine lxt ?_ | refine lxp ?_))
   (refine lxn ?_; (refine Tab.wp_put (key := VoM.key) (val := VoM.val) _ _ _ (⟨⟨id, bl, ⟨pr, pw, pl, pb⟩, ver, ch⟩, A', c'⟩ : VoM) rfl Tryz.underlying73 rfl rfl rfl (HG.out.vm.below r0.drew).t2 hid HV.out ?_; intro w3 ht3 hch3); (try simp only [Act.put]))
   refine lxN ?_
   go_wp2
   go_end0
   have hvm : VM wr.drew no b m1 m2 m3 S' V C' := (HG.out.vm.more HG.out.up H.out.ib H.out.i1 H.out.i2 H.out.i3).below r0.drew; have hsl : Sl wr.drew no A' c' ch := (Sl.own (W := w) HG.out.own rfl (by have := HLEN.out; omega) (fun g hg => by have := (HG.out.fresh g hg).1; omega) H.out.lt).below r0.drew
   have hput := hvm.put2 ht3 hch3 (fun x hx => by
    rcases (mem_ins hvm.t2.rise).1 hx with rfl | ⟨hx, _⟩
    ·exact Or.inr hsl
    ·exact Or.inl hx) rfl
   have hgr : S.grow ⟨id, bl, ⟨pr, pw, pl, pb⟩, ver, ch0⟩ cp = { S' with vs := (ins VoM.key (⟨⟨id, bl, ⟨pr, pw, pl, pb⟩, ver, ch⟩, A', c'⟩ : VoM) V).map VoM.v } := by
    have hrun := HG.out.run; rw [HREM.out] at hrun; simp only [growN] at hrun; unfold Vst.grow; rw [← hrun]; have hm := ins_map VoM.v Vo.id (⟨⟨id, bl, ⟨pr, pw, pl, pb⟩, ver, ch⟩, A', c'⟩ : VoM) V; rw [HG.out.vm.eV] at hm
    exact congrArg (fun l => ({ S' with vs := l } : Vst)) hm.symm
   exact ⟨rfl, ((HG.out.chg.mono (by simp)).below r0.drew).trans hch3 (by simp), _, _, by rw [hgr]; exact hput⟩
  ·have ht : (ch.length : Int) < (bl + 8 - 1) / 8 := by have := HLEN.out; omega
   obtain ⟨rem', rfl⟩ : ∃ r, rem = r + 1 := ⟨rem - 1, by omega⟩; clear hrem; go_wp2_with fail
   refine (loads_calls wr F b m1 m2 m3 S' V C' HG.out.vm (by rw [HG.out.sv]; omega) (by have := HG.out.cl; omega)).mono ?_
   rintro e w2 ⟨A2, c2, rfl, ho2, hg2, hb2⟩
   have hLn : S'.loads.length = S.sv.length := by unfold Vst.loads; rw [List.length_map, HG.out.sv]
   obtain ⟨L, hL⟩ : ∃ L, S'.loads = L := ⟨_, rfl⟩; rw [hL] at ho2 hLn; rw [hL]; have HL := hide hL; have HLN := hide hLn
   have hms : (chosen L (min cp L.length : Nat)).length = min cp L.length := by rw [show chosen L (min cp L.length : Nat) = (((sortLd L).map Ld.id).take (min cp L.length)) from by unfold chosen; rw [Int.toNat_natCast], List.length_take, List.length_map]; unfold sortLd; rw [List.length_mergeSort]; omega
   have hch := fun w' (hb : Below wr.heap.size wr w') (ho : w'.ownsRow 0 83 2 (.slice A2 L.length c2) L.length (ldCells L)) => vchoose_calls A2 L.length c2 L (min cp L.length) wr w' ho rfl (by omega) (by omega) hg2 hb
   obtain ⟨ms, hms2⟩ : ∃ ms, chosen L (min cp L.length : Nat) = ms := ⟨_, rfl⟩; rw [hms2] at hms hch; have HMS := hide hms2; have hr0 := hb2.drew; have HCH := hide (hch w2.drew hr0 (own_chg ho2 (Chg.of_below (L := []) (Below.refl _ _).drew) (fun _ _ hx => by cases hx))); have HMN := hide hms; clear hch hms2 hL hLn ho2 hg2 hms hb2 ht e1 e7; have b2 := HG.out.vm.blk.rule 2 _ rfl; have b3 := HG.out.vm.blk.rule 3 _ rfl; have v0 : ∀ w', Below wr.heap.size wr w' → w'.cell? ⟨w.heap.size, 0, none⟩ = some (.int .i64 id) := HG.out.blk.rule 0 _ rfl; obtain ⟨mm, hmm⟩ : ∃ mm : Nat, min cp L.length = mm := ⟨_, rfl⟩
   have hmin : (if (L.length : Int) < cp then (L.length : Int) else cp) = (mm : Int) := by split <;> omega
   have hmin2 : min (cp : Int) (L.length : Int) = (mm : Int) := by omega
   have HCH2 : Hid (Calls Tryz.prog 142 #[.slice A2 L.length c2, .int .i64 (mm : Int)] w2.drew fun e w' => ∃ A' c', e = .returned (.slice A' ms.length c') ∧ OwnI wr w' A' c' ms ∧ Below wr.heap.size wr w') := hide (by rw [HMN.out, ← hmm]; exact HCH.out); have HMM := hide hmm
   have hnx : i64ok S'.nx := by have := HG.out.nx; have hq := HLEN.out; have hl := lack_le bl ch0 h5'; simp only [] at this; unfold i64ok; omega
   have hcl : C'.length < 1000000 := by have := HG.out.cl; have h7 := congrArg List.length HG.out.vm.eC; rw [List.length_map] at h7; omega
   clear HCH hmm; go_wp2_with fail
   refine region_lx (fun w' => Below wr.heap.size wr w') [21] [2, 2, 2, 0, 2, 2, 2, 0, 2, 2, 2, 0, 2, 0, 2, 2, 2, 2, 2, 1, 2, 3] (by (first | exact hr0 | assumption)) (fun hS0 => ?_)
   (iterate 19 (first | refine lxt ?_ | refine lxp ?_))
   (refine lxe ?_; go_simp; ((go_at_call 142; with_reducible refine HCH2.out.mono ?_; rintro e w3 ⟨A3, c3, rfl, ho3, hb3⟩; have HO3 := hide ho3; have HB3 := hide hb3; clear ho3)); refine lxB (by (first | exact hr0 | assumption)) (fun hS1 => ?_))
   refine lxp ?_
   (refine lxn ?_; (refine Tab.wp_put (key := CkM.key) (val := CkM.val) _ _ _ (⟨⟨S'.nx, id, 1, ms, []⟩, A3, c3, none, 0⟩ : CkM) rfl Tryz.underlying74 rfl rfl rfl (HG.out.vm.below HB3.out).t3 hnx hcl ?_; intro w4 ht4 hch4); (try simp only [Act.put]))
   refine lxN ?_
   have vm3 := HG.out.vm.below HB3.out; have slK : Sl w3 F A3 c3 ms := HO3.out.sl (by have := HMN.out; omega) HG.out.vm.lt
   have vm4 := vm3.put3 ht4 hch4 (fun x hx => by
    rcases (mem_ins vm3.t3.rise).1 hx with rfl | ⟨hx, _⟩
    ·exact Or.inr ⟨slK, Sl.nil _ _ _⟩
    ·exact Or.inl hx) rfl
   have D4 := (HG.out.blk.below HB3.out).chg hch4 (by simp; omega)
   have O4 := own_chg (own_chg HG.out.own (Chg.of_below (L := []) HB3.out) (fun _ _ hx => by cases hx)) hch4 (fun g hg => by
    rw [owS] at hg; have := (HG.out.fresh g hg).1
    simp
    omega)
   have C4 := (HG.out.chg.below HB3.out).trans hch4 (fun x hx => Or.inl (by simp at hx ⊢; exact Or.inr hx)); have b3' := vm4.blk.rule 3 _ rfl; have v7 := D4.rule 7 _ rfl; have hwr : wr.heap.size ≤ w4.heap.size := Nat.le_trans HB3.out.size hch4.size; have hwl : w.heap.size < wr.heap.size := HG.out.blk.lt; have hF := hd2 hwr hwl; have r4 := Below.refl w4.heap.size w4; have q4 := r4.drew.alloc (by simp) (.cells #[.int .i64 S'.nx] 3); have HO4 := hide (own_chg O4 (Chg.of_below (L := []) q4) (fun _ _ hx => by cases hx)); have HQ4 := hide q4; have D4' := D4.below q4; have VM4 := hide vm4; have HC4 := hide C4; have HD4 := hide D4'; have hwrap : IntKind.i64.wrap (S'.nx + 1) = S'.nx + 1 := IntWalk.i64_in _ (by have := HG.out.nx; have hq := HLEN.out; have hl := lack_le bl ch0 h5'; simp only [] at this; omega); clear vm3 slK vm4 D4 O4 C4 ht4 hch4 b2 b3 v0 hmin hmin2 hnx hcl hb3 hS0 hS1 hr0 q4 D4' hwr hwl HCH2; go_wp2_with fail
   refine region_lx (fun w' => Below w4.heap.size w4 w') [7] [2, 0, 2, 2, 2, 0, 1, 3, 2, 3] (by (first | exact r4.drew | exact HQ4.out)) (fun hS0 => ?_)
   (iterate 6 (first | refine lxt ?_ | refine lxp ?_))
   (refine lxe ?_; go_simp; refine lxB (by (first | exact r4.drew | exact HQ4.out)) (fun hS1 => ?_))
   (refine lxn ?_; (refine app_wp _ _ 28 rfl 3 i0 _ 1 8 Tryz.underlying28 hi hz0 hz1 hz2 rfl (by decide) (.slice A' ch.length c') ch.length (ch.map (Value.int .i64)) rfl HO4.out w4.heap.size 1 1 [.int .i64 S'.nx] rfl (Blk.new rfl) rfl (by intro u hu; simp at hu; subst hu; rfl) (by decide) (by have := HLEN.out; unfold maxLen; omega) (by have := HLEN.out; omega) ?_; intro g2 cap2 w5 hown5 hch5 hor5 hlt5; rw [owS] at hch5 hor5; have D5 := HD4.out.chg hch5 (fun hx => by have := (HG.out.fresh w.heap.size (by simpa using hx)).1; omega); have e7 : w5.cell? ⟨w.heap.size, 7, none⟩ = some (.slice A' ch.length c') := D5.cell 7; have f7 := D5.frozen 7); (try simp only [Act.put, List.setIfInBounds_toArray, List.set_cons_zero, List.set_cons_succ]))
   refine lxp ?_
   (refine lxn ?_; go_simp)
   refine lxN ?_
   have hfl := hF.out; have hlt := H.out.lt; have hb' := hlt b H.out.ib; have h1' := hlt m1 H.out.i1; have h2' := hlt m2 H.out.i2; have h3' := hlt m3 H.out.i3; have hch5' : Chg (A'.map Addr.block).toList (w4.drew.alloc (.cells #[.int .i64 S'.nx] 3)) w5 := hch5
   have hgA : ∀ x ∈ (A'.map Addr.block).toList, w.heap.size + 1 ≤ x ∧ x ∈ F := fun x hx => HG.out.fresh x (by simpa using hx)
   have hg2 : (g2 ∈ F ∨ (w4.drew.alloc (.cells #[.int .i64 S'.nx] 3)).heap.size ≤ g2) ∧ w.heap.size + 1 ≤ g2 := by
    rcases hor5 with h | h
    ·have := HG.out.fresh g2 h
     exact ⟨Or.inl this.2, this.1⟩
    ·simp at h
     refine ⟨Or.inr (by simp; omega), by omega⟩
   have vm5 := (VM4.out.below HQ4.out).grow hch5' (fun x hx => ⟨Or.inl (hgA x hx).2, by have := (hgA x hx).1; omega, by have := (hgA x hx).1; omega, by have := (hgA x hx).1; omega, by have := (hgA x hx).1; omega⟩) (G := [g2])
    (fun g hg => by rw [List.mem_singleton.1 hg]; exact ⟨hg2.1, hlt5⟩)
   have hc6 : Chg [w.heap.size] w5 (w5.setCell ⟨w.heap.size, 7, none⟩ (.slice (some ⟨g2, 0, none⟩) (ch.length + 1) cap2)) := (Chg.refl _ _).setCell (Or.inl (by simp)) _; have D6 := D5.set 7 (.slice (some ⟨g2, 0, none⟩) (ch.length + 1) cap2)
   have O6 := own_chg hown5 hc6 (fun g hg => by
    rw [owS] at hg
    obtain rfl : g2 = g := by simpa using hg
    simp; omega)
   have C6 : Chg [b, m3] w (w5.setCell ⟨w.heap.size, 7, none⟩ (.slice (some ⟨g2, 0, none⟩) (ch.length + 1) cap2)) :=
    ((HC4.out.below HQ4.out).trans hch5' (fun x hx => Or.inr (by have := (hgA x hx).1; omega))).setCell (Or.inr (Nat.le_refl _)) _
   have vm6 := vm5.other hc6 (fun x hx => by
    obtain rfl : x = w.heap.size := by simpa using hx
    exact ⟨Or.inl (by simp [HG.out.iv]), by omega, by omega, by omega, by omega⟩)
   obtain ⟨w6, hw6⟩ : ∃ w6, w5.setCell ⟨w.heap.size, 7, none⟩ (.slice (some ⟨g2, 0, none⟩) (ch.length + 1) cap2) = w6 := ⟨_, rfl⟩; simp only [hw6] at D6 O6 C6 vm6 ⊢; have p3 : w6.cell? ⟨b, 3, none⟩ = some (.int .i64 S'.nx) := vm6.blk.cell 3; have z3 : w6.frozen? ⟨b, 3, none⟩ = false := vm6.blk.frozen 3; have hc7 : Chg [b] w6 (w6.setCell ⟨b, 3, none⟩ (.int .i64 (S'.nx + 1))) := (Chg.refl _ _).setCell (Or.inl (by simp)) _
   have hrun : growN rem' { S' with cs := (ins CkM.key (⟨⟨S'.nx, id, 1, ms, []⟩, A3, c3, none, 0⟩ : CkM) C').map CkM.k, nx := S'.nx + 1 } id (ch ++ [S'.nx]) cp = growN (lack bl ch0) S id ch0 cp := by
    have hr := HG.out.run; simp only [growN] at hr; have hm := ins_map CkM.k Ck.id (⟨⟨S'.nx, id, 1, ms, []⟩, A3, c3, none, 0⟩ : CkM) C'; rw [HG.out.vm.eC] at hm; rw [← hr]
    have e1 : min (cp : Int) (S'.sv.length : Int) = ((min cp L.length : Nat) : Int) := by rw [HLN.out, HG.out.sv]; omega
    rw [e1, HL.out, HMS.out]
    exact congrArg (fun l => growN rem' { S' with cs := l, nx := S'.nx + 1 } id (ch ++ [S'.nx]) cp) hm
   have hclen : ((ins CkM.key (⟨⟨S'.nx, id, 1, ms, []⟩, A3, c3, none, 0⟩ : CkM) C').map CkM.k).length + rem' ≤ 100064 := by
    have := HG.out.cl; have h7 := congrArg List.length HG.out.vm.eC; rw [List.length_map] at h7 ⊢; have := ins_le HG.out.vm.t3.rise (⟨⟨S'.nx, id, 1, ms, []⟩, A3, c3, none, 0⟩ : CkM)
    omega
   have GF : GrowSt w no b m1 m2 m3 S V ⟨id, bl, ⟨pr, pw, pl, pb⟩, ver, ch0⟩ cp (w6.setCell ⟨b, 3, none⟩ (.int .i64 (S'.nx + 1))) ([g2] ++ F)
     { S' with cs := (ins CkM.key (⟨⟨S'.nx, id, 1, ms, []⟩, A3, c3, none, 0⟩ : CkM) C').map CkM.k, nx := S'.nx + 1 } (ins CkM.key (⟨⟨S'.nx, id, 1, ms, []⟩, A3, c3, none, 0⟩ : CkM) C') (ch ++ [S'.nx]) (some ⟨g2, 0, none⟩) cap2 rem' := by
    refine ⟨vm6.next (S'.nx + 1), HG.out.sv, HG.out.vs, ?_, ?_, hclen, hrun, ?_, ?_, fun g hg => ?_, fun x hx => List.mem_append_right _ (HG.out.up x hx), fun x hx => ?_, List.mem_append_right _ HG.out.iv, ?_⟩
    ·have := HG.out.nx
     simp only [] at this ⊢
     omega
    ·have := HLEN.out
     rw [List.length_append, List.length_singleton]; simp only []
     omega
    ·rw [List.length_append, List.length_singleton]
     exact D6.chg hc7 (by simp; omega)
    ·rw [List.length_append, List.length_singleton, List.map_append]
     exact own_chg O6 hc7 (fun g hg => by
      rw [owS] at hg
      obtain rfl : g2 = g := by simpa using hg
      simp; omega)
    ·obtain rfl : g2 = g := by simpa using hg
     exact ⟨hg2.2, by simp⟩
    ·rcases List.mem_append.1 hx with hx | hx
     ·rw [List.mem_singleton.1 hx]; exact Or.inr (by omega)
     ·exact HG.out.dn x hx
    ·exact C6.setCell (Or.inl (by simp)) _
   have HGF := hide GF; have HM := hide (show measG wr b (S.nx + lack bl ch0) = rem' + 1 from HG.out.meas); clear GF vm5 hc6 D6 O6 C6 vm6 hw6 hc7 hrun hclen hg2 hgA hch5' hb' h1' h2' h3' hlt hfl hor5 hch5 hown5 hlt5 D5 e7 f7 hS0 hS1 b3' v7 r4; go_wp2
   go_roundw
   case rel => exact ⟨_, _, _, _, _, _, _, HGF.out⟩
   case measure =>
    have h9 : measG (w6.setCell ⟨b, 3, none⟩ (.int .i64 (S'.nx + 1))) b (S.nx + lack bl ch0) = rem' := HGF.out.meas; rw [h9, HM.out]
    omega
end Go.Proofs.YtcahcjfgmdpdoaaGreat

namespace Go.Proofs.YtcahcjfgmdpdoaaGreat
open Go.RowKit Go.Proofs Go.Maps Go.Sort Go.Shelf
set_option linter.unusedVariables false
set_option linter.unusedSimpArgs false

structure MadeI (w w' : World) (A : Option Addr) (c : Nat) (l : List Int) : Prop where
 le : l.length ≤ c
 rd : Reads w' w'.heap.size 1 A l.length (l.map (Value.int .i64))
 ap : ∀ a, A = some a → a.spot = none ∧ w.heap.size ≤ a.block ∧ a.block < w'.heap.size
section
variable {w w0 w' w'' : World} {A : Option Addr} {c : Nat} {l : List Int} {no : List Nat}
theorem MadeI.sl (h : MadeI w w' A c l) (hl : l.length ≤ 1024) (hn : ∀ x ∈ no, x < w.heap.size) : Sl w' no A c l :=
 ⟨h.le, hl, h.rd, fun a ha => ⟨(h.ap a ha).1, fun hx => by have := hn _ hx; have := (h.ap a ha).2.1; omega, (h.ap a ha).2.2⟩⟩
theorem MadeI.below (h : MadeI w w' A c l) (hb : Below w'.heap.size w' w'') : MadeI w w'' A c l :=
 ⟨h.le, (h.rd.below hb).more hb.size, fun a ha => ⟨(h.ap a ha).1, (h.ap a ha).2.1, Nat.lt_of_lt_of_le (h.ap a ha).2.2 hb.size⟩⟩
theorem MadeI.back (h : MadeI w0 w' A c l) (hb : w.heap.size ≤ w0.heap.size) : MadeI w w' A c l :=
 ⟨h.le, h.rd, fun a ha => ⟨(h.ap a ha).1, Nat.le_trans hb (h.ap a ha).2.1, (h.ap a ha).2.2⟩⟩
theorem OwnI.made (h : OwnI w w' A c l) : MadeI w w' A c l := by
 obtain ⟨A2, c2, e, h1, h2, h3, h4, h5⟩ := own_view h.1
 cases e
 refine ⟨h1, h5 _ (fun g hg => own_lt h.1 hg), fun a ha => ?_⟩
 subst ha
 rcases h.1.2 with ⟨h6, _⟩ | ⟨g, cap, cur, e2, _⟩
 ·cases h6
 ·cases e2
  exact ⟨rfl, h.2 g rfl, own_lt h.1 rfl⟩
end
theorem putRow_chg (w : World) (g n : Nat) (d : Array Int) : Chg [g] w (putRow (Value.int .i64) (Sort.ahead w n) g 0 d) :=
 ⟨rfl, rfl, rfl, by rw [size_putRow]; exact Nat.le_refl _, fun k hk hn => by
  have hne : g ≠ k := fun e => hn (by simp [e])
  simp [putRow, mapBlock, Array.getElem?_modify, hne, Sort.ahead]⟩
theorem del_none (c : Nat) (g : Nat) (lb : Array Value) (p : Int → Bool) (w : World) (eg : ∀ args w, (callFunc g args).run Tryz.prog w = .ok (.enter g args) w) :
  Calls Tryz.prog 143 #[.slice none 0 c, .func (.func g) #[] lb] w fun e w' => e = .returned (.slice none 0 c) ∧ Below w.heap.size w w' := by
 have H := hide (indexF_calls none 0 c [] g lb p w eg rfl (Nat.zero_le _) Reads.none_ (fun x hx => by cases hx))
 go_enter Tryz.func143, Tryz.ntmps143
 go_wp2_with fail; refine H.out.mono ?_; rintro e w' ⟨⟨z, rfl, hz, hzz⟩, hb⟩
 have hz1 : z = -1 := by
  rcases hzz with h | h
  ·exact h
  ·simp at hz; omega
 subst hz1; have HB := hide hb; clear hz hzz hb; go_wp2; go_ret
 exact ⟨rfl, HB.out⟩
theorem without1_gives (x id : Int) (B : Nat) (W : World) (hc : W.cell? ⟨B, 0, none⟩ = some (.int .i64 id)) :
  FnGives Tryz.prog 144 #[.pointer (some ⟨B, 0, none⟩)] #[.int .i64 x] (.bool (x == id)) W := by
 show Calls Tryz.prog 144 #[.int .i64 x, .pointer (some ⟨B, 0, none⟩)] W _
 go_enter Tryz.func144, Tryz.ntmps144
 go_wp2; go_ret
 exact ⟨rfl, 0, rfl⟩
theorem del_calls (A : Option Addr) (c : Nat) (l : List Int) (id : Int) (B : Nat) (w0 w : World) (ho : OwnI w0 w A c l) (hB : B < w0.heap.size) (hl : l.length ≤ 1024) (hc : w.cell? ⟨B, 0, none⟩ = some (.int .i64 id)) :
  Calls Tryz.prog 143 #[.slice A l.length c, .func (.func 144) #[] #[.pointer (some ⟨B, 0, none⟩)]] w fun e w' => ∃ A' c', e = .returned (.slice A' (wout l id).length c') ∧ MadeI w0 w' A' c' (wout l id) ∧ Chg (A.map Addr.block).toList w w' := by
 have eg : ∀ args w, (callFunc 144 args).run Tryz.prog w = .ok (.enter 144 args) w := enters_of Tryz.func144 (by kernel_rfl) rfl; have hm := ho.made; obtain ⟨hrow, hg⟩ := ho
 rcases hrow.2 with ⟨h6, h0⟩ | ⟨g, cap, cur, e2, _, hgg, hn, hcc, hcs, ht⟩
 ·injection h6 with e1 e2 e3
  subst e1; subst e3; have hl0 : l = [] := List.eq_nil_of_length_eq_zero e2; subst hl0
  exact (del_none 0 _ _ (fun x => x == id) w eg).mono fun e w' ⟨he, hb⟩ => ⟨none, 0, he, ⟨Nat.le_refl _, Reads.none_, fun a ha => by cases ha⟩, (Chg.refl _ w).below hb⟩
 ·injection e2 with e1 e2 e3
  subst e1; subst e3; have hgl := hg g rfl; have hgw := heap_lt hgg
  have hH : Holds (Value.int .i64) w g 0 l.toArray := holds_of_blockI hgg (by
   simpa using ht)
  have hne : B ≠ g := by omega
  have hc1 := AnyE.slices_DeleteFunc Go.Proofs.YtcahcjfgmdpdoaaGreat.delI (Value.int .i64) (fun _ => rfl) (fun x => x == id) 144 #[.pointer (some ⟨B, 0, none⟩)] eg 0 Tryz.zeroValue3 g 0 c l.toArray w
   (fun W x hb => without1_gives x id B W ((hb.cell (p := ⟨B, 0, none⟩) (show B < w.heap.size by omega)).trans hc))
   (fun n os dk x _ => without1_gives x id B _ (by
    unfold sortWorld; rw [cell?_grow _ _ _ (by show B < (putRow _ _ _ _ _).heap.size; rw [size_putRow]; show B < w.heap.size; omega), cell?_putRow_other _ _ g 0 _ _ (Or.inl hne)]
    exact hc)) hH (by simp; omega) (by simpa using hm.le)
  have hf : (l.toArray.toList.filter fun x => !(x == id)) = wout l id := rfl; rw [hf] at hc1; have hle : (wout l id).length ≤ l.length := List.length_filter_le _ _
  refine Calls.mono hc1 fun e w' ⟨he, q, hw⟩ => ⟨some ⟨g, 0, none⟩, c, he, ⟨Nat.le_trans hle hm.le, ?_, fun a ha => ?_⟩, ?_⟩
  ·refine ⟨by simp, fun _ => ⟨g, 0, rfl, by rw [hw, size_putRow]; exact hgw, fun j u hu => ?_⟩⟩
   rw [hw]
   have hj : j < (wout l id).length := by have := (List.getElem?_eq_some_iff.1 hu).1; simpa using this
   rw [cell?_putRow (Value.int .i64) (Sort.ahead w q) g 0 l.toArray _ (by exact hH) (by simp; omega) j (by simp; omega)]; rw [List.getElem?_map, List.getElem?_eq_getElem hj] at hu; rw [← hu, getElem!_pos _ j (by simp; omega)]
   simp [List.getElem_append_left hj]
  ·cases ha
   exact ⟨rfl, hgl, by rw [hw, size_putRow]; exact hgw⟩
  ·rw [hw]
   exact putRow_chg w g q _
theorem without_calls (A : Option Addr) (c : Nat) (l : List Int) (no : List Nat) (id : Int) (w : World) (h : Sl w no A c l) :
  Calls Tryz.prog 110 #[.slice A l.length c, .int .i64 id] w fun e w' => ∃ A' c', e = .returned (.slice A' (wout l id).length c') ∧ MadeI w w' A' c' (wout l id) ∧ Below w.heap.size w w' := by
 have hb0 := (Below.refl w.heap.size w).alloc (Nat.le_refl _) (.cells #[.int .i64 id] 3); have B0 : Blk (w.alloc (.cells #[.int .i64 id] 3)) w.heap.size 3 [.int .i64 id] := Blk.new rfl; have H := hide (cloneI_calls A l.length c l no _ rfl (h.below hb0)); have HB0 := hide hb0; have HBK := hide B0; have hln := h.ln; clear h hb0 B0
 go_enter Tryz.func110, Tryz.ntmps110
 go_wp2_with fail; refine H.out.mono ?_; rintro e w1 ⟨A1, c1, rfl, ho, hb1⟩; have hD := hide (del_calls A1 c1 l id w.heap.size _ w1 ho (by simp) hln ((HBK.out.below hb1).cell 0)); have HF := hide ho.2; have HB1 := hide hb1; clear ho hb1 H; go_wp2_with fail; refine hD.out.mono ?_; rintro e w2 ⟨A2, c2, rfl, hm, hch⟩
 have hsz : (w.alloc (.cells #[.int .i64 id] 3)).heap.size = w.heap.size + 1 := by simp
 have HR : Hid (MadeI w w2 A2 c2 (wout l id) ∧ Below w.heap.size w w2) := hide ⟨hm.back (by omega), Chg.onto (HB0.out.trans (HB1.out.mono HB0.out.size)) (Nat.le_trans HB0.out.size HB1.out.size) hch (fun x hx => by have := HF.out x (by simpa using hx); omega)⟩; clear hm hch hD; go_wp2; go_ret
 exact ⟨A2, c2, rfl, HR.out.1, HR.out.2⟩
end Go.Proofs.YtcahcjfgmdpdoaaGreat

namespace Go.Proofs.YtcahcjfgmdpdoaaGreat
open Go.RowKit Go.Proofs Go.Maps
set_option linter.unusedVariables false
set_option linter.unusedSimpArgs false

structure Cmd.ok (q : Cmd) : Prop where
 k : i64ok q.k
 a : i64ok q.a
 b : i64ok q.b
 c : i64ok q.c
structure Stp (w w' : World) (no : List Nat) (b m1 m2 m3 : Nat) (R : Vst × Int) (e : Ending) : Prop where
 ret : e = .returned (.int .i64 R.2)
 chg : Chg [b, m1, m2, m3] w w'
 vm : ∃ V' C', VM w' no b m1 m2 m3 R.1 V' C'
section
variable {w w' : World} {no : List Nat} {b m1 m2 m3 : Nat} {S : Vst} {V : List VoM} {C : List CkM}
theorem VM.stay (h : VM w no b m1 m2 m3 S V C) (hb : Below w.heap.size w w') {z : Int} {e : Ending} (he : e = .returned (.int .i64 z)) : Stp w w' no b m1 m2 m3 (S, z) e :=
 ⟨he, Chg.of_below hb, V, C, h.below hb⟩
end
def errOf (r : Except Int Ck) : Int := match r with | .error n => n | .ok _ => 0
theorem vat_calls (w : World) (no : List Nat) (b m1 m2 m3 : Nat) (S : Vst) (V : List VoM) (C : List CkM) (q : Cmd) (h : VM w no b m1 m2 m3 S V C) (hq : q.ok) :
  Calls Tryz.prog 108 #[.pointer (some ⟨b, 0, none⟩), q.val] w fun e w' => ∃ y : CkM, e = .returned (.tuple #[y.val, .int .i64 (errOf (S.at_ q.a q.b))]) ∧ (∀ k, S.at_ q.a q.b = .ok k → y.k = k ∧ fd CkM.key C q.a = some y) ∧
   Sl w no y.A y.c y.k.me ∧ Sl w no y.B y.d y.k.jo ∧ Below w.heap.size w w' := by
 obtain ⟨y, l1, _, hy, hs1, hs2⟩ := h.lookC hq.a; have HSA := hide hs1; have HSB := hide hs2; obtain ⟨k0, a0, b0, c0, ⟨pr, pw, pl, pb⟩⟩ := q; simp only [] at l1 hy; have HY := hide hy; obtain ⟨⟨id, vol, ep, me, jo⟩, A, c, B, d⟩ := y; unfold CkM.val CkM.cells at l1; simp only [] at l1; obtain ⟨w0, hw0⟩ : ∃ w0, (w.alloc (.cells #[.int .i64 k0, .int .i64 a0, .int .i64 b0, .int .i64 c0, .int .i64 pr, .int .i64 pw, .int .i64 pl, .int .i64 pb] 35)).alloc (.cells #[.int .i64 0, .int .i64 0, .int .i64 0, .slice none 0 0, .slice none 0 0] 90) = w0 := ⟨_, rfl⟩
 have hb0 : Below w.heap.size w w0 := hw0 ▸ ((Below.refl w.heap.size w).alloc (Nat.le_refl _) _).alloc (by simp) _
 have d1 : Blk w0 w.heap.size 35 [.int .i64 k0, .int .i64 a0, .int .i64 b0, .int .i64 c0, .int .i64 pr, .int .i64 pw, .int .i64 pl, .int .i64 pb] := hw0 ▸ (Blk.new rfl).alloc _
 have d2 : Blk w0 (w.heap.size + 1) 90 [.int .i64 0, .int .i64 0, .int .i64 0, .slice none 0 0, .slice none 0 0] := hw0 ▸ Blk.new (by simp)
 have c2 : ∀ w', Below w0.heap.size w0 w' → w'.cell? ⟨b, 2, none⟩ = some (.map (some m3)) := fun w' hb => h.blk.rule 2 _ rfl w' (hb0.trans (hb.mono hb0.size))
 have l2 := fun w' (hb : Below w0.heap.size w0 w') => l1 w' (hb0.trans (hb.mono hb0.size))
 have x1 : ∀ w', Below w0.heap.size w0 w' → w'.cell? ⟨w.heap.size, 1, none⟩ = some (.int .i64 a0) := d1.rule 1 _ rfl; have r0 := Below.refl w0.heap.size w0; have HB0 := hide hb0; have qY := (r0.alloc (Nat.le_refl _) (.cells #[.int .i64 id, .int .i64 vol, .int .i64 ep, .slice A me.length c, .slice B jo.length d] 90)).drew; have E : Hid (Blk (w0.alloc (.cells #[.int .i64 id, .int .i64 vol, .int .i64 ep, .slice A me.length c, .slice B jo.length d] 90)).drew w.heap.size 35 _ ∧ Blk (w0.alloc (.cells #[.int .i64 id, .int .i64 vol, .int .i64 ep, .slice A me.length c, .slice B jo.length d] 90)).drew (w.heap.size + 1) 90 _ ∧ Blk (w0.alloc (.cells #[.int .i64 id, .int .i64 vol, .int .i64 ep, .slice A me.length c, .slice B jo.length d] 90)).drew w0.heap.size 90 _) := hide ⟨d1.below qY, d2.below qY, Blk.new (w := w0) (b := w0.heap.size) (cs := [.int .i64 id, .int .i64 vol, .int .i64 ep, .slice A me.length c, .slice B jo.length d]) (t := 90) rfl⟩; have HB1 := hide (hb0.trans (qY.mono hb0.size))
 have HAT : Hid (S.at_ a0 b0 = if (fd Ck.id S.cs a0).isSome then (if ep = b0 then .ok ⟨id, vol, ep, me, jo⟩ else .error 10) else .error 7) := hide (by
  unfold Vst.at_
  rcases HY.out with ⟨_, e⟩ | ⟨_, e, _⟩
  ·rw [e]; rfl
  ·rw [e]; rfl)
 have HIN : Hid (∀ k, S.at_ a0 b0 = .ok k → (⟨id, vol, ep, me, jo⟩ : Ck) = k ∧ fd CkM.key C a0 = some ⟨⟨id, vol, ep, me, jo⟩, A, c, B, d⟩) := hide (by
  intro k hk
  rw [HAT.out] at hk
  rcases HY.out with ⟨e0, e⟩ | ⟨_, e, _⟩
  ·rw [e] at hk
   simp only [Option.isSome_some, if_true] at hk
   split at hk
   ·injection hk with hk
    exact ⟨hk, e0⟩
   ·cases hk
  ·rw [e] at hk
   cases hk)
 clear hy hs1 hs2 h l1 d1 d2 hq hb0 qY; obtain ⟨t, ht⟩ : ∃ t, (fd Ck.id S.cs a0).isSome = t := ⟨_, rfl⟩; rw [ht] at l2 HAT; clear ht
 cases t with
 |false =>
  have HZ : Hid (errOf (S.at_ a0 b0) = 7) := hide (by rw [HAT.out]; rfl); unfold Cmd.val Cmd.cells
  go_enter Tryz.func108, Tryz.ntmps108
  go_wp2_with fail
  refine region_lx (fun w' => Below w0.heap.size w0 w') [] [2, 2, 2, 0, 2, 0, 0, 2, 2, 2, 1, 1, 2] (by (first | exact r0.drew | exact (r0.alloc (Nat.le_refl _) _).drew)) (fun hS0 => ?_)
  (iterate 10 (first | refine lxt ?_ | refine lxp ?_)); (iterate 2 ((refine lxe ?_; go_simp; refine lxB (by (first | exact r0.drew | exact (r0.alloc (Nat.le_refl _) _).drew)) (fun hS1 => ?_))))
  refine lxp ?_
  refine lxN ?_
  obtain ⟨w1, hw1⟩ : ∃ w1, (w0.alloc (.cells #[.int .i64 id, .int .i64 vol, .int .i64 ep, .slice A me.length c, .slice B jo.length d] 90)).drew = w1 := ⟨_, rfl⟩; rw [hw1] at E HB1

  rw [hw1]; obtain ⟨E1, E2, E3⟩ := E.out; have f0 := E3.cell 0; have f1 := E3.cell 1; have f2 := E3.cell 2; have f3 := E3.cell 3; have f4 := E3.cell 4; have g0 := E2.cell 0; have g1 := E2.cell 1; have g2 := E2.cell 2; have g3 := E2.cell 3; have g4 := E2.cell 4; have p2 := E1.cell 2; have z2 := E2.frozen; simp only [List.getElem?_cons_succ, List.getElem?_cons_zero] at f0 f1 f2 f3 f4 g0 g1 g2 g3 g4 p2; have HW1 := hide hw1; have HW0 := hide hw0; clear E1 E2 E3 hw1 hw0 c2 x1 l2; go_wp2
  refine bodyPost_ret (v := .tuple #[.agg #[.int .i64 id, .int .i64 vol, .int .i64 ep, .slice A me.length c, .slice B jo.length d], .int .i64 7]) (by simp [results, Tryz.results108, go_sem, *]) rfl ?_
  exact ⟨⟨⟨id, vol, ep, me, jo⟩, A, c, B, d⟩, by rw [HZ.out]; rfl, HIN.out, HSA.out, HSB.out, by repeat (first | (with_reducible exact HB1.out) | (with_reducible refine Below.setCell ?_ (by simp <;> omega) _))⟩
 |true =>
  by_cases hep : ep = b0
  ·have HZ : Hid (errOf (S.at_ a0 b0) = 0) := hide (by simp [HAT.out, hep, errOf])
   have hne : (ep != b0) = false := by simp [hep]
   have HEP := hide hep; clear hep; unfold Cmd.val Cmd.cells
   go_enter Tryz.func108, Tryz.ntmps108
   go_wp2_with fail
   refine region_lx (fun w' => Below w0.heap.size w0 w') [] [2, 2, 2, 0, 2, 0, 0, 2, 2, 2, 1, 1, 2] (by (first | exact r0.drew | exact (r0.alloc (Nat.le_refl _) _).drew)) (fun hS0 => ?_)
   (iterate 10 (first | refine lxt ?_ | refine lxp ?_)); (iterate 2 ((refine lxe ?_; go_simp; refine lxB (by (first | exact r0.drew | exact (r0.alloc (Nat.le_refl _) _).drew)) (fun hS1 => ?_))))
   refine lxp ?_
   refine lxN ?_
   obtain ⟨w1, hw1⟩ : ∃ w1, (w0.alloc (.cells #[.int .i64 id, .int .i64 vol, .int .i64 ep, .slice A me.length c, .slice B jo.length d] 90)).drew = w1 := ⟨_, rfl⟩; rw [hw1] at E HB1

   rw [hw1]; obtain ⟨E1, E2, E3⟩ := E.out; have f0 := E3.cell 0; have f1 := E3.cell 1; have f2 := E3.cell 2; have f3 := E3.cell 3; have f4 := E3.cell 4; have g0 := E2.cell 0; have g1 := E2.cell 1; have g2 := E2.cell 2; have g3 := E2.cell 3; have g4 := E2.cell 4; have p2 := E1.cell 2; have z2 := E2.frozen; simp only [List.getElem?_cons_succ, List.getElem?_cons_zero] at f0 f1 f2 f3 f4 g0 g1 g2 g3 g4 p2; have HW1 := hide hw1; have HW0 := hide hw0; clear E1 E2 E3 hw1 hw0 c2 x1 l2; go_wp2
   refine bodyPost_ret (v := .tuple #[.agg #[.int .i64 id, .int .i64 vol, .int .i64 ep, .slice A me.length c, .slice B jo.length d], .int .i64 0]) (by simp [results, Tryz.results108, go_sem, *]) rfl ?_
   exact ⟨⟨⟨id, vol, ep, me, jo⟩, A, c, B, d⟩, by rw [HZ.out]; rfl, HIN.out, HSA.out, HSB.out, by repeat (first | (with_reducible exact HB1.out) | (with_reducible refine Below.setCell ?_ (by simp <;> omega) _))⟩
  ·have HZ : Hid (errOf (S.at_ a0 b0) = 10) := hide (by simp [HAT.out, hep, errOf])
   have hne : (ep != b0) = true := by simp [hep]
   have HEP := hide hep; clear hep; unfold Cmd.val Cmd.cells
   go_enter Tryz.func108, Tryz.ntmps108
   go_wp2_with fail
   refine region_lx (fun w' => Below w0.heap.size w0 w') [] [2, 2, 2, 0, 2, 0, 0, 2, 2, 2, 1, 1, 2] (by (first | exact r0.drew | exact (r0.alloc (Nat.le_refl _) _).drew)) (fun hS0 => ?_)
   (iterate 10 (first | refine lxt ?_ | refine lxp ?_)); (iterate 2 ((refine lxe ?_; go_simp; refine lxB (by (first | exact r0.drew | exact (r0.alloc (Nat.le_refl _) _).drew)) (fun hS1 => ?_))))
   refine lxp ?_
   refine lxN ?_
   obtain ⟨w1, hw1⟩ : ∃ w1, (w0.alloc (.cells #[.int .i64 id, .int .i64 vol, .int .i64 ep, .slice A me.length c, .slice B jo.length d] 90)).drew = w1 := ⟨_, rfl⟩; rw [hw1] at E HB1

   rw [hw1]; obtain ⟨E1, E2, E3⟩ := E.out; have f0 := E3.cell 0; have f1 := E3.cell 1; have f2 := E3.cell 2; have f3 := E3.cell 3; have f4 := E3.cell 4; have g0 := E2.cell 0; have g1 := E2.cell 1; have g2 := E2.cell 2; have g3 := E2.cell 3; have g4 := E2.cell 4; have p2 := E1.cell 2; have z2 := E2.frozen; simp only [List.getElem?_cons_succ, List.getElem?_cons_zero] at f0 f1 f2 f3 f4 g0 g1 g2 g3 g4 p2; have HW1 := hide hw1; have HW0 := hide hw0; clear E1 E2 E3 hw1 hw0 c2 x1 l2; go_wp2
   refine bodyPost_ret (v := .tuple #[.agg #[.int .i64 id, .int .i64 vol, .int .i64 ep, .slice A me.length c, .slice B jo.length d], .int .i64 10]) (by simp [results, Tryz.results108, go_sem, *]) rfl ?_
   exact ⟨⟨⟨id, vol, ep, me, jo⟩, A, c, B, d⟩, by rw [HZ.out]; rfl, HIN.out, HSA.out, HSB.out, by repeat (first | (with_reducible exact HB1.out) | (with_reducible refine Below.setCell ?_ (by simp <;> omega) _))⟩
section
variable {w w' : World} {no : List Nat} {b m1 m2 m3 : Nat} {S : Vst} {V : List VoM} {C : List CkM} {x : VoM} {y : CkM}
theorem VM.setV (h : VM w no b m1 m2 m3 S V C) (ht : Tab VoM.key VoM.val w' m2 (ins VoM.key x V)) (hc : Chg [m2] w w') (hs : Sl w no x.A x.c x.v.ch) : VM w' no b m1 m2 m3 { S with vs := ins Vo.id x.v S.vs } (ins VoM.key x V) C :=
 h.put2 ht hc (fun z hz => by
  rcases (mem_ins h.t2.rise).1 hz with rfl | ⟨hz, _⟩
  ·exact Or.inr hs
  ·exact Or.inl hz) (by rw [← h.eV]; exact ins_map VoM.v Vo.id x V)
theorem VM.setC (h : VM w no b m1 m2 m3 S V C) (ht : Tab CkM.key CkM.val w' m3 (ins CkM.key y C)) (hc : Chg [m3] w w') (hs : Sl w no y.A y.c y.k.me ∧ Sl w no y.B y.d y.k.jo) : VM w' no b m1 m2 m3 { S with cs := ins Ck.id y.k S.cs } V (ins CkM.key y C) :=
 h.put3 ht hc (fun z hz => by
  rcases (mem_ins h.t3.rise).1 hz with rfl | ⟨hz, _⟩
  ·exact Or.inr hs
  ·exact Or.inl hz) (by rw [← h.eC]; exact ins_map CkM.k Ck.id y C)
theorem VM.outV (h : VM w no b m1 m2 m3 S V C) {k : Int} (ht : Tab VoM.key VoM.val w' m2 (out VoM.key V k)) (hc : Chg [m2] w w') : VM w' no b m1 m2 m3 { S with vs := out Vo.id S.vs k } (out VoM.key V k) C :=
 h.put2 ht hc (fun z hz => Or.inl (mem_out.1 hz).1) (by rw [← h.eV]; exact out_map VoM.v Vo.id k V)
theorem VM.outC (h : VM w no b m1 m2 m3 S V C) {k : Int} (ht : Tab CkM.key CkM.val w' m3 (out CkM.key C k)) (hc : Chg [m3] w w') : VM w' no b m1 m2 m3 { S with cs := out Ck.id S.cs k } V (out CkM.key C k) :=
 h.put3 ht hc (fun z hz => Or.inl (mem_out.1 hz).1) (by rw [← h.eC]; exact out_map CkM.k Ck.id k C)
theorem VM.lenC (h : VM w no b m1 m2 m3 S V C) : C.length = S.cs.length := by have := congrArg List.length h.eC; rwa [List.length_map] at this
theorem VM.lenV (h : VM w no b m1 m2 m3 S V C) : V.length = S.vs.length := by have := congrArg List.length h.eV; rwa [List.length_map] at this
end
theorem vturn_calls (w : World) (no : List Nat) (b m1 m2 m3 : Nat) (S : Vst) (V : List VoM) (C : List CkM) (y : CkM) (h : VM w no b m1 m2 m3 S V C) (h1 : Sl w no y.A y.c y.k.me) (h2 : Sl w no y.B y.d y.k.jo) (hid : i64ok y.k.id) (he : 0 ≤ y.k.ep) (he2 : y.k.ep ≤ 1000000) (hl : S.cs.length < 1000000) :
  Calls Tryz.prog 111 #[.pointer (some ⟨b, 0, none⟩), y.val] w fun e w' => Stp w w' no b m1 m2 m3 (S.turn y.k, 0) e := by
 obtain ⟨⟨id, vol, ep, me, jo⟩, A, c, B, d⟩ := y; simp only [] at h1 h2 hid he he2; unfold CkM.val CkM.cells; simp only []; obtain ⟨w0, hw0⟩ : ∃ w0, w.alloc (.cells #[.int .i64 id, .int .i64 vol, .int .i64 ep, .slice A me.length c, .slice B jo.length d] 90) = w0 := ⟨_, rfl⟩
 have hb0 : Below w.heap.size w w0 := hw0 ▸ (Below.refl w.heap.size w).alloc (Nat.le_refl _) _
 have d0 : Blk w0 w.heap.size 90 [.int .i64 id, .int .i64 vol, .int .i64 ep, .slice A me.length c, .slice B jo.length d] := hw0 ▸ Blk.new rfl
 have e2 : w0.cell? ⟨w.heap.size, 2, none⟩ = some (.int .i64 ep) := d0.cell 2; have z2 : w0.frozen? ⟨w.heap.size, 2, none⟩ = false := d0.frozen 2; have hwrap : IntKind.i64.wrap (ep + 1) = ep + 1 := IntWalk.i64_in _ (by omega); have d1 := d0.set 2 (.int .i64 (ep + 1)); have hb1 : Below w.heap.size w (w0.setCell ⟨w.heap.size, 2, none⟩ (.int .i64 (ep + 1))) := hb0.setCell (Nat.le_refl _) _; obtain ⟨w1, hw1⟩ : ∃ w1, w0.setCell ⟨w.heap.size, 2, none⟩ (.int .i64 (ep + 1)) = w1 := ⟨_, rfl⟩; rw [hw1] at d1 hb1; have vm1 := h.below hb1; have r1 := Below.refl w1.heap.size w1; have c2 := vm1.blk.rule 2 _ rfl; have f0 := d1.rule 0 _ rfl; have f1 := d1.rule 1 _ rfl; have f2 := d1.rule 2 _ rfl; have f3 := d1.rule 3 _ rfl; have f4 := d1.rule 4 _ rfl; have HV := hide (vm1.below r1.drew); have HLC := hide (show C.length < 1000000 by rw [h.lenC]; exact hl); have HSS := hd2 ((h1.below hb1).below r1.drew) ((h2.below hb1).below r1.drew); have HB1 := hide (hb1.trans (r1.drew.mono hb1.size)); have HID := hide hid; clear vm1 h h1 h2 hid hl d0 d1 hb0 hb1
 go_enter Tryz.func111, Tryz.ntmps111
 go_wp2_with fail
 refine region_lx (fun w' => Below w1.heap.size w1 w') [7] [2, 2, 2, 0, 2, 0, 0, 3] (by (exact r1.drew)) (fun hS0 => ?_)
 (iterate 7 (first | refine lxt ?_ | refine lxp ?_))
 (refine lxn ?_; (refine Tab.wp_put (key := CkM.key) (val := CkM.val) _ _ _ (⟨⟨id, vol, ep + 1, me, jo⟩, A, c, B, d⟩ : CkM) rfl Tryz.underlying74 rfl rfl rfl HV.out.t3 HID.out HLC.out ?_; intro w3 ht3 hch3); (try simp only [Act.put]))
 refine lxN ?_
 go_wp2; go_ret
 exact ⟨rfl, ((Chg.of_below (L := [b, m1, m2, m3]) HB1.out)).trans hch3 (by simp), V, _, HV.out.setC (y := ⟨⟨id, vol, ep + 1, me, jo⟩, A, c, B, d⟩) ht3 hch3 HSS.out⟩
theorem vserver_calls (w : World) (no : List Nat) (b m1 m2 m3 : Nat) (S : Vst) (V : List VoM) (C : List CkM) (q : Cmd) (h : VM w no b m1 m2 m3 S V C) (hq : q.ok) (hl : S.sv.length < 1000000) :
  Calls Tryz.prog 57 #[.pointer (some ⟨b, 0, none⟩), q.val] w fun e w' => Stp w w' no b m1 m2 m3 (S.server q) e := by
 obtain ⟨k0, a0, b0, c0, ⟨qr, qw, ql, qb⟩⟩ := q; have hqa : i64ok a0 := hq.a; obtain ⟨w0, hw0⟩ : ∃ w0, w.alloc (.cells #[.int .i64 k0, .int .i64 a0, .int .i64 b0, .int .i64 c0, .int .i64 qr, .int .i64 qw, .int .i64 ql, .int .i64 qb] 35) = w0 := ⟨_, rfl⟩
 have hb0 : Below w.heap.size w w0 := hw0 ▸ (Below.refl w.heap.size w).alloc (Nat.le_refl _) _
 have d1 : Blk w0 w.heap.size 35 [.int .i64 k0, .int .i64 a0, .int .i64 b0, .int .i64 c0, .int .i64 qr, .int .i64 qw, .int .i64 ql, .int .i64 qb] := hw0 ▸ Blk.new rfl
 have x1 : ∀ w', Below w0.heap.size w0 w' → w'.cell? ⟨w.heap.size, 1, none⟩ = some (.int .i64 a0) := d1.rule 1 _ rfl; have x2 : ∀ w', Below w0.heap.size w0 w' → w'.cell? ⟨w.heap.size, 2, none⟩ = some (.int .i64 b0) := d1.rule 2 _ rfl; have y1 : w0.cell? ⟨w.heap.size, 1, none⟩ = some (.int .i64 a0) := d1.cell 1; have y2 : w0.cell? ⟨w.heap.size, 2, none⟩ = some (.int .i64 b0) := d1.cell 2; have r0 := Below.refl w0.heap.size w0; have vm0 := h.below hb0; have c0r := vm0.blk.rule 0 _ rfl; have HV := hide (vm0.below r0.drew); have HB0 := hide (hb0.trans (r0.drew.mono hb0.size)); have HB := hide hb0; have HH := hide h; have HL := hide hl; have HA := hide hqa; clear h hq hqa hl vm0 d1 hb0; unfold Cmd.val Cmd.cells; simp only []
 cases h1 : within a0 0 15 with
 |false =>
  have HE : Hid (S.server ⟨k0, a0, b0, c0, ⟨qr, qw, ql, qb⟩⟩ = (S, 1)) := hide (by
   unfold Vst.server; simp only [within, decide_eq_false_iff_not] at h1
   exact if_neg (fun h => h1 ⟨h.1, h.2.1⟩))
  go_enter Tryz.func57, Tryz.ntmps57
  go_wp2_with (go_at_call 106; with_reducible refine (vwithin_calls _ _ _ _).mono ?_; rintro e w' ⟨rfl, rfl⟩)
  go_ret; rw [HE.out]
  exact HH.out.stay HB.out rfl
 |true =>
  cases h2 : within b0 1 64 with
  |false =>
   have HE : Hid (S.server ⟨k0, a0, b0, c0, ⟨qr, qw, ql, qb⟩⟩ = (S, 1)) := hide (by
    unfold Vst.server; simp only [within, decide_eq_false_iff_not] at h2
    exact if_neg (fun h => h2 ⟨h.2.2.1, h.2.2.2⟩))
   go_enter Tryz.func57, Tryz.ntmps57
   go_wp2_with (go_at_call 106; with_reducible refine (vwithin_calls _ _ _ _).mono ?_; rintro e w' ⟨rfl, rfl⟩)
   go_ret; rw [HE.out]
   exact HH.out.stay HB.out rfl
  |true =>
   have HE : Hid (S.server ⟨k0, a0, b0, c0, ⟨qr, qw, ql, qb⟩⟩ = ({ S with sv := ins Prod.fst (a0, b0) S.sv }, 0)) := hide (by
    unfold Vst.server; simp only [within, decide_eq_true_eq] at h1 h2
    exact if_pos ⟨h1.1, h1.2, h2.1, h2.2⟩)
   go_enter Tryz.func57, Tryz.ntmps57
   go_wp2_with (go_at_call 106; with_reducible refine (vwithin_calls _ _ _ _).mono ?_; rintro e w' ⟨rfl, rfl⟩)
   refine region_lx (fun w' => Below w0.heap.size w0 w') [8] [2, 2, 2, 0, 2, 0, 2, 0, 3] (by (exact r0.drew)) (fun hS0 => ?_)
   (iterate 8 (first | refine lxt ?_ | refine lxp ?_))
   (refine lxn ?_; (refine Tab.wp_put (key := Prod.fst) (val := svVal) _ _ _ ((a0, b0) : Int × Int) rfl Tryz.underlying72 rfl rfl rfl HV.out.t1 HA.out HL.out ?_; intro w3 ht3 hch3); (try simp only [Act.put]))
   refine lxN ?_
   go_wp2; go_ret; rw [HE.out]
   exact ⟨rfl, ((Chg.of_below (L := [b, m1, m2, m3]) HB0.out)).trans hch3 (by simp), V, C, HV.out.put1 ht3 hch3⟩

section
variable {α : Type} {key : α → Int} {val : α → Value} {w : World} {b : Nat} {L : List α} {mt et : TypeId} {k : Int}
theorem Tab.wp_del {o : Oper} {a : Act} {K : Act → World → Prop} {Q : Exit → Act → World → Prop} (m x : Operand) (ho : o.op = .call { callee := .builtin .delete, args := #[m, x], argTypes := #[mt, 3] }) (hm : Tryz.prog.underlying mt = some (.map 3 et))
  (em : a.eval m = .map (some b)) (ek : a.eval x = .int .i64 k) (h : Tab key val w b L) (hk : i64ok k)
  (hK : ∀ w', Tab key val w' b (out key L k) → Chg [b] w w' → K (a.put o.dst (.tuple #[])) w') : o.wp Tryz.prog a w K Q := by
 obtain ⟨w', hrun, h1, h2⟩ := h.del hk hm o.type; unfold Oper.wp
 simp [execOp, ho, resolve, invoke, builtin, em, ek, hrun, Result.andThen]
 exact hK _ h1 h2
theorem Tab.wpl_del {ops : Array Oper} {rest : List Oper} {o : Oper} {a : Act} {Q : Exit → Act → World → Prop} (hg : o.guard = none) (m x : Operand) (ho : o.op = .call { callee := .builtin .delete, args := #[m, x], argTypes := #[mt, 3] }) (hm : Tryz.prog.underlying mt = some (.map 3 et))
  (em : a.eval m = .map (some b)) (ek : a.eval x = .int .i64 k) (h : Tab key val w b L) (hk : i64ok k)
  (hK : ∀ w', Tab key val w' b (out key L k) → Chg [b] w w' → wpList Tryz.prog ops Q rest (a.put o.dst (.tuple #[])) w') : wpList Tryz.prog ops Q (o :: rest) a w := by
 refine wpList_plain hg fun K' hK' => ?_
 exact h.wp_del m x ho hm em ek hk fun w' h1 h2 => hK' _ _ (hK w' h1 h2)
end
theorem vpolicy_calls (w : World) (no : List Nat) (b m1 m2 m3 : Nat) (S : Vst) (V : List VoM) (C : List CkM) (q : Cmd) (h : VM w no b m1 m2 m3 S V C) (hq : q.ok) (hl : S.vs.length < 1000000) (hv : ∀ v ∈ S.vs, 0 ≤ v.ver ∧ v.ver ≤ 1000000) :
  Calls Tryz.prog 61 #[.pointer (some ⟨b, 0, none⟩), q.val] w fun e w' => Stp w w' no b m1 m2 m3 (S.policy q) e := by
 have HL := hide hl; have HVV := hide hv; clear hl hv; obtain ⟨y, l1, _, hy, hs1⟩ := h.lookV hq.a; have HSA := hide hs1; have hqa := hide hq.a; obtain ⟨k0, a0, b0, c0, ⟨qr, qw, ql, qb⟩⟩ := q; simp only [] at l1 hy hqa; have HY := hide hy; obtain ⟨⟨id, bl, ⟨pr, pw, pl, pb⟩, ver, ch⟩, A, c⟩ := y; unfold VoM.val VoM.cells at l1; simp only [] at l1; obtain ⟨w0, hw0⟩ : ∃ w0, w.alloc (.cells #[.int .i64 k0, .int .i64 a0, .int .i64 b0, .int .i64 c0, .int .i64 qr, .int .i64 qw, .int .i64 ql, .int .i64 qb] 35) = w0 := ⟨_, rfl⟩
 have hb0 : Below w.heap.size w w0 := hw0 ▸ (Below.refl w.heap.size w).alloc (Nat.le_refl _) _
 have d1 : Blk w0 w.heap.size 35 [.int .i64 k0, .int .i64 a0, .int .i64 b0, .int .i64 c0, .int .i64 qr, .int .i64 qw, .int .i64 ql, .int .i64 qb] := hw0 ▸ Blk.new rfl
 have hs0 : Hid (w0.heap.size = w.heap.size + 1) := hide (by rw [← hw0]; simp); have HW0 := hide hw0
 have cm : ∀ w', Below w0.heap.size w0 w' → w'.cell? ⟨b, 1, none⟩ = some (.map (some m2)) := fun w' hb => h.blk.rule 1 _ rfl w' (hb0.trans (hb.mono hb0.size))
 have l2 := fun w' (hb : Below w0.heap.size w0 w') => l1 w' (hb0.trans (hb.mono hb0.size))
 have x1 : ∀ w', Below w0.heap.size w0 w' → w'.cell? ⟨w.heap.size, 1, none⟩ = some (.int .i64 a0) := d1.rule 1 _ rfl; have r0 := Below.refl w0.heap.size w0; have qY := (r0.alloc (Nat.le_refl _) (.cells #[.int .i64 id, .int .i64 bl, .int .i64 pr, .int .i64 pw, .int .i64 pl, .int .i64 pb, .int .i64 ver, .slice A ch.length c] 46)).drew; have E : Hid (Blk (w0.alloc (.cells #[.int .i64 id, .int .i64 bl, .int .i64 pr, .int .i64 pw, .int .i64 pl, .int .i64 pb, .int .i64 ver, .slice A ch.length c] 46)).drew w.heap.size 35 _ ∧ Blk (w0.alloc (.cells #[.int .i64 id, .int .i64 bl, .int .i64 pr, .int .i64 pw, .int .i64 pl, .int .i64 pb, .int .i64 ver, .slice A ch.length c] 46)).drew w0.heap.size 46 _) := hide ⟨d1.below qY, Blk.new (w := w0) (b := w0.heap.size) (cs := [.int .i64 id, .int .i64 bl, .int .i64 pr, .int .i64 pw, .int .i64 pl, .int .i64 pb, .int .i64 ver, .slice A ch.length c]) (t := 46) rfl⟩; have HB1 := hide (hb0.trans (qY.mono hb0.size)); have H := hide h; clear hy hs1 l1 d1 hq qY h hb0; unfold Cmd.val Cmd.cells; simp only []; obtain ⟨t, ht⟩ : ∃ t, (fd Vo.id S.vs a0).isSome = t := ⟨_, rfl⟩; rw [ht] at l2; have HT := hide ht; clear ht
 cases hr : right qr qw ql qb with
 |false =>
  have HE : Hid (S.policy ⟨k0, a0, b0, c0, ⟨qr, qw, ql, qb⟩⟩ = (S, 1)) := hide (by
   unfold Vst.policy Pol.ok
   simp [hr])
  go_enter Tryz.func61, Tryz.ntmps61
  go_wp2_with fail
  refine region_lx (fun w' => Below w0.heap.size w0 w') [] [2, 2, 2, 0, 2, 0, 0, 2, 2, 2, 1, 1, 2] (by (first | exact r0.drew | exact (r0.alloc (Nat.le_refl _) _).drew)) (fun hS0 => ?_)
  (iterate 10 (first | refine lxt ?_ | refine lxp ?_)); (iterate 2 ((refine lxe ?_; go_simp; refine lxB (by (first | exact r0.drew | exact (r0.alloc (Nat.le_refl _) _).drew)) (fun hS1 => ?_))))
  refine lxp ?_
  refine lxN ?_
  obtain ⟨w1, hw1⟩ : ∃ w1, (w0.alloc (.cells #[.int .i64 id, .int .i64 bl, .int .i64 pr, .int .i64 pw, .int .i64 pl, .int .i64 pb, .int .i64 ver, .slice A ch.length c] 46)).drew = w1 := ⟨_, rfl⟩; rw [hw1] at E HB1; rw [hw1]; have HW1 := hide hw1; clear hw1 hw0 hS0 hS1 cm l2 x1; have p4 := E.out.1.cell 4; have p5 := E.out.1.cell 5; have p6 := E.out.1.cell 6; have p7 := E.out.1.cell 7; simp only [List.getElem?_cons_succ, List.getElem?_cons_zero] at p4 p5 p6 p7
  go_wp2_with (go_at_call 105; with_reducible refine (right_calls _ _ _ _ _).mono ?_; rintro e w2 ⟨rfl, hb2⟩)
  go_ret; rw [HE.out]
  exact H.out.stay (HB1.out.trans (hb2.mono HB1.out.size)) rfl
 |true =>
  cases t with
  |false =>
   have HE : Hid (S.policy ⟨k0, a0, b0, c0, ⟨qr, qw, ql, qb⟩⟩ = (S, 7)) := hide (by
    unfold Vst.policy Pol.ok; have := HT.out; rw [Option.isSome_eq_false_iff, Option.isNone_iff_eq_none] at this
    simp [hr, this])
   go_enter Tryz.func61, Tryz.ntmps61
   go_wp2_with fail
   refine region_lx (fun w' => Below w0.heap.size w0 w') [] [2, 2, 2, 0, 2, 0, 0, 2, 2, 2, 1, 1, 2] (by (first | exact r0.drew | exact (r0.alloc (Nat.le_refl _) _).drew)) (fun hS0 => ?_)
   (iterate 10 (first | refine lxt ?_ | refine lxp ?_)); (iterate 2 ((refine lxe ?_; go_simp; refine lxB (by (first | exact r0.drew | exact (r0.alloc (Nat.le_refl _) _).drew)) (fun hS1 => ?_))))
   refine lxp ?_
   refine lxN ?_
   obtain ⟨w1, hw1⟩ : ∃ w1, (w0.alloc (.cells #[.int .i64 id, .int .i64 bl, .int .i64 pr, .int .i64 pw, .int .i64 pl, .int .i64 pb, .int .i64 ver, .slice A ch.length c] 46)).drew = w1 := ⟨_, rfl⟩; rw [hw1] at E HB1; rw [hw1]; have HW1 := hide hw1; clear hw1 hw0 hS0 hS1 cm l2 x1; have p4 := E.out.1.cell 4; have p5 := E.out.1.cell 5; have p6 := E.out.1.cell 6; have p7 := E.out.1.cell 7; simp only [List.getElem?_cons_succ, List.getElem?_cons_zero] at p4 p5 p6 p7
   go_wp2_with (go_at_call 105; with_reducible refine (right_calls _ _ _ _ _).mono ?_; rintro e w2 ⟨rfl, hb2⟩)
   go_ret; rw [HE.out]
   exact H.out.stay (HB1.out.trans (hb2.mono HB1.out.size)) rfl
  |true =>
   have hyy : fd Vo.id S.vs a0 = some ⟨id, bl, ⟨pr, pw, pl, pb⟩, ver, ch⟩ := by
    rcases HY.out with ⟨_, e⟩ | ⟨_, e, _⟩
    ·exact e
    ·have := HT.out
     rw [e] at this
     cases this
   have hver := HVV.out _ (fd_some hyy).1; have hid : id = a0 := (fd_some hyy).2
   have HE : Hid (S.policy ⟨k0, a0, b0, c0, ⟨qr, qw, ql, qb⟩⟩ = ({ S with vs := ins Vo.id ⟨id, bl, ⟨qr, qw, ql, qb⟩, ver + 1, ch⟩ S.vs }, 0)) := hide (by
    unfold Vst.policy Pol.ok
    simp [hr, hyy])
   have hwrap : IntKind.i64.wrap (ver + 1) = ver + 1 := IntWalk.i64_in _ (by simp only [] at hver; omega); have HID := hide hid; clear hyy hver hid
   go_enter Tryz.func61, Tryz.ntmps61
   go_wp2_with fail
   refine region_lx (fun w' => Below w0.heap.size w0 w') [] [2, 2, 2, 0, 2, 0, 0, 2, 2, 2, 1, 1, 2] (by (first | exact r0.drew | exact (r0.alloc (Nat.le_refl _) _).drew)) (fun hS0 => ?_)
   (iterate 10 (first | refine lxt ?_ | refine lxp ?_)); (iterate 2 ((refine lxe ?_; go_simp; refine lxB (by (first | exact r0.drew | exact (r0.alloc (Nat.le_refl _) _).drew)) (fun hS1 => ?_))))
   refine lxp ?_
   refine lxN ?_
   obtain ⟨w1, hw1⟩ : ∃ w1, (w0.alloc (.cells #[.int .i64 id, .int .i64 bl, .int .i64 pr, .int .i64 pw, .int .i64 pl, .int .i64 pb, .int .i64 ver, .slice A ch.length c] 46)).drew = w1 := ⟨_, rfl⟩; rw [hw1] at E HB1; rw [hw1]; have HW1 := hide hw1; clear hw1 hw0 hS0 hS1 cm l2 x1; have p4 := E.out.1.cell 4; have p5 := E.out.1.cell 5; have p6 := E.out.1.cell 6; have p7 := E.out.1.cell 7; simp only [List.getElem?_cons_succ, List.getElem?_cons_zero] at p4 p5 p6 p7; go_wp2_with fail
   refine (right_calls _ _ _ _ _).mono ?_
   rintro e w2 ⟨rfl, hb2⟩; rw [hr]; have F1 := E.out.1.below hb2; have F2 := E.out.2.below hb2; have hB2 := HB1.out.trans (hb2.mono HB1.out.size); have p4 := F1.cell 4; have p5 := F1.cell 5; have p6 := F1.cell 6; have p7 := F1.cell 7; have v0 := F2.cell 0; have v1 := F2.cell 1; have v2 := F2.cell 2; have v3 := F2.cell 3; have v4 := F2.cell 4; have v5 := F2.cell 5; have v6 := F2.cell 6; have v7 := F2.cell 7; have zz := F2.frozen; simp only [List.getElem?_cons_succ, List.getElem?_cons_zero] at p4 p5 p6 p7 v0 v1 v2 v3 v4 v5 v6 v7
   have hne : w.heap.size ≠ w0.heap.size := by rw [hs0.out]; omega
   have HF := hd2 F1 F2; have HB2 := hide hB2; clear F1 F2 hB2 hb2 E; go_wp2_with fail; have G2 := ((((HF.out.2.set 2 (.int .i64 qr)).set 3 (.int .i64 qw)).set 4 (.int .i64 ql)).set 5 (.int .i64 qb)).set 6 (.int .i64 (ver + 1)); have G1 := HF.out.1
   have hc : Chg [w0.heap.size] w2 (((((w2.setCell ⟨w0.heap.size, 2, none⟩ (.int .i64 qr)).setCell ⟨w0.heap.size, 3, none⟩ (.int .i64 qw)).setCell ⟨w0.heap.size, 4, none⟩ (.int .i64 ql)).setCell ⟨w0.heap.size, 5, none⟩ (.int .i64 qb)).setCell ⟨w0.heap.size, 6, none⟩ (.int .i64 (ver + 1))) :=
    (((((Chg.refl _ _).setCell (Or.inl (by simp)) _).setCell (Or.inl (by simp)) _).setCell (Or.inl (by simp)) _).setCell (Or.inl (by simp)) _).setCell (Or.inl (by simp)) _
   have hB3 := Chg.onto HB2.out HB2.out.size hc (fun x hx => by rw [List.mem_singleton.1 hx, hs0.out]; omega); have G1 := HF.out.1.chg hc (by simpa using hne); obtain ⟨w3, hw3⟩ : ∃ w3, ((((w2.setCell ⟨w0.heap.size, 2, none⟩ (.int .i64 qr)).setCell ⟨w0.heap.size, 3, none⟩ (.int .i64 qw)).setCell ⟨w0.heap.size, 4, none⟩ (.int .i64 ql)).setCell ⟨w0.heap.size, 5, none⟩ (.int .i64 qb)).setCell ⟨w0.heap.size, 6, none⟩ (.int .i64 (ver + 1)) = w3 := ⟨_, rfl⟩; rw [hw3] at G1 G2 hB3; rw [hw3]; have HW3 := hide hw3; simp only [List.set_cons_zero, List.set_cons_succ] at G2; have r3 := Below.refl w3.heap.size w3; have x1 : ∀ w', Below w3.heap.size w3 w' → w'.cell? ⟨w.heap.size, 1, none⟩ = some (.int .i64 a0) := G1.rule 1 _ rfl; have y0 := G2.rule 0 _ rfl; have y1 := G2.rule 1 _ rfl; have y2 := G2.rule 2 _ rfl; have y3 := G2.rule 3 _ rfl; have y4 := G2.rule 4 _ rfl; have y5 := G2.rule 5 _ rfl; have y6 := G2.rule 6 _ rfl; have y7 := G2.rule 7 _ rfl; have cm := (H.out.below hB3).blk.rule 1 _ rfl; have HB3 := hide (hB3.trans (r3.drew.mono hB3.size)); have HV := hide (H.out.below HB3.out); have HLV := hide (show V.length < 1000000 by rw [H.out.lenV]; exact HL.out); have HIK := hide (show i64ok id by rw [HID.out]; exact hqa.out); clear hw3 G1 G2 hB3 hc p4 p5 p6 p7 v0 v1 v2 v3 v4 v5 v6 v7 zz hwrap; have HNE := hide hne; clear hne; obtain rfl := HID.out
   refine region_lx (fun w' => Below w3.heap.size w3 w') [7] [2, 2, 2, 0, 2, 0, 0, 3] (by (exact r3.drew)) (fun hS0 => ?_)
   (iterate 7 (first | refine lxt ?_ | refine lxp ?_))
   (refine lxn ?_; (refine Tab.wp_put (key := VoM.key) (val := VoM.val) _ _ _ (⟨⟨id, bl, ⟨qr, qw, ql, qb⟩, ver + 1, ch⟩, A, c⟩ : VoM) rfl Tryz.underlying73 rfl rfl rfl HV.out.t2 HIK.out HLV.out ?_; intro w4 ht4 hch4); (try simp only [Act.put]))
   refine lxN ?_
   go_wp2; go_ret; rw [HE.out]
   exact ⟨rfl, ((Chg.of_below (L := [b, m1, m2, m3]) HB3.out)).trans hch4 (by simp), _, C, HV.out.setV (x := ⟨⟨id, bl, ⟨qr, qw, ql, qb⟩, ver + 1, ch⟩, A, c⟩) ht4 hch4 (HSA.out.below HB3.out)⟩
theorem outs_snoc (cs : List Ck) (ks : List Int) (k : Int) : outs cs (ks ++ [k]) = out Ck.id (outs cs ks) k := by
 induction ks generalizing cs with
 |nil => rfl
 |cons x t ih => exact ih _
theorem outs_take (cs : List Ck) (ks : List Int) (k : Nat) (h : k < ks.length) : outs cs (ks.take (k + 1)) = out Ck.id (outs cs (ks.take k)) ks[k] := by
 rw [List.take_succ_eq_append_getElem h, outs_snoc]
def Dels (w : World) (no : List Nat) (b m1 m2 m3 : Nat) (S : Vst) (V : List VoM) (ks : List Int) (wr : World) (k : Nat) : Prop :=
 Chg [m3] w wr ∧ ∃ C', VM wr no b m1 m2 m3 { S with cs := outs S.cs (ks.take k) } V C'
theorem vremove_calls (w : World) (no : List Nat) (b m1 m2 m3 : Nat) (S : Vst) (V : List VoM) (C : List CkM) (q : Cmd) (h : VM w no b m1 m2 m3 S V C) (hq : q.ok) (hch : ∀ v ∈ S.vs, ∀ k ∈ v.ch, i64ok k) :
  Calls Tryz.prog 59 #[.pointer (some ⟨b, 0, none⟩), q.val] w fun e w' => Stp w w' no b m1 m2 m3 (S.remove q) e := by
 have HCH := hide hch; clear hch; obtain ⟨y, l1, _, hy, hs1⟩ := h.lookV hq.a; have HSA := hide hs1; have hqa := hide hq.a; obtain ⟨k0, a0, b0, c0, ⟨qr, qw, ql, qb⟩⟩ := q; simp only [] at l1 hy hqa; have HY := hide hy; obtain ⟨⟨id, bl, ⟨pr, pw, pl, pb⟩, ver, ch⟩, A, c⟩ := y; unfold VoM.val VoM.cells at l1; simp only [] at l1; obtain ⟨w0, hw0⟩ : ∃ w0, w.alloc (.cells #[.int .i64 k0, .int .i64 a0, .int .i64 b0, .int .i64 c0, .int .i64 qr, .int .i64 qw, .int .i64 ql, .int .i64 qb] 35) = w0 := ⟨_, rfl⟩
 have hb0 : Below w.heap.size w w0 := hw0 ▸ (Below.refl w.heap.size w).alloc (Nat.le_refl _) _
 have d1 : Blk w0 w.heap.size 35 [.int .i64 k0, .int .i64 a0, .int .i64 b0, .int .i64 c0, .int .i64 qr, .int .i64 qw, .int .i64 ql, .int .i64 qb] := hw0 ▸ Blk.new rfl
 have hs0 : Hid (w0.heap.size = w.heap.size + 1) := hide (by rw [← hw0]; simp); have HW0 := hide hw0
 have cm : ∀ w', Below w0.heap.size w0 w' → w'.cell? ⟨b, 1, none⟩ = some (.map (some m2)) := fun w' hb => h.blk.rule 1 _ rfl w' (hb0.trans (hb.mono hb0.size))
 have l2 := fun w' (hb : Below w0.heap.size w0 w') => l1 w' (hb0.trans (hb.mono hb0.size))
 have x1 : ∀ w', Below w0.heap.size w0 w' → w'.cell? ⟨w.heap.size, 1, none⟩ = some (.int .i64 a0) := d1.rule 1 _ rfl; have r0 := Below.refl w0.heap.size w0; have qY := (r0.alloc (Nat.le_refl _) (.cells #[.int .i64 id, .int .i64 bl, .int .i64 pr, .int .i64 pw, .int .i64 pl, .int .i64 pb, .int .i64 ver, .slice A ch.length c] 46)).drew; have E : Hid (Blk (w0.alloc (.cells #[.int .i64 id, .int .i64 bl, .int .i64 pr, .int .i64 pw, .int .i64 pl, .int .i64 pb, .int .i64 ver, .slice A ch.length c] 46)).drew w.heap.size 35 _ ∧ Blk (w0.alloc (.cells #[.int .i64 id, .int .i64 bl, .int .i64 pr, .int .i64 pw, .int .i64 pl, .int .i64 pb, .int .i64 ver, .slice A ch.length c] 46)).drew w0.heap.size 46 _) := hide ⟨d1.below qY, Blk.new (w := w0) (b := w0.heap.size) (cs := [.int .i64 id, .int .i64 bl, .int .i64 pr, .int .i64 pw, .int .i64 pl, .int .i64 pb, .int .i64 ver, .slice A ch.length c]) (t := 46) rfl⟩; have HB1 := hide (hb0.trans (qY.mono hb0.size)); have H := hide h; clear hy hs1 l1 d1 hq qY h hb0; unfold Cmd.val Cmd.cells; simp only []; obtain ⟨t, ht⟩ : ∃ t, (fd Vo.id S.vs a0).isSome = t := ⟨_, rfl⟩; rw [ht] at l2; have HT := hide ht; clear ht
 cases t with
 |false =>
  have HE : Hid (S.remove ⟨k0, a0, b0, c0, ⟨qr, qw, ql, qb⟩⟩ = (S, 7)) := hide (by
   unfold Vst.remove; have := HT.out; rw [Option.isSome_eq_false_iff, Option.isNone_iff_eq_none] at this
   simp [this])
  go_enter Tryz.func59, Tryz.ntmps59
  go_wp2_with fail
  refine region_lx (fun w' => Below w0.heap.size w0 w') [] [2, 2, 2, 0, 2, 0, 0, 2, 2, 2, 1, 1, 2] (by (first | exact r0.drew | exact (r0.alloc (Nat.le_refl _) _).drew)) (fun hS0 => ?_)
  (iterate 10 (first | refine lxt ?_ | refine lxp ?_)); (iterate 2 ((refine lxe ?_; go_simp; refine lxB (by (first | exact r0.drew | exact (r0.alloc (Nat.le_refl _) _).drew)) (fun hS1 => ?_))))
  refine lxp ?_
  refine lxN ?_
  obtain ⟨w1, hw1⟩ : ∃ w1, (w0.alloc (.cells #[.int .i64 id, .int .i64 bl, .int .i64 pr, .int .i64 pw, .int .i64 pl, .int .i64 pb, .int .i64 ver, .slice A ch.length c] 46)).drew = w1 := ⟨_, rfl⟩; rw [hw1] at E HB1; rw [hw1]; have HW1 := hide hw1; clear hw1 hw0 hS0 hS1 cm l2 x1; go_wp2; go_ret; rw [HE.out]
  exact H.out.stay HB1.out rfl
 |true =>
  have hyy : fd Vo.id S.vs a0 = some ⟨id, bl, ⟨pr, pw, pl, pb⟩, ver, ch⟩ := by
   rcases HY.out with ⟨_, e⟩ | ⟨_, e, _⟩
   ·exact e
   ·have := HT.out
    rw [e] at this
    cases this
  have HCK := hide (HCH.out _ (fd_some hyy).1)
  have HE : Hid (S.remove ⟨k0, a0, b0, c0, ⟨qr, qw, ql, qb⟩⟩ = ({ S with cs := outs S.cs ch, vs := out Vo.id S.vs a0 }, 0)) := hide (by
   unfold Vst.remove
   simp [hyy])
  clear hyy
  go_enter Tryz.func59, Tryz.ntmps59
  go_wp2_with fail
  refine region_lx (fun w' => Below w0.heap.size w0 w') [] [2, 2, 2, 0, 2, 0, 0, 2, 2, 2, 1, 1, 2] (by (first | exact r0.drew | exact (r0.alloc (Nat.le_refl _) _).drew)) (fun hS0 => ?_)
  (iterate 10 (first | refine lxt ?_ | refine lxp ?_)); (iterate 2 ((refine lxe ?_; go_simp; refine lxB (by (first | exact r0.drew | exact (r0.alloc (Nat.le_refl _) _).drew)) (fun hS1 => ?_))))
  refine lxp ?_
  refine lxN ?_
  obtain ⟨w1, hw1⟩ : ∃ w1, (w0.alloc (.cells #[.int .i64 id, .int .i64 bl, .int .i64 pr, .int .i64 pw, .int .i64 pl, .int .i64 pb, .int .i64 ver, .slice A ch.length c] 46)).drew = w1 := ⟨_, rfl⟩; rw [hw1] at E HB1; rw [hw1]; have HW1 := hide hw1; clear hw1 hw0 hS0 hS1 cm l2 x1; have v7 := E.out.2.cell 7; simp only [List.getElem?_cons_succ, List.getElem?_cons_zero] at v7; go_wp2_with fail; have HV1 := hide (H.out.below HB1.out); have HSL := hide (HSA.out.below HB1.out); have hlen := HSA.out.ln; have HQ1 := hide (E.out.1); clear E v7
  go_loopw [8, 24, 25, 26, 27, 28, 29, 30, 31, 32, 33] (fun _ i _ _ _ _ _ _ _ _ _ wr => ∃ k : Nat, k ≤ ch.length ∧ i = .int .i64 k ∧ Dels w1 no b m1 m2 m3 S V ch wr k) (fun _ i _ _ _ _ _ _ _ _ _ _ => ch.length - (intOf i).toNat)
  case atStart => exact ⟨0, Nat.zero_le _, rfl, Chg.refl _ _, C, by simpa [outs] using HV1.out⟩
  case round =>
   obtain ⟨k, hk, rfl, hchg, C', hvm⟩ := hrel; have HVM := hide hvm; have HCG := hide hchg; have hm3 : m3 < w.heap.size := H.out.lt _ H.out.i3; clear hvm hchg hS1
   by_cases hlt : k < ch.length
   ·have hel := HSL.out.rd.2 (by omega)
    obtain ⟨bA, oA, eA, hbA, hcell⟩ := hel; have hnA := (HSL.out.ap _ eA).2.1
    have hne3 : bA ≠ m3 := fun e => hnA (by simpa [e] using H.out.i3)
    have g0 : wr.cell? ⟨bA, oA + k, none⟩ = some (.int .i64 ch[k]) := (HCG.out.cell (p := ⟨bA, oA + k, none⟩) hbA (by simpa using hne3)).trans (hcell k _ (by simp [hlt]))
    have i1 : (k : Int) < ch.length := by omega
    have c2 : wr.cell? ⟨b, 2, none⟩ = some (.map (some m3)) := HVM.out.blk.cell 2; have hek : i64ok ch[k] := HCK.out _ (List.getElem_mem _); have hout := outs_take S.cs ch k hlt; obtain ⟨x, hx⟩ : ∃ x, ch[k] = x := ⟨_, rfl⟩; rw [hx] at g0 hek hout; have HOUT := hide hout; have HEK := hide hek; have HNE := hide hne3; subst eA; clear hcell hnA hbA hx hek hout hne3
    go_wp2_with (at_delete; refine Tab.wpl_del rfl _ _ rfl Tryz.underlying74 rfl rfl HVM.out.t3 HEK.out ?_)
    intro w2 ht2 hch2
    have HD : Hid (Dels w1 no b m1 m2 m3 S V ch w2 (k + 1)) := hide ⟨HCG.out.trans hch2 (by simp), _, by
     have := HVM.out.outC ht2 hch2; simp only [] at this; rw [← HOUT.out] at this
     exact this⟩
    clear ht2 hch2 g0 c2; go_wp2
    go_roundw
    case rel => exact ⟨k + 1, by omega, by go_num, HD.out⟩
    case measure => simp [intOf]; omega
   ·have e : k = ch.length := by omega
    subst e; have hVV := HVM.out; rw [List.take_length] at hVV; have HVV := hide hVV; have HC2 := hide ((Chg.of_below (L := [m3]) HB1.out).trans HCG.out (by simp)); have r3 := Below.refl wr.heap.size wr; have hqw := HQ1.out.chg HCG.out (by simpa using (show w.heap.size ≠ m3 by omega)); have x1 : ∀ w', Below wr.heap.size wr w' → w'.cell? ⟨w.heap.size, 1, none⟩ = some (.int .i64 a0) := hqw.rule 1 _ rfl; have cm := HVV.out.blk.rule 1 _ rfl; have HV4 := hide (HVV.out.below r3.drew); have HC4 := hide (HC2.out.below r3.drew); clear hVV hqw hlt; go_wp2_with fail
    refine region_lx (fun w' => Below wr.heap.size wr w') [6] [2, 2, 2, 0, 2, 0, 3] (by (exact r3.drew)) (fun hS0 => ?_)
    (iterate 6 (first | refine lxt ?_ | refine lxp ?_))
    (refine lxn ?_; (refine Tab.wp_del _ _ rfl Tryz.underlying73 rfl rfl HV4.out.t2 hqa.out ?_; intro w4 ht4 hch4); (try simp only [Act.put]))
    refine lxN ?_
    go_wp2; go_ret; rw [HE.out]
    exact ⟨rfl, (HC4.out.mono (L' := [b, m1, m2, m3]) (by simp)).trans hch4 (by simp), _, _, HV4.out.outV ht4 hch4⟩
end Go.Proofs.YtcahcjfgmdpdoaaGreat
