/- The walk through State.grow. -/
import Derived.Test.YtcgecalbgkkinaaGreatVm9
namespace Go.Proofs.YtcgecalbgkkinaaGreat
open Go.RowKit Go.Proofs Go.Maps
set_option linter.unusedVariables false
set_option linter.unusedSimpArgs false

section
variable {w w' : World} {no L : List Nat} {b m1 m2 m3 : Nat} {S : Vst} {V : List VoM} {C : List CkM}
theorem VM.other (h : VM w no b m1 m2 m3 S V C) (hc : Chg L w w') (hL : ∀ x ∈ L, (x ∈ no ∨ w.heap.size ≤ x) ∧ x ≠ b ∧ x ≠ m1 ∧ x ≠ m2 ∧ x ≠ m3) : VM w' no b m1 m2 m3 S V C :=
  ⟨h.blk.chg hc (fun hx => (hL _ hx).2.1 rfl), h.t1.chg hc (fun hx => (hL _ hx).2.2.1 rfl), h.t2.chg hc (fun hx => (hL _ hx).2.2.2.1 rfl), h.t3.chg hc (fun hx => (hL _ hx).2.2.2.2 rfl), h.eV, h.eC,
    fun x hx => (h.sV x hx).chg hc (fun z hz => (hL z hz).1), fun x hx => ⟨(h.sC x hx).1.chg hc (fun z hz => (hL z hz).1), (h.sC x hx).2.chg hc (fun z hz => (hL z hz).1)⟩,
    h.ib, h.i1, h.i2, h.i3, fun x hx => Nat.lt_of_lt_of_le (h.lt x hx) hc.size, h.ne⟩
theorem VM.grow (h : VM w no b m1 m2 m3 S V C) (hc : Chg L w w') (hL : ∀ x ∈ L, (x ∈ no ∨ w.heap.size ≤ x) ∧ x ≠ b ∧ x ≠ m1 ∧ x ≠ m2 ∧ x ≠ m3) {G : List Nat} (hg : ∀ g ∈ G, (g ∈ no ∨ w.heap.size ≤ g) ∧ g < w'.heap.size) : VM w' (G ++ no) b m1 m2 m3 S V C := by
  have hp : ∀ x ∈ G ++ no, x ∈ no ∨ w.heap.size ≤ x := fun x hx => by
    rcases List.mem_append.1 hx with hx | hx
    · exact (hg x hx).1
    · exact Or.inl hx
  have hq : ∀ z ∈ L, z ∈ G ++ no ∨ w.heap.size ≤ z := fun z hz => (hL z hz).1.imp (List.mem_append_right _) id
  exact ⟨h.blk.chg hc (fun hx => (hL _ hx).2.1 rfl), h.t1.chg hc (fun hx => (hL _ hx).2.2.1 rfl), h.t2.chg hc (fun hx => (hL _ hx).2.2.2.1 rfl), h.t3.chg hc (fun hx => (hL _ hx).2.2.2.2 rfl), h.eV, h.eC,
    fun x hx => ((h.sV x hx).plus hp).chg hc hq, fun x hx => ⟨((h.sC x hx).1.plus hp).chg hc hq, ((h.sC x hx).2.plus hp).chg hc hq⟩,
    List.mem_append_right _ h.ib, List.mem_append_right _ h.i1, List.mem_append_right _ h.i2, List.mem_append_right _ h.i3, fun x hx => by
      rcases List.mem_append.1 hx with hx | hx
      · exact (hg x hx).2
      · exact Nat.lt_of_lt_of_le (h.lt x hx) hc.size, h.ne⟩
theorem ins_le {α : Type} {key : α → Int} {L : List α} (h : Rise key L) (x : α) : (ins key x L).length ≤ L.length + 1 := by
  rw [ins_length h]
  split <;> omega
end
theorem lack_le (bl : Int) (ch : List Int) (h : bl ≤ 512) : lack bl ch ≤ 64 := by unfold lack; omega
/-- a volume under growth: its boxed copy, the chunks' numbers so far -/
structure GrowSt (w : World) (no : List Nat) (b m1 m2 m3 : Nat) (S0 : Vst) (V : List VoM) (v : Vo) (cp : Nat) (wr : World) (F : List Nat) (S : Vst) (C : List CkM) (ch : List Int) (A : Option Addr) (c rem : Nat) : Prop where
  vm : VM wr F b m1 m2 m3 S V C
  sv : S.sv = S0.sv
  vs : S.vs = S0.vs
  nx : S.nx + rem = S0.nx + lack v.bl v.ch
  len : ch.length + rem = ((v.bl + 7) / 8).toNat
  cl : S.cs.length + rem ≤ 100064
  run : growN rem S v.id ch cp = growN (lack v.bl v.ch) S0 v.id v.ch cp
  blk : Blk wr w.heap.size 43 [.int .i64 v.id, .int .i64 v.bl, .int .i64 v.p.r, .int .i64 v.p.w, .int .i64 v.p.l, .int .i64 v.p.b, .int .i64 v.ver, .slice A ch.length c]
  own : wr.ownsRow 0 3 1 (.slice A ch.length c) ch.length (ch.map (Value.int .i64))
  fresh : ∀ g, A.map Addr.block = some g → w.heap.size + 1 ≤ g ∧ g ∈ F
  up : ∀ x ∈ no, x ∈ F
  dn : ∀ x ∈ F, x ∈ no ∨ w.heap.size ≤ x
  iv : w.heap.size ∈ F
  chg : Chg [b, m3] w wr
theorem GrowSt.below {w : World} {no : List Nat} {b m1 m2 m3 : Nat} {S0 : Vst} {V : List VoM} {v : Vo} {cp : Nat} {wr wr' : World} {F : List Nat} {S : Vst} {C : List CkM} {ch : List Int} {A : Option Addr} {c rem : Nat}
    (h : GrowSt w no b m1 m2 m3 S0 V v cp wr F S C ch A c rem) (hb : Below wr.heap.size wr wr') : GrowSt w no b m1 m2 m3 S0 V v cp wr' F S C ch A c rem :=
  ⟨h.vm.below hb, h.sv, h.vs, h.nx, h.len, h.cl, h.run, h.blk.below hb, own_chg h.own (Chg.of_below (L := []) hb) (fun _ _ hx => by cases hx), h.fresh, h.up, h.dn, h.iv, h.chg.below hb⟩
def measG (w : World) (b : Nat) (z : Int) : Nat := (z - intOf ((w.cell? ⟨b, 3, none⟩).getD (.int .i64 0))).toNat
theorem GrowSt.meas {w : World} {no : List Nat} {b m1 m2 m3 : Nat} {S0 : Vst} {V : List VoM} {v : Vo} {cp : Nat} {wr : World} {F : List Nat} {S : Vst} {C : List CkM} {ch : List Int} {A : Option Addr} {c rem : Nat}
    (h : GrowSt w no b m1 m2 m3 S0 V v cp wr F S C ch A c rem) : measG wr b (S0.nx + lack v.bl v.ch) = rem := by
  have h1 : wr.cell? ⟨b, 3, none⟩ = some (.int .i64 S.nx) := h.vm.blk.cell 3
  have h2 := h.nx
  unfold measG
  rw [h1]
  simp only [Option.getD_some, intOf]
  omega
set_option maxHeartbeats 8000000 in
set_option maxRecDepth 100000 in
theorem vgrow_calls (w : World) (no : List Nat) (b m1 m2 m3 : Nat) (S : Vst) (V : List VoM) (C : List CkM) (v : Vo) (A : Option Addr) (c cp : Nat) (h : VM w no b m1 m2 m3 S V C) (hs : Sl w no A c v.ch)
    (h1 : S.sv.length ≤ 1000) (h2 : S.cs.length ≤ 100000) (h3 : 1 ≤ S.nx) (h4 : S.nx ≤ 100000) (h5 : 1 ≤ v.bl) (h5' : v.bl ≤ 512) (h6 : v.ch.length ≤ ((v.bl + 7) / 8).toNat) (hcp : cp ≤ 100) (hid : i64ok v.id) (hvs : S.vs.length ≤ 100000) :
    Calls Tryz.prog 85 #[.pointer (some ⟨b, 0, none⟩), (⟨v, A, c⟩ : VoM).val, .int .i64 cp] w fun e w' => e = .returned (.tuple #[]) ∧ Chg [b, m2, m3] w w' ∧ ∃ V' C', VM w' no b m1 m2 m3 (S.grow v cp) V' C' := by
  obtain ⟨i0, hi, hz0, hz1, hz2⟩ := info_parts Tryz.infoI3
  obtain ⟨id, bl, ⟨pr, pw, pl, pb⟩, ver, ch0⟩ := v
  simp only [] at hs h5 h5' h6 hid
  simp only [VoM.val, VoM.cells]
  obtain ⟨w0, hw0⟩ : ∃ w0, w.alloc (.cells #[.int .i64 id, .int .i64 bl, .int .i64 pr, .int .i64 pw, .int .i64 pl, .int .i64 pb, .int .i64 ver, .slice A ch0.length c] 43) = w0 := ⟨_, rfl⟩
  have hb0 : Below w.heap.size w w0 := hw0 ▸ (Below.refl w.heap.size w).alloc (Nat.le_refl _) _
  have d0 : Blk w0 w.heap.size 43 [.int .i64 id, .int .i64 bl, .int .i64 pr, .int .i64 pw, .int .i64 pl, .int .i64 pb, .int .i64 ver, .slice A ch0.length c] := hw0 ▸ Blk.new rfl
  have hw0s : w0.heap.size = w.heap.size + 1 := by rw [← hw0]; simp
  have hcl := hide (cloneI_calls A ch0.length c ch0 no w0 rfl (hs.below hb0))
  have k7 : w0.cell? ⟨w.heap.size, 7, none⟩ = some (.slice A ch0.length c) := d0.cell 7
  have H := hide h
  have HD := hide d0
  have HB0 := hide hb0
  clear h hs d0 hb0
  go_enter Tryz.func85, Tryz.ntmps85
  go_wp2_with fail
  refine hcl.out.mono ?_
  rintro e w1 ⟨A1, c1, rfl, ho, hb1⟩
  have D1 := HD.out.below hb1
  have k7' : w1.cell? ⟨w.heap.size, 7, none⟩ = some (.slice A ch0.length c) := D1.cell 7
  have z7 : w1.frozen? ⟨w.heap.size, 7, none⟩ = false := D1.frozen 7
  have H1 := H.out.below (HB0.out.trans (hb1.mono HB0.out.size))
  have HB1 := hide (HB0.out.trans (hb1.mono HB0.out.size))
  have hf : ∀ g, A1.map Addr.block = some g → w.heap.size + 1 ≤ g := fun g hg => by have := ho.2 g hg; omega
  have hvb : w.heap.size < w1.heap.size := D1.lt
  have G0 : ∃ F, GrowSt w no b m1 m2 m3 S V ⟨id, bl, ⟨pr, pw, pl, pb⟩, ver, ch0⟩ cp (w1.setCell ⟨w.heap.size, 7, none⟩ (.slice A1 ch0.length c1)) F S C ch0 A1 c1 (lack bl ch0) := by
    have hlt := H.out.lt
    have hb' := hlt b H.out.ib
    have h1' := hlt m1 H.out.i1
    have h2' := hlt m2 H.out.i2
    have h3' := hlt m3 H.out.i3
    have hV1 := H.out.grow (L := []) (Chg.of_below HB1.out) (fun x hx => by cases hx) (G := w.heap.size :: (A1.map Addr.block).toList) (fun g hg => by
      rcases List.mem_cons.1 hg with rfl | hg
      · exact ⟨Or.inr (Nat.le_refl _), hvb⟩
      · have hg' : A1.map Addr.block = some g := by simpa using hg
        exact ⟨Or.inr (by have := hf g hg'; omega), own_lt ho.1 (by rw [ownBlock_slice]; exact hg')⟩)
    have hc2 : Chg [w.heap.size] w1 (w1.setCell ⟨w.heap.size, 7, none⟩ (.slice A1 ch0.length c1)) := (Chg.refl _ _).setCell (Or.inl (by simp)) _
    refine ⟨_, hV1.other hc2 (fun x hx => ?_), rfl, rfl, rfl, ?_, ?_, rfl, ?_, ?_, fun g hg => ⟨hf g hg, ?_⟩, fun x hx => List.mem_append_right _ hx, fun x hx => ?_, by simp, ?_⟩
    · obtain rfl : x = w.heap.size := by simpa using hx
      exact ⟨Or.inl (by simp), by omega, by omega, by omega, by omega⟩
    · simp only [lack]; omega
    · have := lack_le bl ch0 h5'
      omega
    · exact D1.set 7 _
    · refine own_chg ho.1 hc2 (fun g hg => ?_)
      rw [ownBlock_slice] at hg
      have := hf g hg
      simp
      omega
    · simp [hg]
    · rcases List.mem_append.1 hx with hx | hx
      · rcases List.mem_cons.1 hx with rfl | hx
        · exact Or.inr (Nat.le_refl _)
        · have := hf x (by simpa using hx)
          exact Or.inr (by omega)
      · exact Or.inl hx
    · exact (Chg.of_below HB1.out).setCell (Or.inr (Nat.le_refl _)) _
  have HG0 := hide G0
  clear hcl k7 ho D1 H1 hf hb1 G0 hw0
  go_wp2_with fail
  go_loopw [6] (fun _ wr => ∃ F S' C' ch A' c' rem, GrowSt w no b m1 m2 m3 S V ⟨id, bl, ⟨pr, pw, pl, pb⟩, ver, ch0⟩ cp wr F S' C' ch A' c' rem) (fun _ wr => measG wr b (S.nx + lack bl ch0))
  case atStart =>
    obtain ⟨F, h⟩ := HG0.out
    exact ⟨F, S, C, ch0, A1, c1, _, h⟩
  case round =>
    obtain ⟨F, S', C', ch, A', c', rem, hG⟩ := hrel
    have HG := hide hG
    have e1 : wr.cell? ⟨w.heap.size, 1, none⟩ = some (.int .i64 bl) := hG.blk.cell 1
    have e7 : wr.cell? ⟨w.heap.size, 7, none⟩ = some (.slice A' ch.length c') := hG.blk.cell 7
    have HLEN : Hid (ch.length + rem = ((bl + 7) / 8).toNat) := hide hG.len
    clear hG
    have hbl := H.out.lt b H.out.ib
    have hm3l := H.out.lt m3 H.out.i3
    by_cases hrem : rem = 0
    · have ht : ¬ ((ch.length : Int) < (bl + 8 - 1) / 8) := by have := HLEN.out; omega
      have HREM := hide hrem
      clear hrem
      go_wp2_with fail
      have c1' := HG.out.vm.blk.rule 1 _ rfl
      have v0 : ∀ w', Below wr.heap.size wr w' → w'.cell? ⟨w.heap.size, 0, none⟩ = some (.int .i64 id) := HG.out.blk.rule 0 _ rfl
      have v1 : ∀ w', Below wr.heap.size wr w' → w'.cell? ⟨w.heap.size, 1, none⟩ = some (.int .i64 bl) := HG.out.blk.rule 1 _ rfl
      have v2 : ∀ w', Below wr.heap.size wr w' → w'.cell? ⟨w.heap.size, 2, none⟩ = some (.int .i64 pr) := HG.out.blk.rule 2 _ rfl
      have v3 : ∀ w', Below wr.heap.size wr w' → w'.cell? ⟨w.heap.size, 3, none⟩ = some (.int .i64 pw) := HG.out.blk.rule 3 _ rfl
      have v4 : ∀ w', Below wr.heap.size wr w' → w'.cell? ⟨w.heap.size, 4, none⟩ = some (.int .i64 pl) := HG.out.blk.rule 4 _ rfl
      have v5 : ∀ w', Below wr.heap.size wr w' → w'.cell? ⟨w.heap.size, 5, none⟩ = some (.int .i64 pb) := HG.out.blk.rule 5 _ rfl
      have v6 : ∀ w', Below wr.heap.size wr w' → w'.cell? ⟨w.heap.size, 6, none⟩ = some (.int .i64 ver) := HG.out.blk.rule 6 _ rfl
      have v7 := HG.out.blk.rule 7 _ rfl
      have r0 := Below.refl wr.heap.size wr
      have hVl : V.length < 1000000 := by have := congrArg List.length HG.out.vm.eV; rw [List.length_map, HG.out.vs] at this; omega
      have HV := hide hVl
      clear hVl ht e1 e7
      refine region_lexg (fun w' => Below wr.heap.size wr w') [7] 0 [(2, 0), (2, 1), (2, 2), (0, 3), (2, 4), (0, 5), (0, 6), (3, 7)] #[true, true, true, true, true, true, true, true] (by kernel_rfl) (by kernel_rfl) (by decide) (by kernel_rfl) (by kernel_rfl) (fun _ _ _ _ _ h => h) (by (exact r0.drew)) (fun hS0 => ?_)
      simp only [List.map_cons, List.map_nil, List.getElem?_toArray, List.getElem?_cons_succ, List.getElem?_cons_zero]
      (apply lexg_pure (by rfl); (focus (intro w; go_simp; (try with_reducible rfl); done)); simp only [Act.put, List.setIfInBounds_toArray, List.set_cons_zero, List.set_cons_succ])
      (apply lexg_pure (by rfl); (focus (intro w; go_simp; (try with_reducible rfl); done)); simp only [Act.put, List.setIfInBounds_toArray, List.set_cons_zero, List.set_cons_succ])
      (apply lexg_pure (by rfl); (focus (intro w; go_simp; (try with_reducible rfl); done)); simp only [Act.put, List.setIfInBounds_toArray, List.set_cons_zero, List.set_cons_succ])
      (apply lexg_take (by rfl); (focus (intro w hw; (try dsimp only at hw); go_simp; (try with_reducible rfl); done)); simp only [Act.put, List.setIfInBounds_toArray, List.set_cons_zero, List.set_cons_succ])
      (apply lexg_pure (by rfl); (focus (intro w; go_simp; (try with_reducible rfl); done)); simp only [Act.put, List.setIfInBounds_toArray, List.set_cons_zero, List.set_cons_succ])
      (apply lexg_take (by rfl); (focus (intro w hw; (try dsimp only at hw); go_simp; (try with_reducible rfl); done)); simp only [Act.put, List.setIfInBounds_toArray, List.set_cons_zero, List.set_cons_succ])
      (apply lexg_take (by rfl); (focus (intro w hw; (try dsimp only at hw); go_simp; (try with_reducible rfl); done)); simp only [Act.put, List.setIfInBounds_toArray, List.set_cons_zero, List.set_cons_succ])
      (refine lexg_effN (by rfl) ?_; (refine Tab.wp_put (key := VoM.key) (val := VoM.val) _ _ _ (⟨⟨id, bl, ⟨pr, pw, pl, pb⟩, ver, ch⟩, A', c'⟩ : VoM) rfl Tryz.underlying61 rfl rfl rfl (HG.out.vm.below r0.drew).t2 hid HV.out ?_; intro w3 ht3 hch3); simp only [Act.put])
      refine lexg_nil (fun _ => wpAnyG_done (by kernel_rfl) ?_ _)
      go_wp2
      go_end0
      have hvm : VM wr.drew no b m1 m2 m3 S' V C' := (HG.out.vm.more HG.out.up H.out.ib H.out.i1 H.out.i2 H.out.i3).below r0.drew
      have hsl : Sl wr.drew no A' c' ch := (Sl.own (W := w) HG.out.own rfl (by have := HLEN.out; omega) (fun g hg => by have := (HG.out.fresh g hg).1; omega) H.out.lt).below r0.drew
      have hput := hvm.put2 ht3 hch3 (fun x hx => by
        rcases (mem_ins hvm.t2.rise).1 hx with rfl | ⟨hx, _⟩
        · exact Or.inr hsl
        · exact Or.inl hx) rfl
      have hgr : S.grow ⟨id, bl, ⟨pr, pw, pl, pb⟩, ver, ch0⟩ cp = { S' with vs := (ins VoM.key (⟨⟨id, bl, ⟨pr, pw, pl, pb⟩, ver, ch⟩, A', c'⟩ : VoM) V).map VoM.v } := by
        have hrun := HG.out.run
        rw [HREM.out] at hrun
        simp only [growN] at hrun
        unfold Vst.grow
        rw [← hrun]
        have hm := ins_map VoM.v Vo.id (⟨⟨id, bl, ⟨pr, pw, pl, pb⟩, ver, ch⟩, A', c'⟩ : VoM) V
        rw [HG.out.vm.eV] at hm
        exact congrArg (fun l => ({ S' with vs := l } : Vst)) hm.symm
      exact ⟨rfl, ((HG.out.chg.mono (by simp)).below r0.drew).trans hch3 (by simp), _, _, by rw [hgr]; exact hput⟩
    · have ht : (ch.length : Int) < (bl + 8 - 1) / 8 := by have := HLEN.out; omega
      obtain ⟨rem', rfl⟩ : ∃ r, rem = r + 1 := ⟨rem - 1, by omega⟩
      clear hrem
      go_wp2_with fail
      refine (loads_calls wr F b m1 m2 m3 S' V C' HG.out.vm (by rw [HG.out.sv]; omega) (by have := HG.out.cl; omega)).mono ?_
      rintro e w2 ⟨A2, c2, rfl, ho2, hg2, hb2⟩
      have hLn : S'.loads.length = S.sv.length := by unfold Vst.loads; rw [List.length_map, HG.out.sv]
      obtain ⟨L, hL⟩ : ∃ L, S'.loads = L := ⟨_, rfl⟩
      rw [hL] at ho2 hLn
      rw [hL]
      have HL := hide hL
      have HLN := hide hLn
      have hms : (chosen L (min cp L.length : Nat)).length = min cp L.length := by rw [show chosen L (min cp L.length : Nat) = (((sortLd L).map Ld.id).take (min cp L.length)) from by unfold chosen; rw [Int.toNat_natCast], List.length_take, List.length_map]; unfold sortLd; rw [List.length_mergeSort]; omega
      have hch := fun w' (hb : Below wr.heap.size wr w') (ho : w'.ownsRow 0 76 2 (.slice A2 L.length c2) L.length (ldCells L)) => vchoose_calls A2 L.length c2 L (min cp L.length) wr w' ho rfl (by omega) (by omega) hg2 hb
      obtain ⟨ms, hms2⟩ : ∃ ms, chosen L (min cp L.length : Nat) = ms := ⟨_, rfl⟩
      rw [hms2] at hms hch
      have HMS := hide hms2
      have hr0 := hb2.drew
      have HCH := hide (hch w2.drew hr0 (own_chg ho2 (Chg.of_below (L := []) (Below.refl _ _).drew) (fun _ _ hx => by cases hx)))
      have HMN := hide hms
      clear hch hms2 hL hLn ho2 hg2 hms hb2 ht e1 e7
      have b2 := HG.out.vm.blk.rule 2 _ rfl
      have b3 := HG.out.vm.blk.rule 3 _ rfl
      have v0 : ∀ w', Below wr.heap.size wr w' → w'.cell? ⟨w.heap.size, 0, none⟩ = some (.int .i64 id) := HG.out.blk.rule 0 _ rfl
      obtain ⟨mm, hmm⟩ : ∃ mm : Nat, min cp L.length = mm := ⟨_, rfl⟩
      have hmin : (if (L.length : Int) < cp then (L.length : Int) else cp) = (mm : Int) := by split <;> omega
      have hmin2 : min (cp : Int) (L.length : Int) = (mm : Int) := by omega
      have HCH2 : Hid (Calls Tryz.prog 102 #[.slice A2 L.length c2, .int .i64 (mm : Int)] w2.drew fun e w' => ∃ A' c', e = .returned (.slice A' ms.length c') ∧ OwnI wr w' A' c' ms ∧ Below wr.heap.size wr w') := hide (by rw [HMN.out, ← hmm]; exact HCH.out)
      have HMM := hide hmm
      have hnx : i64ok S'.nx := by have := HG.out.nx; have hq := HLEN.out; have hl := lack_le bl ch0 h5'; simp only [] at this; unfold i64ok; omega
      have hcl : C'.length < 1000000 := by have := HG.out.cl; have h7 := congrArg List.length HG.out.vm.eC; rw [List.length_map] at h7; omega
      clear HCH hmm
      go_wp2_with fail
      refine region_lexg (fun w' => Below wr.heap.size wr w') [21] 0 [(2, 0), (2, 1), (2, 2), (0, 3), (2, 4), (2, 5), (2, 6), (0, 7), (2, 8), (2, 9), (2, 10), (0, 11), (2, 12), (0, 13), (2, 14), (2, 15), (2, 16), (2, 17), (2, 18), (1, 19), (2, 20), (3, 21)] #[true, true, true, true, true, true, true, true, true, true, true, true, true, true, true, true, true, true, true, true, true, true] (by kernel_rfl) (by kernel_rfl) (by decide) (by kernel_rfl) (by kernel_rfl) (fun _ _ _ _ _ h => h) (by (first | exact hr0 | assumption)) (fun hS0 => ?_)
      simp only [List.map_cons, List.map_nil, List.getElem?_toArray, List.getElem?_cons_succ, List.getElem?_cons_zero]
      (apply lexg_pure (by rfl); (focus (intro w; go_simp; (try with_reducible rfl); done)); simp only [Act.put, List.setIfInBounds_toArray, List.set_cons_zero, List.set_cons_succ])
      (apply lexg_pure (by rfl); (focus (intro w; go_simp; (try with_reducible rfl); done)); simp only [Act.put, List.setIfInBounds_toArray, List.set_cons_zero, List.set_cons_succ])
      (apply lexg_pure (by rfl); (focus (intro w; go_simp; (try with_reducible rfl); done)); simp only [Act.put, List.setIfInBounds_toArray, List.set_cons_zero, List.set_cons_succ])
      (apply lexg_take (by rfl); (focus (intro w hw; (try dsimp only at hw); go_simp; (try with_reducible rfl); done)); simp only [Act.put, List.setIfInBounds_toArray, List.set_cons_zero, List.set_cons_succ])
      (apply lexg_pure (by rfl); (focus (intro w; go_simp; (try with_reducible rfl); done)); simp only [Act.put, List.setIfInBounds_toArray, List.set_cons_zero, List.set_cons_succ])
      (apply lexg_pure (by rfl); (focus (intro w; go_simp; (try with_reducible rfl); done)); simp only [Act.put, List.setIfInBounds_toArray, List.set_cons_zero, List.set_cons_succ])
      (apply lexg_pure (by rfl); (focus (intro w; go_simp; (try with_reducible rfl); done)); simp only [Act.put, List.setIfInBounds_toArray, List.set_cons_zero, List.set_cons_succ])
      (apply lexg_take (by rfl); (focus (intro w hw; (try dsimp only at hw); go_simp; (try with_reducible rfl); done)); simp only [Act.put, List.setIfInBounds_toArray, List.set_cons_zero, List.set_cons_succ])
      (apply lexg_pure (by rfl); (focus (intro w; go_simp; (try with_reducible rfl); done)); simp only [Act.put, List.setIfInBounds_toArray, List.set_cons_zero, List.set_cons_succ])
      (apply lexg_pure (by rfl); (focus (intro w; go_simp; (try with_reducible rfl); done)); simp only [Act.put, List.setIfInBounds_toArray, List.set_cons_zero, List.set_cons_succ])
      (apply lexg_pure (by rfl); (focus (intro w; go_simp; (try with_reducible rfl); done)); simp only [Act.put, List.setIfInBounds_toArray, List.set_cons_zero, List.set_cons_succ])
      (apply lexg_take (by rfl); (focus (intro w hw; (try dsimp only at hw); go_simp; (try with_reducible rfl); done)); simp only [Act.put, List.setIfInBounds_toArray, List.set_cons_zero, List.set_cons_succ])
      (apply lexg_pure (by rfl); (focus (intro w; go_simp; (try with_reducible rfl); done)); simp only [Act.put, List.setIfInBounds_toArray, List.set_cons_zero, List.set_cons_succ])
      (apply lexg_take (by rfl); (focus (intro w hw; (try dsimp only at hw); go_simp; (try with_reducible rfl); done)); simp only [Act.put, List.setIfInBounds_toArray, List.set_cons_zero, List.set_cons_succ])
      (apply lexg_pure (by rfl); (focus (intro w; go_simp; (try with_reducible rfl); done)); simp only [Act.put, List.setIfInBounds_toArray, List.set_cons_zero, List.set_cons_succ])
      (apply lexg_pure (by rfl); (focus (intro w; go_simp; (try with_reducible rfl); done)); simp only [Act.put, List.setIfInBounds_toArray, List.set_cons_zero, List.set_cons_succ])
      (apply lexg_pure (by rfl); (focus (intro w; go_simp; (try with_reducible rfl); done)); simp only [Act.put, List.setIfInBounds_toArray, List.set_cons_zero, List.set_cons_succ])
      (apply lexg_pure (by rfl); (focus (intro w; go_simp; (try with_reducible rfl); done)); simp only [Act.put, List.setIfInBounds_toArray, List.set_cons_zero, List.set_cons_succ])
      (apply lexg_pure (by rfl); (focus (intro w; go_simp; (try with_reducible rfl); done)); simp only [Act.put, List.setIfInBounds_toArray, List.set_cons_zero, List.set_cons_succ])
      (refine lexg_eff (by rfl) ?_; go_simp; ((go_at_call 102; with_reducible refine HCH2.out.mono ?_; rintro e w3 ⟨A3, c3, rfl, ho3, hb3⟩; have HO3 := hide ho3; have HB3 := hide hb3; clear ho3)); refine lexg_both (by (first | exact hr0 | assumption)) (fun hS1 => ?_))
      (apply lexg_pure (by rfl); (focus (intro w; go_simp; (try with_reducible rfl); done)); simp only [Act.put, List.setIfInBounds_toArray, List.set_cons_zero, List.set_cons_succ])
      (refine lexg_effN (by rfl) ?_; (refine Tab.wp_put (key := CkM.key) (val := CkM.val) _ _ _ (⟨⟨S'.nx, id, 1, ms, []⟩, A3, c3, none, 0⟩ : CkM) rfl Tryz.underlying62 rfl rfl rfl (HG.out.vm.below HB3.out).t3 hnx hcl ?_; intro w4 ht4 hch4); simp only [Act.put])
      refine lexg_nil (fun _ => wpAnyG_done (by kernel_rfl) ?_ _)
      have vm3 := HG.out.vm.below HB3.out
      have slK : Sl w3 F A3 c3 ms := HO3.out.sl (by have := HMN.out; omega) HG.out.vm.lt
      have vm4 := vm3.put3 ht4 hch4 (fun x hx => by
        rcases (mem_ins vm3.t3.rise).1 hx with rfl | ⟨hx, _⟩
        · exact Or.inr ⟨slK, Sl.nil _ _ _⟩
        · exact Or.inl hx) rfl
      have D4 := (HG.out.blk.below HB3.out).chg hch4 (by simp; omega)
      have O4 := own_chg (own_chg HG.out.own (Chg.of_below (L := []) HB3.out) (fun _ _ hx => by cases hx)) hch4 (fun g hg => by
        rw [ownBlock_slice] at hg
        have := (HG.out.fresh g hg).1
        simp
        omega)
      have C4 := (HG.out.chg.below HB3.out).trans hch4 (fun x hx => Or.inl (by simp at hx ⊢; exact Or.inr hx))
      have b3' := vm4.blk.rule 3 _ rfl
      have v7 := D4.rule 7 _ rfl
      have hwr : wr.heap.size ≤ w4.heap.size := Nat.le_trans HB3.out.size hch4.size
      have hwl : w.heap.size < wr.heap.size := HG.out.blk.lt
      have hF := hide (And.intro hwr hwl)
      have r4 := Below.refl w4.heap.size w4
      have q4 := r4.drew.alloc (by simp) (.cells #[.int .i64 S'.nx] 3)
      have HO4 := hide (own_chg O4 (Chg.of_below (L := []) q4) (fun _ _ hx => by cases hx))
      have HQ4 := hide q4
      have D4' := D4.below q4
      have VM4 := hide vm4
      have HC4 := hide C4
      have HD4 := hide D4'
      have hwrap : IntKind.i64.wrap (S'.nx + 1) = S'.nx + 1 := IntWalk.i64_in _ (by have := HG.out.nx; have hq := HLEN.out; have hl := lack_le bl ch0 h5'; simp only [] at this; omega)
      clear vm3 slK vm4 D4 O4 C4 ht4 hch4 b2 b3 v0 hmin hmin2 hnx hcl hb3 hS0 hS1 hr0 q4 D4' hwr hwl HCH2
      rename_i hunm
      clear hunm
      go_wp2_with fail
      refine region_lexg (fun w' => Below w4.heap.size w4 w') [7] 0 [(2, 0), (0, 1), (2, 2), (2, 3), (2, 4), (0, 5), (1, 6), (3, 7), (2, 8), (3, 9)] #[true, true, true, true, true, true, true, true, true, true] (by kernel_rfl) (by kernel_rfl) (by decide) (by kernel_rfl) (by kernel_rfl) (fun _ _ _ _ _ h => h) (by (first | exact r4.drew | exact HQ4.out)) (fun hS0 => ?_)
      simp only [List.map_cons, List.map_nil, List.getElem?_toArray, List.getElem?_cons_succ, List.getElem?_cons_zero]
      (apply lexg_pure (by rfl); (focus (intro w; go_simp; (try with_reducible rfl); done)); simp only [Act.put, List.setIfInBounds_toArray, List.set_cons_zero, List.set_cons_succ])
      (apply lexg_take (by rfl); (focus (intro w hw; (try dsimp only at hw); go_simp; (try with_reducible rfl); done)); simp only [Act.put, List.setIfInBounds_toArray, List.set_cons_zero, List.set_cons_succ])
      (apply lexg_pure (by rfl); (focus (intro w; go_simp; (try with_reducible rfl); done)); simp only [Act.put, List.setIfInBounds_toArray, List.set_cons_zero, List.set_cons_succ])
      (apply lexg_pure (by rfl); (focus (intro w; go_simp; (try with_reducible rfl); done)); simp only [Act.put, List.setIfInBounds_toArray, List.set_cons_zero, List.set_cons_succ])
      (apply lexg_pure (by rfl); (focus (intro w; go_simp; (try with_reducible rfl); done)); simp only [Act.put, List.setIfInBounds_toArray, List.set_cons_zero, List.set_cons_succ])
      (apply lexg_take (by rfl); (focus (intro w hw; (try dsimp only at hw); go_simp; (try with_reducible rfl); done)); simp only [Act.put, List.setIfInBounds_toArray, List.set_cons_zero, List.set_cons_succ])
      (refine lexg_eff (by rfl) ?_; go_simp; refine lexg_both (by (first | exact r4.drew | exact HQ4.out)) (fun hS1 => ?_))
      (refine lexg_effN (by rfl) ?_; (refine app_wp _ _ 27 rfl 3 i0 _ 1 8 Tryz.underlying27 hi hz0 hz1 hz2 rfl (by decide) (.slice A' ch.length c') ch.length (ch.map (Value.int .i64)) rfl HO4.out w4.heap.size 1 1 [.int .i64 S'.nx] rfl (Blk.new rfl) rfl (by intro u hu; simp at hu; subst hu; rfl) (by decide) (by have := HLEN.out; unfold maxLen; omega) (by have := HLEN.out; omega) ?_; intro g2 cap2 w5 hown5 hch5 hor5 hlt5; rw [ownBlock_slice] at hch5 hor5; have D5 := HD4.out.chg hch5 (fun hx => by have := (HG.out.fresh w.heap.size (by simpa using hx)).1; omega); have e7 : w5.cell? ⟨w.heap.size, 7, none⟩ = some (.slice A' ch.length c') := D5.cell 7; have f7 := D5.frozen 7); simp only [Act.put, List.setIfInBounds_toArray, List.set_cons_zero, List.set_cons_succ])
      (apply lexg_pure (by rfl); (focus (intro w; go_simp; (try with_reducible rfl); done)); simp only [Act.put, List.setIfInBounds_toArray, List.set_cons_zero, List.set_cons_succ])
      (refine lexg_effN (by rfl) ?_; go_simp)
      refine lexg_nil (fun _ => wpAnyG_done (by kernel_rfl) ?_ _)
      rename_i hunm
      clear hunm
      have hfl := hF.out
      have hlt := H.out.lt
      have hb' := hlt b H.out.ib
      have h1' := hlt m1 H.out.i1
      have h2' := hlt m2 H.out.i2
      have h3' := hlt m3 H.out.i3
      have hch5' : Chg (A'.map Addr.block).toList (w4.drew.alloc (.cells #[.int .i64 S'.nx] 3)) w5 := hch5
      have hgA : ∀ x ∈ (A'.map Addr.block).toList, w.heap.size + 1 ≤ x ∧ x ∈ F := fun x hx => HG.out.fresh x (by simpa using hx)
      have hg2 : (g2 ∈ F ∨ (w4.drew.alloc (.cells #[.int .i64 S'.nx] 3)).heap.size ≤ g2) ∧ w.heap.size + 1 ≤ g2 := by
        rcases hor5 with h | h
        · have := HG.out.fresh g2 h
          exact ⟨Or.inl this.2, this.1⟩
        · simp at h
          refine ⟨Or.inr (by simp; omega), by omega⟩
      have vm5 := (VM4.out.below HQ4.out).grow hch5' (fun x hx => ⟨Or.inl (hgA x hx).2, by have := (hgA x hx).1; omega, by have := (hgA x hx).1; omega, by have := (hgA x hx).1; omega, by have := (hgA x hx).1; omega⟩) (G := [g2])
        (fun g hg => by rw [List.mem_singleton.1 hg]; exact ⟨hg2.1, hlt5⟩)
      have hc6 : Chg [w.heap.size] w5 (w5.setCell ⟨w.heap.size, 7, none⟩ (.slice (some ⟨g2, 0, none⟩) (ch.length + 1) cap2)) := (Chg.refl _ _).setCell (Or.inl (by simp)) _
      have D6 := D5.set 7 (.slice (some ⟨g2, 0, none⟩) (ch.length + 1) cap2)
      have O6 := own_chg hown5 hc6 (fun g hg => by
        rw [ownBlock_slice] at hg
        obtain rfl : g2 = g := by simpa using hg
        simp; omega)
      have C6 : Chg [b, m3] w (w5.setCell ⟨w.heap.size, 7, none⟩ (.slice (some ⟨g2, 0, none⟩) (ch.length + 1) cap2)) :=
        ((HC4.out.below HQ4.out).trans hch5' (fun x hx => Or.inr (by have := (hgA x hx).1; omega))).setCell (Or.inr (Nat.le_refl _)) _
      have vm6 := vm5.other hc6 (fun x hx => by
        obtain rfl : x = w.heap.size := by simpa using hx
        exact ⟨Or.inl (by simp [HG.out.iv]), by omega, by omega, by omega, by omega⟩)
      obtain ⟨w6, hw6⟩ : ∃ w6, w5.setCell ⟨w.heap.size, 7, none⟩ (.slice (some ⟨g2, 0, none⟩) (ch.length + 1) cap2) = w6 := ⟨_, rfl⟩
      simp only [hw6] at D6 O6 C6 vm6 ⊢
      have p3 : w6.cell? ⟨b, 3, none⟩ = some (.int .i64 S'.nx) := vm6.blk.cell 3
      have z3 : w6.frozen? ⟨b, 3, none⟩ = false := vm6.blk.frozen 3
      have hc7 : Chg [b] w6 (w6.setCell ⟨b, 3, none⟩ (.int .i64 (S'.nx + 1))) := (Chg.refl _ _).setCell (Or.inl (by simp)) _
      have hrun : growN rem' { S' with cs := (ins CkM.key (⟨⟨S'.nx, id, 1, ms, []⟩, A3, c3, none, 0⟩ : CkM) C').map CkM.k, nx := S'.nx + 1 } id (ch ++ [S'.nx]) cp = growN (lack bl ch0) S id ch0 cp := by
        have hr := HG.out.run
        simp only [growN] at hr
        have hm := ins_map CkM.k Ck.id (⟨⟨S'.nx, id, 1, ms, []⟩, A3, c3, none, 0⟩ : CkM) C'
        rw [HG.out.vm.eC] at hm
        rw [← hr]
        have e1 : min (cp : Int) (S'.sv.length : Int) = ((min cp L.length : Nat) : Int) := by rw [HLN.out, HG.out.sv]; omega
        rw [e1, HL.out, HMS.out]
        exact congrArg (fun l => growN rem' { S' with cs := l, nx := S'.nx + 1 } id (ch ++ [S'.nx]) cp) hm
      have hclen : ((ins CkM.key (⟨⟨S'.nx, id, 1, ms, []⟩, A3, c3, none, 0⟩ : CkM) C').map CkM.k).length + rem' ≤ 100064 := by
        have := HG.out.cl
        have h7 := congrArg List.length HG.out.vm.eC
        rw [List.length_map] at h7 ⊢
        have := ins_le HG.out.vm.t3.rise (⟨⟨S'.nx, id, 1, ms, []⟩, A3, c3, none, 0⟩ : CkM)
        omega
      have GF : GrowSt w no b m1 m2 m3 S V ⟨id, bl, ⟨pr, pw, pl, pb⟩, ver, ch0⟩ cp (w6.setCell ⟨b, 3, none⟩ (.int .i64 (S'.nx + 1))) ([g2] ++ F)
          { S' with cs := (ins CkM.key (⟨⟨S'.nx, id, 1, ms, []⟩, A3, c3, none, 0⟩ : CkM) C').map CkM.k, nx := S'.nx + 1 } (ins CkM.key (⟨⟨S'.nx, id, 1, ms, []⟩, A3, c3, none, 0⟩ : CkM) C') (ch ++ [S'.nx]) (some ⟨g2, 0, none⟩) cap2 rem' := by
        refine ⟨vm6.next (S'.nx + 1), HG.out.sv, HG.out.vs, ?_, ?_, hclen, hrun, ?_, ?_, fun g hg => ?_, fun x hx => List.mem_append_right _ (HG.out.up x hx), fun x hx => ?_, List.mem_append_right _ HG.out.iv, ?_⟩
        · have := HG.out.nx
          simp only [] at this ⊢
          omega
        · have := HLEN.out
          rw [List.length_append, List.length_singleton]
          simp only []
          omega
        · rw [List.length_append, List.length_singleton]
          exact D6.chg hc7 (by simp; omega)
        · rw [List.length_append, List.length_singleton, List.map_append]
          exact own_chg O6 hc7 (fun g hg => by
            rw [ownBlock_slice] at hg
            obtain rfl : g2 = g := by simpa using hg
            simp; omega)
        · obtain rfl : g2 = g := by simpa using hg
          exact ⟨hg2.2, by simp⟩
        · rcases List.mem_append.1 hx with hx | hx
          · rw [List.mem_singleton.1 hx]; exact Or.inr (by omega)
          · exact HG.out.dn x hx
        · exact C6.setCell (Or.inl (by simp)) _
      have HGF := hide GF
      have HM := hide (show measG wr b (S.nx + lack bl ch0) = rem' + 1 from HG.out.meas)
      clear GF vm5 hc6 D6 O6 C6 vm6 hw6 hc7 hrun hclen hg2 hgA hch5' hb' h1' h2' h3' hlt hfl hor5 hch5 hown5 hlt5 D5 e7 f7 hS0 hS1 b3' v7 r4
      go_wp2
      go_roundw
      case rel => exact ⟨_, _, _, _, _, _, _, HGF.out⟩
      case measure =>
        have h9 : measG (w6.setCell ⟨b, 3, none⟩ (.int .i64 (S'.nx + 1))) b (S.nx + lack bl ch0) = rem' := HGF.out.meas
        rw [h9, HM.out]
        omega
end Go.Proofs.YtcgecalbgkkinaaGreat
