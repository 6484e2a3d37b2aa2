/- One text of: Awk. -/
import Derived.Test.YtanfdnpnkdiiiaaGreatQMad
import Derived.Test.YtanfdnpnkdiiiaaGreatQCB
import Derived.Test.YtanfdnpnkdiiiaaGreatQCl9
namespace Go.Proofs.YtanfdnpnkdiiiaaGreat
open Go.RowKit Go.Proofs Go.Maps
set_option linter.unusedVariables false
set_option linter.unusedSimpArgs false

def val16 (v : Nat) : List Nat := [v, 0, 0, 0, 0, 0, 0, 0, 0, 0, 0, 0, 0, 0, 0, if v = 0 then 0 else 7]
set_option maxHeartbeats 2000000 in
set_option maxRecDepth 100000 in
theorem value_calls (v : Nat) (hv : v ≤ 255) (w : World) : Calls Tryz.prog 14 #[.int .i64 v] w fun e w' => ∃ b, e = .returned (.slice (some ⟨b, 0, none⟩) 16 16) ∧ Blk w' b 5 (bys (val16 v)) ∧ w.heap.size ≤ b ∧ Below w.heap.size w w' := by
  have hc : IntKind.u8.wrap (v : Int) = v := IntWalk.u8_in _ (by omega)
  obtain ⟨i0, hi, hz0, hz1, hz2⟩ := info_parts Tryz.infoB
  have hmk : ∀ w : World, (Instr.makeSlice 23 (.int .i64 16) (.int .i64 16)).run Tryz.prog w = .ok (.slice (some ⟨w.heap.size, 0, none⟩) 16 16) (w.alloc (.cells #[.int .u8 0, .int .u8 0, .int .u8 0, .int .u8 0, .int .u8 0, .int .u8 0, .int .u8 0, .int .u8 0, .int .u8 0, .int .u8 0, .int .u8 0, .int .u8 0, .int .u8 0, .int .u8 0, .int .u8 0, .int .u8 0] 5)) := fun _ => by kernel_rfl
  by_cases h0 : v = 0
  · have hc0 : IntKind.u8.wrap 0 = 0 := IntWalk.u8_in _ (by omega)
    have hv0 : ¬ (0 : Int) < 0 := by omega
    subst h0
    go_enter Tryz.func14, Tryz.ntmps14
    go_wp2
    go_ret
    exact ⟨w.heap.size, rfl, Blk.new rfl, Nat.le_refl _, belowL (Below.refl _ _) _⟩
  · have h1 : (0 : Int) < v := by omega
    have H0 := hide h0
    clear h0
    go_enter Tryz.func14, Tryz.ntmps14
    go_wp2
    go_ret
    refine ⟨w.heap.size, rfl, ?_, Nat.le_refl _, belowL (Below.refl _ _) _⟩
    have e : bys (val16 v) = [.int .u8 v, .int .u8 0, .int .u8 0, .int .u8 0, .int .u8 0, .int .u8 0, .int .u8 0, .int .u8 0, .int .u8 0, .int .u8 0, .int .u8 0, .int .u8 0, .int .u8 0, .int .u8 0, .int .u8 0, .int .u8 7] := by
      unfold val16
      rw [if_neg H0.out]
      rfl
    rw [e]
    exact Blk.new rfl
def k27 : Wk := ⟨3, 7, 2, [], 0, 0, true⟩
def t27 : Trk := Trk.zero.beg 0
theorem y27a : (⟨3, 0, .zero, none, none, []⟩ : Cl).begin mPr 3 7 2 = ⟨3, 1, t27, some k27, none, [⟨40, [1, 3, 1, 3, 7, 4, 0, 0], 0⟩]⟩ := by
  simp [Cl.begin, Cl.next, Cl.send, Wk.at_, Wk.post, mPr, k27, t27, Trk.zero_delta]
theorem t27d : (t27.fin 0 2).delta 1 = ⟨1, 0⟩ := by
  simp [t27, Trk.fin, Trk.delta, Trk.now, Trk.beg, upC, Trk.zero, Cnt.less, Cnt.more, Cnt.zero]
theorem y27b : (⟨3, 1, t27, some k27, none, []⟩ : Cl).okay mPr k27 0 2 (val16 5) = ⟨3, 2, (t27.fin 0 2).beg 1, some ⟨3, 7, 2, val16 5, 1, 0, true⟩, none, [⟨41, [2, 3, 2, 3, 0, 4, 1, 0], 0⟩]⟩ := by
  simp [Cl.okay, Cl.next, Cl.send, Wk.at_, Wk.post, mPr, k27, t27d]
/-- one message that was fetched -/
theorem PoS.one {w : World} {F : List Nat} {A : Option Addr} {P : List PoM} {po : Po} (h : PoS w F A P) (hP : P.map PoM.p = [po]) : ∃ b o nb B c, A = some ⟨b, o, none⟩ ∧ P.length = 1 ∧ b < w.heap.size ∧ b ∉ F ∧ w.cell? ⟨b, o, none⟩ = some (.int .i64 po.dst) ∧ w.cell? ⟨b, o + 1, none⟩ = some (.int .i64 15) ∧ w.cell? ⟨b, o + 2, none⟩ = some (.slice (some ⟨nb, 0, none⟩) 8 8) ∧ w.cell? ⟨b, o + 3, none⟩ = some (.slice B po.b c) ∧ w.cell? ⟨b, o + 4, none⟩ = some (.slice none 0 0) ∧ Blk w nb 3 (po.n.map (Value.int .i64)) ∧ nb ∉ F := by
  obtain ⟨x, rfl⟩ : ∃ x, P = [x] := by
    cases P with
    | nil => cases hP
    | cons x t =>
      cases t with
      | nil => exact ⟨x, rfl⟩
      | cons y t => simp at hP
  simp only [List.map_cons, List.map_nil, List.cons.injEq, and_true] at hP
  subst hP
  obtain ⟨b, o, e, hb, hc⟩ := h.rd.2 (by simp)
  have hok := h.ok x (by simp)
  have hcc := fun j u (hu : (PoM.cells x)[j]? = some u) => hc j u (by simpa [poCells] using hu)
  exact ⟨b, o, x.nb, x.B, x.c, e, rfl, hb, (h.no _ e).2.1, hcc 0 _ rfl, hcc 1 _ rfl, hcc 2 _ rfl, hcc 3 _ rfl, hcc 4 _ rfl, hok.blk, hok.no⟩
theorem CO.cm {w w' : World} {F : List Nat} {c n : Nat} {so : Option Vw} {pr : Prim} {X : Cl} (h : CO w w' F c so pr n X) : ∃ F', CM w' F' c so pr n X ∧ Chg F w w' ∧ ∀ z ∈ F', z ∈ F ∨ w.heap.size ≤ z := h
theorem VF.ofK {w : World} {b c mt n : Nat} {S : Vst} {cs : List Value} (h : VSK [c, mt] w b S n) (hc : Blk w c 62 cs) (hg : GM w mt 0 (fun _ => none)) (h1 : S.sv ≠ []) (h2 : S.vs ≠ []) (h3 : S.cs ≠ []) : VF [c, mt] w b S := by
  obtain ⟨_, no, m1, m2, m3, V, C, hv, hk⟩ := h
  exact VF.of hv hk hc hg h1 h2 h3
set_option maxHeartbeats 16000000 in
set_option maxRecDepth 100000 in
theorem awake27_calls (W : World) : Calls Tryz.prog 6 #[] W fun e w' => e = .returned (.bool true) ∧ Below W.heap.size W w' := by
  go_enter Tryz.func6, Tryz.ntmps6
  go_wp2_with fail
  refine (cnew_calls 3 (by omega) mPr _).mono ?_
  rintro e w1 ⟨c, F, mt, rfl, rfl, hg1, hc1, hb1, hf1⟩
  have HB1 := hide hb1
  have HC1 := hide (And.intro hg1 (And.intro hc1 hf1))
  clear hb1 hg1 hc1 hf1
  go_wp2_with fail
  refine (made_calls [c, mt] w1 HC1.out.2.1.lt 20 3 mS_20 (by omega)).mono ?_
  rintro e w2 ⟨sb, rfl, hv2, hser, hb2, hsb⟩
  have HB2 := hide (HB1.out.trans (hb2.mono HB1.out.size))
  have HC2 := hide (And.intro (HC1.out.1.below hb2) (And.intro (HC1.out.2.1.below hb2) (And.intro hv2 hser)))
  clear hb2 hv2 hser hsb
  have HBN := hide (cbegin_none HC2.out.2.1 rfl rfl 0 1 (by omega))
  go_wp2_with fail
  refine HBN.out.mono ?_
  rintro e w3 ⟨rfl, rfl⟩
  have HVW := hide (cview_calls HC2.out.2.1 rfl HC2.out.1 HC2.out.2.2.1.vs (by omega) HC2.out.2.2.2 (by simp [mS]) (by simp [mS]) (by simp [mS, mCk, List.range, List.range.loop]))
  clear HBN
  go_wp2_with fail
  refine HVW.out.mono ?_
  rintro e w4 ⟨rfl, xb, hc4, hch4⟩
  have HCF := HC1.out.2.2
  have hb4 : Below W.heap.size W w4 := Chg.onto HB2.out HB2.out.size hch4 (fun z hz => by rw [List.mem_singleton.1 hz]; exact HCF c (by simp))
  have HB4 := hide hb4
  have HBG := hide (cbegin_calls hc4 rfl rfl (mPr_seen 20 3 (by omega) (by omega)) 3 7 2 (by omega) (by omega) (by omega) (by omega) (A := none) (cap := 0) (L := []) (Rb.nil _ _ _) (by omega) (by simp) (by omega) (by simp) (by simp))
  rw [y27a] at HBG
  clear hc4 hch4 hb4 HVW
  go_wp2_with fail
  refine HBG.out.mono ?_
  rintro e w5 ⟨rfl, F5, hc5, hch5, hf5⟩
  have hF5 : ∀ z ∈ F5, W.heap.size ≤ z := fun z hz => by
    rcases hf5 z hz with h3 | h3
    · exact HCF z h3
    · exact Nat.le_trans HB4.out.size h3
  have hb5 : Below W.heap.size W w5 := Chg.onto HB4.out HB4.out.size hch5 HCF
  have HB5 := hide (And.intro hb5 hF5)
  have HOU := hide (cout_calls hc5)
  clear hc5 hch5 hf5 hb5 hF5 HBG
  go_wp2_with fail
  refine HOU.out.mono ?_
  rintro e w6 ⟨A, cap, P, F6, rfl, hP, hps, hcap, hc6, hch6, hf6⟩
  (try simp only [] at hP)
  obtain ⟨b, o, nb, Bm, cm, rfl, hl, hbl, hbF, e0, e1, e2, e3, e4, hN, hnF⟩ := hps.one hP
  rw [hl]
  have hb6 : Below W.heap.size W w6 := Chg.onto HB5.out.1 HB5.out.1.size hch6 HB5.out.2
  have HB6 := hide (And.intro hb6 (fun z (hz : z ∈ F6) => HB5.out.2 z (hf6 z hz)))
  have HC6 := hide hc6
  have HPS := hide (And.intro hps (And.intro hP (And.intro hbl (And.intro hbF (And.intro hN hnF)))))
  have r6 := Below.refl w6.heap.size w6
  have e0' : ∀ w', Below w6.heap.size w6 w' → w'.cell? ⟨b, o, none⟩ = some (.int .i64 40) := fun w' hb => (hb.cell (p := ⟨b, o, none⟩) hbl).trans e0
  have e2' : ∀ w', Below w6.heap.size w6 w' → w'.cell? ⟨b, o + 2, none⟩ = some (.slice (some ⟨nb, 0, none⟩) 8 8) := fun w' hb => (hb.cell (p := ⟨b, o + 2, none⟩) hbl).trans e2
  have n2' : ∀ w', Below w6.heap.size w6 w' → w'.cell? ⟨nb, 2, none⟩ = some (.int .i64 1) := hN.rule 2 _ rfl
  have HHD : Hid (∀ w' n2 bb, Below w6.heap.size w6 w' → w6.heap.size ≤ n2 → w6.heap.size ≤ bb → Blk w' n2 3 [.int .i64 3, .int .i64 1, .int .i64 0, .int .i64 2] → Blk w' bb 5 (bys (val16 5)) → Calls Tryz.prog 12 #[.pointer (some ⟨c, 0, none⟩), .int .i64 40, .agg #[.int .i64 16, .slice (some ⟨n2, 0, none⟩) 4 4, .slice (some ⟨bb, 0, none⟩) 16 16, .slice none 0 0]] w' fun e w'' => e = .returned (.tuple #[]) ∧
      ∃ F7, CM w'' F7 c (some (xb, mS 20 3)) mPr 3 ⟨3, 2, (t27.fin 0 2).beg 1, some ⟨3, 7, 2, val16 5, 1, 0, true⟩, none, [⟨41, [2, 3, 2, 3, 0, 4, 1, 0], 0⟩]⟩ ∧ Chg F6 w6 w'' ∧ ∀ z ∈ F7, z ∈ F6 ∨ w6.heap.size ≤ z) := hide (fun w' n2 bb hb h1 h2 hn2 hbb => by
    have h3 := chandle_ok (k := k27) (HC6.out.below hb) rfl (mPr_seen 20 3 (by omega) (by omega)) (by simp [k27]) (by simp [k27]) (nb := n2) (p := 2) (fr := 40) hn2 (fun hx => by have := HC6.out.lt n2 hx; omega) (B := some ⟨bb, 0, none⟩) (cB := 16) (L := val16 5)
      ⟨by simp [val16], ⟨by simp [val16, bys], fun _ => ⟨bb, 0, rfl, hbb.lt, fun j u hu => by rw [Nat.zero_add, hbb.cell j]; exact hu⟩⟩, fun a ha => by cases ha; exact ⟨rfl, fun hx => by have := HC6.out.lt bb hx; omega, hbb.lt⟩⟩ (by simp [val16]) (by simp [val16]) (by simp [k27]) (by unfold i64ok; omega) (by omega) (by simp) (by simp)
    rw [show ((40 : Int) - 40) = 0 from rfl, y27b] at h3
    refine h3.mono fun e w'' ⟨he, F7, hc7, hch7, hf7⟩ => ⟨he, F7, hc7, (Chg.of_below (L := F6) hb).trans hch7 (fun z hz => Or.inl hz), fun z hz => (hf7 z hz).imp id (fun h5 => Nat.le_trans hb.size h5)⟩)
  clear hP hps hc6 hch6 hf6 hb6 e0 e1 e2 e3 e4 hbl hbF hN hnF HOU hcap HCF
  go_wp2_with fail
  refine region_lexg (fun w' => Below w6.heap.size w6 w') [15] 4 [(2, 0), (2, 1), (2, 2), (2, 3), (0, 4), (2, 5), (2, 6), (2, 7), (2, 8), (0, 9), (2, 10), (0, 11)] #[true, true, true, true, true, true, true, true, true, true, true, true, false, false, false, false] (by kernel_rfl) (by kernel_rfl) (by decide) (by kernel_rfl) (by kernel_rfl) (fun _ _ _ _ _ h => h) (by (first | (with_reducible assumption) | (repeat (first | (with_reducible assumption) | (with_reducible refine Below.drew ?_) | (with_reducible refine belowL ?_ _))))) (fun hS0 => ?_)
  simp only [List.map_cons, List.map_nil, List.getElem?_toArray, List.getElem?_cons_succ, List.getElem?_cons_zero]
  (apply lexg_pure (by rfl); (focus (intro w; go_simp; (try with_reducible rfl); done)); simp only [Act.put, List.setIfInBounds_toArray, List.set_cons_zero, List.set_cons_succ])
  (apply lexg_pure (by rfl); (focus (intro w; go_simp; (try with_reducible rfl); done)); simp only [Act.put, List.setIfInBounds_toArray, List.set_cons_zero, List.set_cons_succ])
  (apply lexg_pure (by rfl); (focus (intro w; go_simp; (try with_reducible rfl); done)); simp only [Act.put, List.setIfInBounds_toArray, List.set_cons_zero, List.set_cons_succ])
  (apply lexg_pure (by rfl); (focus (intro w; go_simp; (try with_reducible rfl); done)); simp only [Act.put, List.setIfInBounds_toArray, List.set_cons_zero, List.set_cons_succ])
  (apply lexg_take (by rfl); (focus (intro w hw; (try dsimp only at hw); go_simp; (try with_reducible rfl); done)); simp only [Act.put, List.setIfInBounds_toArray, List.set_cons_zero, List.set_cons_succ])
  (apply lexg_pure (by rfl); (focus (intro w; go_simp; (try with_reducible rfl); done)); simp only [Act.put, List.setIfInBounds_toArray, List.set_cons_zero, List.set_cons_succ])
  (apply lexg_pure (by rfl); (focus (intro w; go_simp; (try with_reducible rfl); done)); simp only [Act.put, List.setIfInBounds_toArray, List.set_cons_zero, List.set_cons_succ])
  (apply lexg_pure (by rfl); (focus (intro w; go_simp; (try with_reducible rfl); done)); simp only [Act.put, List.setIfInBounds_toArray, List.set_cons_zero, List.set_cons_succ])
  (apply lexg_pure (by rfl); (focus (intro w; go_simp; (try with_reducible rfl); done)); simp only [Act.put, List.setIfInBounds_toArray, List.set_cons_zero, List.set_cons_succ])
  (apply lexg_take (by rfl); (focus (intro w hw; (try dsimp only at hw); go_simp; (try with_reducible rfl); done)); simp only [Act.put, List.setIfInBounds_toArray, List.set_cons_zero, List.set_cons_succ])
  (apply lexg_pure (by rfl); (focus (intro w; go_simp; (try with_reducible rfl); done)); simp only [Act.put, List.setIfInBounds_toArray, List.set_cons_zero, List.set_cons_succ])
  (apply lexg_take (by rfl); (focus (intro w hw; (try dsimp only at hw); go_simp; (try with_reducible rfl); done)); simp only [Act.put, List.setIfInBounds_toArray, List.set_cons_zero, List.set_cons_succ])
  refine lexg_nil (fun hS2 => ?_)
  refine lexg_fork2 (i := 12) (j := 13) (by kernel_rfl) (by kernel_rfl : _ = #[true, true, true, true, true, true, true, true, true, true, true, true, true, false, false, false]) (by kernel_rfl : _ = #[true, true, true, true, true, true, true, true, true, true, true, true, false, true, false, false]) ?_ ?_
  focus
    apply lexg_act (by simp only [List.getElem?_toArray, List.getElem?_cons_succ, List.getElem?_cons_zero]; rfl) (by rfl)
    go_simp
    refine lexg_both (by (first | (with_reducible assumption) | (repeat (first | (with_reducible assumption) | (with_reducible refine Below.drew ?_) | (with_reducible refine belowL ?_ _))))) (fun hS1 => ?_)
    refine lexg_more 0 [(1, 13), (2, 14), (3, 15)] #[true, true, true, true, true, true, true, true, true, true, true, true, true, true, true, true] (by kernel_rfl) (by decide) (by kernel_rfl) (by kernel_rfl) (fun _ _ _ _ _ h => h) (fun _ => by assumption) ?_
    simp only [List.map_cons, List.map_nil, List.getElem?_toArray, List.getElem?_cons_succ, List.getElem?_cons_zero]
    (refine lexg_eff (by rfl) ?_; go_simp; (first
            | (go_at_call 14; refine (value_calls 5 (by omega) _).mono ?_; rintro e w7 ⟨bb, rfl, hbb, hbl7, hb7⟩; have hb7q : Below w6.heap.size w6 w7 := belowA hb7 (by (repeat (first | (with_reducible assumption) | (with_reducible refine Below.drew ?_) | (with_reducible refine belowL ?_ _)))); have hbl8 : w6.heap.size ≤ bb := (by first | exact hbl7 | (simp at hbl7; omega)); (try (have hn2 : Blk w7 w6.heap.size 3 [.int .i64 3, .int .i64 1, .int .i64 0, .int .i64 2] := (by refine Blk.below ?_ hb7; first | exact Blk.new rfl | exact Blk.drewT (Blk.new rfl) | exact Blk.drewT (Blk.drewT (Blk.new rfl))))); have H7 := hide (And.intro hbb hbl8); clear hbb hbl7 hbl8 hb7)
            | (go_at_call 12; refine (HHD.out w7 w6.heap.size bb hb7q (Nat.le_refl _) H7.out.2 hn2 H7.out.1).mono ?_; rintro e w8 ⟨rfl, h8⟩; have H8 := hide h8; clear h8)
            | (go_at_call 12; refine (HHD.out _ w7.heap.size bb (belowL hb7q _) hb7q.size H7.out.2 (Blk.new rfl) (H7.out.1.alloc _)).mono ?_; rintro e w8 ⟨rfl, h8⟩; have H8 := hide h8; clear h8)); refine lexg_both (by (first | (with_reducible assumption) | (repeat (first | (with_reducible assumption) | (with_reducible refine Below.drew ?_) | (with_reducible refine belowL ?_ _))))) (fun hS1 => ?_))
    (apply lexg_pure (by rfl); (focus (intro w; go_simp; (try with_reducible rfl); done)); simp only [Act.put, List.setIfInBounds_toArray, List.set_cons_zero, List.set_cons_succ])
    (refine lexg_effN (by rfl) ?_; go_simp; (first
            | (go_at_call 14; refine (value_calls 5 (by omega) _).mono ?_; rintro e w7 ⟨bb, rfl, hbb, hbl7, hb7⟩; have hb7q : Below w6.heap.size w6 w7 := belowA hb7 (by (repeat (first | (with_reducible assumption) | (with_reducible refine Below.drew ?_) | (with_reducible refine belowL ?_ _)))); have hbl8 : w6.heap.size ≤ bb := (by first | exact hbl7 | (simp at hbl7; omega)); (try (have hn2 : Blk w7 w6.heap.size 3 [.int .i64 3, .int .i64 1, .int .i64 0, .int .i64 2] := (by refine Blk.below ?_ hb7; first | exact Blk.new rfl | exact Blk.drewT (Blk.new rfl) | exact Blk.drewT (Blk.drewT (Blk.new rfl))))); have H7 := hide (And.intro hbb hbl8); clear hbb hbl7 hbl8 hb7)
            | (go_at_call 12; refine (HHD.out w7 w6.heap.size bb hb7q (Nat.le_refl _) H7.out.2 hn2 H7.out.1).mono ?_; rintro e w8 ⟨rfl, h8⟩; have H8 := hide h8; clear h8)
            | (go_at_call 12; refine (HHD.out _ w7.heap.size bb (belowL hb7q _) hb7q.size H7.out.2 (Blk.new rfl) (H7.out.1.alloc _)).mono ?_; rintro e w8 ⟨rfl, h8⟩; have H8 := hide h8; clear h8)))
    refine lexg_nil (fun _ => wpAnyG_done (by kernel_rfl) ?_ _)
  rotate_left
  focus
    apply lexg_act (by simp only [List.getElem?_toArray, List.getElem?_cons_succ, List.getElem?_cons_zero]; rfl) (by rfl)
    go_simp
    (first
            | (go_at_call 14; refine (value_calls 5 (by omega) _).mono ?_; rintro e w7 ⟨bb, rfl, hbb, hbl7, hb7⟩; have hb7q : Below w6.heap.size w6 w7 := belowA hb7 (by (repeat (first | (with_reducible assumption) | (with_reducible refine Below.drew ?_) | (with_reducible refine belowL ?_ _)))); have hbl8 : w6.heap.size ≤ bb := (by first | exact hbl7 | (simp at hbl7; omega)); (try (have hn2 : Blk w7 w6.heap.size 3 [.int .i64 3, .int .i64 1, .int .i64 0, .int .i64 2] := (by refine Blk.below ?_ hb7; first | exact Blk.new rfl | exact Blk.drewT (Blk.new rfl) | exact Blk.drewT (Blk.drewT (Blk.new rfl))))); have H7 := hide (And.intro hbb hbl8); clear hbb hbl7 hbl8 hb7)
            | (go_at_call 12; refine (HHD.out w7 w6.heap.size bb hb7q (Nat.le_refl _) H7.out.2 hn2 H7.out.1).mono ?_; rintro e w8 ⟨rfl, h8⟩; have H8 := hide h8; clear h8)
            | (go_at_call 12; refine (HHD.out _ w7.heap.size bb (belowL hb7q _) hb7q.size H7.out.2 (Blk.new rfl) (H7.out.1.alloc _)).mono ?_; rintro e w8 ⟨rfl, h8⟩; have H8 := hide h8; clear h8))
    refine lexg_both (by (first | (with_reducible assumption) | (repeat (first | (with_reducible assumption) | (with_reducible refine Below.drew ?_) | (with_reducible refine belowL ?_ _))))) (fun hS1 => ?_)
    refine lexg_more 0 [(1, 12), (2, 14), (3, 15)] #[true, true, true, true, true, true, true, true, true, true, true, true, true, true, true, true] (by kernel_rfl) (by decide) (by kernel_rfl) (by kernel_rfl) (fun _ _ _ _ _ h => h) (fun _ => by assumption) ?_
    simp only [List.map_cons, List.map_nil, List.getElem?_toArray, List.getElem?_cons_succ, List.getElem?_cons_zero]
    (refine lexg_eff (by rfl) ?_; go_simp; refine lexg_both (by (first | (with_reducible assumption) | (repeat (first | (with_reducible assumption) | (with_reducible refine Below.drew ?_) | (with_reducible refine belowL ?_ _))))) (fun hS1 => ?_))
    (apply lexg_pure (by rfl); (focus (intro w; go_simp; (try with_reducible rfl); done)); simp only [Act.put, List.setIfInBounds_toArray, List.set_cons_zero, List.set_cons_succ])
    (refine lexg_effN (by rfl) ?_; go_simp; (first
            | (go_at_call 14; refine (value_calls 5 (by omega) _).mono ?_; rintro e w7 ⟨bb, rfl, hbb, hbl7, hb7⟩; have hb7q : Below w6.heap.size w6 w7 := belowA hb7 (by (repeat (first | (with_reducible assumption) | (with_reducible refine Below.drew ?_) | (with_reducible refine belowL ?_ _)))); have hbl8 : w6.heap.size ≤ bb := (by first | exact hbl7 | (simp at hbl7; omega)); (try (have hn2 : Blk w7 w6.heap.size 3 [.int .i64 3, .int .i64 1, .int .i64 0, .int .i64 2] := (by refine Blk.below ?_ hb7; first | exact Blk.new rfl | exact Blk.drewT (Blk.new rfl) | exact Blk.drewT (Blk.drewT (Blk.new rfl))))); have H7 := hide (And.intro hbb hbl8); clear hbb hbl7 hbl8 hb7)
            | (go_at_call 12; refine (HHD.out w7 w6.heap.size bb hb7q (Nat.le_refl _) H7.out.2 hn2 H7.out.1).mono ?_; rintro e w8 ⟨rfl, h8⟩; have H8 := hide h8; clear h8)
            | (go_at_call 12; refine (HHD.out _ w7.heap.size bb (belowL hb7q _) hb7q.size H7.out.2 (Blk.new rfl) (H7.out.1.alloc _)).mono ?_; rintro e w8 ⟨rfl, h8⟩; have H8 := hide h8; clear h8)))
    refine lexg_nil (fun _ => wpAnyG_done (by kernel_rfl) ?_ _)
  rotate_left
  · skip
    rename_i hunm
    clear hunm
    obtain ⟨F7, hc7, hch7, hf7⟩ := H8.out
    have hp8 := HPS.out.1.chg hch7 (fun z hz => Or.inl hz) (F' := F7) hf7
    have hb8 : Below W.heap.size W w8 := Chg.onto HB6.out.1 HB6.out.1.size hch7 HB6.out.2
    have hF8 : ∀ z ∈ F7, W.heap.size ≤ z := fun z hz => (hf7 z hz).elim (fun h3 => HB6.out.2 z h3) (fun h3 => Nat.le_trans HB6.out.1.size h3)
    have HP8 := hide (And.intro hp8 (And.intro hb8 hF8))
    have HO8 := hide (cout_calls hc7)
    clear hc7 hch7 hf7 hp8 hb8 hF8 e0' e2' n2' r6 hS1
    (try clear hS0 hS2 hn2 hb7q)
    go_wp2_with fail
    refine HO8.out.mono ?_
    rintro e w9 ⟨A2, cap2, P2, F8, rfl, hP2, hps2, hcap2, hc9, hch9, hf9⟩
    (try simp only [] at hP2)
    obtain ⟨b2, o2, nb2, Bm2, cm2, rfl, hl2, hbl2, hbF2, f0, f1, f2, f3, f4, hN2, hnF2⟩ := hps2.one hP2
    rw [hl2]
    have hpa := HP8.out.1.chg hch9 (fun z hz => Or.inl hz) (F' := F8) (fun z hz => Or.inl (hf9 z hz))
    obtain ⟨b3, o3, nb3, Bm3, cm3, he3, _, hbl3, _, g0, _, _, _, _, _, _⟩ := hpa.one HPS.out.2.1
    simp only [Option.some.injEq, Addr.mk.injEq, and_true] at he3
    obtain ⟨rfl, rfl⟩ := he3
    have r9 := Below.refl w9.heap.size w9
    have x0 : ∀ w', Below w9.heap.size w9 w' → w'.cell? ⟨b, o, none⟩ = some (.int .i64 40) := fun w' hb => (hb.cell (p := ⟨b, o, none⟩) hbl3).trans g0
    have y0 : ∀ w', Below w9.heap.size w9 w' → w'.cell? ⟨b2, o2, none⟩ = some (.int .i64 41) := fun w' hb => (hb.cell (p := ⟨b2, o2, none⟩) hbl2).trans f0
    have y2 : ∀ w', Below w9.heap.size w9 w' → w'.cell? ⟨b2, o2 + 2, none⟩ = some (.slice (some ⟨nb2, 0, none⟩) 8 8) := fun w' hb => (hb.cell (p := ⟨b2, o2 + 2, none⟩) hbl2).trans f2
    have z2 : ∀ w', Below w9.heap.size w9 w' → w'.cell? ⟨nb2, 2, none⟩ = some (.int .i64 2) := hN2.rule 2 _ rfl
    have z4 : ∀ w', Below w9.heap.size w9 w' → w'.cell? ⟨nb2, 4, none⟩ = some (.int .i64 0) := hN2.rule 4 _ rfl
    have z6 : ∀ w', Below w9.heap.size w9 w' → w'.cell? ⟨nb2, 6, none⟩ = some (.int .i64 1) := hN2.rule 6 _ rfl
    have z7 : ∀ w', Below w9.heap.size w9 w' → w'.cell? ⟨nb2, 7, none⟩ = some (.int .i64 0) := hN2.rule 7 _ rfl
    have HBS := hide (fun w' (hb : Below w9.heap.size w9 w') => cbusy_calls (hc9.below hb))
    have HB9 := hide (Chg.onto HP8.out.2.1 HP8.out.2.1.size hch9 HP8.out.2.2)
    clear hP2 hps2 hcap2 hc9 hch9 hf9 hbl2 hbF2 f0 f1 f2 f3 f4 hN2 hnF2 hpa hbl3 g0
    go_upto_region 12 with fail
    refine region_q (fun w' => Below w9.heap.size w9 w') (by kernel_rfl) (by kernel_rfl) (by (exact r9.drew)) ?_
    (refine wq_step (fun K hK => ?_); apply q_take (by rfl); (focus (intro w hw; (try dsimp only at hw); go_simp; (try with_reducible rfl); done)); simp only [Act.put, List.setIfInBounds_toArray, List.set_cons_zero, List.set_cons_succ]; refine hK _ ?_; clear hK K)
    (refine wq_step (fun K hK => ?_); apply q_take (by rfl); (focus (intro w hw; (try dsimp only at hw); go_simp; (try with_reducible rfl); done)); simp only [Act.put, List.setIfInBounds_toArray, List.set_cons_zero, List.set_cons_succ]; refine hK _ ?_; clear hK K)
    (refine wq_step (fun K hK => ?_); apply q_take (by rfl); (focus (intro w hw; (try dsimp only at hw); go_simp; (try with_reducible rfl); done)); simp only [Act.put, List.setIfInBounds_toArray, List.set_cons_zero, List.set_cons_succ]; refine hK _ ?_; clear hK K)
    (refine wq_step (fun K hK => ?_); apply q_take (by rfl); (focus (intro w hw; (try dsimp only at hw); go_simp; (try with_reducible rfl); done)); simp only [Act.put, List.setIfInBounds_toArray, List.set_cons_zero, List.set_cons_succ]; refine hK _ ?_; clear hK K)
    (refine wq_step (fun K hK => ?_); apply q_take (by kernel_rfl); (focus (intro w hw; (try dsimp only at hw); go_simp; (try with_reducible rfl); done)); simp only [Act.put, List.setIfInBounds_toArray, List.set_cons_zero, List.set_cons_succ]; refine hK _ ?_; clear hK K)
    (refine wq_step (fun K hK => ?_); apply q_take (by kernel_rfl); (focus (intro w hw; (try dsimp only at hw); go_simp; (try with_reducible rfl); done)); simp only [Act.put, List.setIfInBounds_toArray, List.set_cons_zero, List.set_cons_succ]; refine hK _ ?_; clear hK K)
    (refine wq_step (fun K hK => ?_); apply q_take (by kernel_rfl); (focus (intro w hw; (try dsimp only at hw); go_simp; (try with_reducible rfl); done)); simp only [Act.put, List.setIfInBounds_toArray, List.set_cons_zero, List.set_cons_succ]; refine hK _ ?_; clear hK K)
    (refine wq_step (fun K hK => ?_); apply q_take (by kernel_rfl); (focus (intro w hw; (try dsimp only at hw); go_simp; (try with_reducible rfl); done)); simp only [Act.put, List.setIfInBounds_toArray, List.set_cons_zero, List.set_cons_succ]; refine hK _ ?_; clear hK K)
    (refine wq_step (fun K hK => ?_); apply q_take (by kernel_rfl); (focus (intro w hw; (try dsimp only at hw); go_simp; (try with_reducible rfl); done)); simp only [Act.put, List.setIfInBounds_toArray, List.set_cons_zero, List.set_cons_succ]; refine hK _ ?_; clear hK K)
    (refine wq_step (fun K hK => ?_); apply q_take (by kernel_rfl); (focus (intro w hw; (try dsimp only at hw); go_simp; (try with_reducible rfl); done)); simp only [Act.put, List.setIfInBounds_toArray, List.set_cons_zero, List.set_cons_succ]; refine hK _ ?_; clear hK K)
    (refine wq_step (fun K hK => ?_); apply q_take (by kernel_rfl); (focus (intro w hw; (try dsimp only at hw); go_simp; (try with_reducible rfl); done)); simp only [Act.put, List.setIfInBounds_toArray, List.set_cons_zero, List.set_cons_succ]; refine hK _ ?_; clear hK K)
    (refine wq_step (fun K hK => ?_); apply q_take (by kernel_rfl); (focus (intro w hw; (try dsimp only at hw); go_simp; (try with_reducible rfl); done)); simp only [Act.put, List.setIfInBounds_toArray, List.set_cons_zero, List.set_cons_succ]; refine hK _ ?_; clear hK K)
    (refine wq_step (fun K hK => ?_); apply q_take (by kernel_rfl); (focus (intro w hw; (try dsimp only at hw); go_simp; (try with_reducible rfl); done)); simp only [Act.put, List.setIfInBounds_toArray, List.set_cons_zero, List.set_cons_succ]; refine hK _ ?_; clear hK K)
    (refine wq_step (fun K hK => ?_); apply q_take (by rfl); (focus (intro w hw; (try dsimp only at hw); go_simp; (try with_reducible rfl); done)); simp only [Act.put, List.setIfInBounds_toArray, List.set_cons_zero, List.set_cons_succ]; refine hK _ ?_; clear hK K)
    (refine wq_step (fun K hK => ?_); apply q_take (by rfl); (focus (intro w hw; (try dsimp only at hw); go_simp; (try with_reducible rfl); done)); simp only [Act.put, List.setIfInBounds_toArray, List.set_cons_zero, List.set_cons_succ]; refine hK _ ?_; clear hK K)
    (refine wq_step (fun K hK => ?_); apply q_take (by kernel_rfl); (focus (intro w hw; (try dsimp only at hw); go_simp; (try with_reducible rfl); done)); simp only [Act.put, List.setIfInBounds_toArray, List.set_cons_zero, List.set_cons_succ]; refine hK _ ?_; clear hK K)
    (refine wq_step (fun K hK => ?_); apply q_take (by kernel_rfl); (focus (intro w hw; (try dsimp only at hw); go_simp; (try with_reducible rfl); done)); simp only [Act.put, List.setIfInBounds_toArray, List.set_cons_zero, List.set_cons_succ]; refine hK _ ?_; clear hK K)
    (refine wq_step (fun K hK => ?_); apply q_take (by kernel_rfl); (focus (intro w hw; (try dsimp only at hw); go_simp; (try with_reducible rfl); done)); simp only [Act.put, List.setIfInBounds_toArray, List.set_cons_zero, List.set_cons_succ]; refine hK _ ?_; clear hK K)
    (refine wq_step (fun K hK => ?_); apply q_take (by kernel_rfl); (focus (intro w hw; (try dsimp only at hw); go_simp; (try with_reducible rfl); done)); simp only [Act.put, List.setIfInBounds_toArray, List.set_cons_zero, List.set_cons_succ]; refine hK _ ?_; clear hK K)
    (refine wq_step (fun K hK => ?_); apply q_take (by kernel_rfl); (focus (intro w hw; (try dsimp only at hw); go_simp; (try with_reducible rfl); done)); simp only [Act.put, List.setIfInBounds_toArray, List.set_cons_zero, List.set_cons_succ]; refine hK _ ?_; clear hK K)
    (refine wq_step (fun K hK => ?_); apply q_take (by kernel_rfl); (focus (intro w hw; (try dsimp only at hw); go_simp; (try with_reducible rfl); done)); simp only [Act.put, List.setIfInBounds_toArray, List.set_cons_zero, List.set_cons_succ]; refine hK _ ?_; clear hK K)
    (refine wq_step (fun K hK => ?_); apply q_take (by kernel_rfl); (focus (intro w hw; (try dsimp only at hw); go_simp; (try with_reducible rfl); done)); simp only [Act.put, List.setIfInBounds_toArray, List.set_cons_zero, List.set_cons_succ]; refine hK _ ?_; clear hK K)
    (refine wq_step (fun K hK => ?_); apply q_take (by kernel_rfl); (focus (intro w hw; (try dsimp only at hw); go_simp; (try with_reducible rfl); done)); simp only [Act.put, List.setIfInBounds_toArray, List.set_cons_zero, List.set_cons_succ]; refine hK _ ?_; clear hK K)
    (refine wq_step (fun K hK => ?_); apply q_take (by rfl); (focus (intro w hw; (try dsimp only at hw); go_simp; (try with_reducible rfl); done)); simp only [Act.put, List.setIfInBounds_toArray, List.set_cons_zero, List.set_cons_succ]; refine hK _ ?_; clear hK K)
    (refine wq_step (fun K hK => ?_); apply q_take (by rfl); (focus (intro w hw; (try dsimp only at hw); go_simp; (try with_reducible rfl); done)); simp only [Act.put, List.setIfInBounds_toArray, List.set_cons_zero, List.set_cons_succ]; refine hK _ ?_; clear hK K)
    (refine wq_step (fun K hK => ?_); apply q_take (by kernel_rfl); (focus (intro w hw; (try dsimp only at hw); go_simp; (try with_reducible rfl); done)); simp only [Act.put, List.setIfInBounds_toArray, List.set_cons_zero, List.set_cons_succ]; refine hK _ ?_; clear hK K)
    (refine wq_step (fun K hK => ?_); apply q_take (by kernel_rfl); (focus (intro w hw; (try dsimp only at hw); go_simp; (try with_reducible rfl); done)); simp only [Act.put, List.setIfInBounds_toArray, List.set_cons_zero, List.set_cons_succ]; refine hK _ ?_; clear hK K)
    (refine wq_step (fun K hK => ?_); apply q_take (by kernel_rfl); (focus (intro w hw; (try dsimp only at hw); go_simp; (try with_reducible rfl); done)); simp only [Act.put, List.setIfInBounds_toArray, List.set_cons_zero, List.set_cons_succ]; refine hK _ ?_; clear hK K)
    (refine wq_step (fun K hK => ?_); apply q_take (by kernel_rfl); (focus (intro w hw; (try dsimp only at hw); go_simp; (try with_reducible rfl); done)); simp only [Act.put, List.setIfInBounds_toArray, List.set_cons_zero, List.set_cons_succ]; refine hK _ ?_; clear hK K)
    (refine wq_step (fun K hK => ?_); apply q_take (by kernel_rfl); (focus (intro w hw; (try dsimp only at hw); go_simp; (try with_reducible rfl); done)); simp only [Act.put, List.setIfInBounds_toArray, List.set_cons_zero, List.set_cons_succ]; refine hK _ ?_; clear hK K)
    (refine wq_step (fun K hK => ?_); apply q_take (by kernel_rfl); (focus (intro w hw; (try dsimp only at hw); go_simp; (try with_reducible rfl); done)); simp only [Act.put, List.setIfInBounds_toArray, List.set_cons_zero, List.set_cons_succ]; refine hK _ ?_; clear hK K)
    (refine wq_step (fun K hK => ?_); apply q_take (by kernel_rfl); (focus (intro w hw; (try dsimp only at hw); go_simp; (try with_reducible rfl); done)); simp only [Act.put, List.setIfInBounds_toArray, List.set_cons_zero, List.set_cons_succ]; refine hK _ ?_; clear hK K)
    (refine wq_step (fun K hK => ?_); apply q_take (by kernel_rfl); (focus (intro w hw; (try dsimp only at hw); go_simp; (try with_reducible rfl); done)); simp only [Act.put, List.setIfInBounds_toArray, List.set_cons_zero, List.set_cons_succ]; refine hK _ ?_; clear hK K)
    (refine wq_step (fun K hK => ?_); apply q_take (by rfl); (focus (intro w hw; (try dsimp only at hw); go_simp; (try with_reducible rfl); done)); simp only [Act.put, List.setIfInBounds_toArray, List.set_cons_zero, List.set_cons_succ]; refine hK _ ?_; clear hK K)
    (refine wq_step (fun K hK => ?_); apply q_take (by rfl); (focus (intro w hw; (try dsimp only at hw); go_simp; (try with_reducible rfl); done)); simp only [Act.put, List.setIfInBounds_toArray, List.set_cons_zero, List.set_cons_succ]; refine hK _ ?_; clear hK K)
    (refine wq_step (fun K hK => ?_); apply q_take (by kernel_rfl); (focus (intro w hw; (try dsimp only at hw); go_simp; (try with_reducible rfl); done)); simp only [Act.put, List.setIfInBounds_toArray, List.set_cons_zero, List.set_cons_succ]; refine hK _ ?_; clear hK K)
    (refine wq_step (fun K hK => ?_); apply q_take (by kernel_rfl); (focus (intro w hw; (try dsimp only at hw); go_simp; (try with_reducible rfl); done)); simp only [Act.put, List.setIfInBounds_toArray, List.set_cons_zero, List.set_cons_succ]; refine hK _ ?_; clear hK K)
    (refine wq_step (fun K hK => ?_); apply q_take (by kernel_rfl); (focus (intro w hw; (try dsimp only at hw); go_simp; (try with_reducible rfl); done)); simp only [Act.put, List.setIfInBounds_toArray, List.set_cons_zero, List.set_cons_succ]; refine hK _ ?_; clear hK K)
    (refine wq_step (fun K hK => ?_); apply q_take (by kernel_rfl); (focus (intro w hw; (try dsimp only at hw); go_simp; (try with_reducible rfl); done)); simp only [Act.put, List.setIfInBounds_toArray, List.set_cons_zero, List.set_cons_succ]; refine hK _ ?_; clear hK K)
    (refine wq_step (fun K hK => ?_); apply q_take (by kernel_rfl); (focus (intro w hw; (try dsimp only at hw); go_simp; (try with_reducible rfl); done)); simp only [Act.put, List.setIfInBounds_toArray, List.set_cons_zero, List.set_cons_succ]; refine hK _ ?_; clear hK K)
    (refine wq_step (fun K hK => ?_); apply q_take (by kernel_rfl); (focus (intro w hw; (try dsimp only at hw); go_simp; (try with_reducible rfl); done)); simp only [Act.put, List.setIfInBounds_toArray, List.set_cons_zero, List.set_cons_succ]; refine hK _ ?_; clear hK K)
    (refine wq_step (fun K hK => ?_); apply q_take (by kernel_rfl); (focus (intro w hw; (try dsimp only at hw); go_simp; (try with_reducible rfl); done)); simp only [Act.put, List.setIfInBounds_toArray, List.set_cons_zero, List.set_cons_succ]; refine hK _ ?_; clear hK K)
    (refine wq_step (fun K hK => ?_); apply q_take (by kernel_rfl); (focus (intro w hw; (try dsimp only at hw); go_simp; (try with_reducible rfl); done)); simp only [Act.put, List.setIfInBounds_toArray, List.set_cons_zero, List.set_cons_succ]; refine hK _ ?_; clear hK K)
    (refine wq_step (fun K hK => ?_); apply q_take (by rfl); (focus (intro w hw; (try dsimp only at hw); go_simp; (try with_reducible rfl); done)); simp only [Act.put, List.setIfInBounds_toArray, List.set_cons_zero, List.set_cons_succ]; refine hK _ ?_; clear hK K)
    (refine wq_step (fun K hK => ?_); apply q_take (by rfl); (focus (intro w hw; (try dsimp only at hw); go_simp; (try with_reducible rfl); done)); simp only [Act.put, List.setIfInBounds_toArray, List.set_cons_zero, List.set_cons_succ]; refine hK _ ?_; clear hK K)
    (refine wq_step (fun K hK => ?_); apply q_take (by kernel_rfl); (focus (intro w hw; (try dsimp only at hw); go_simp; (try with_reducible rfl); done)); simp only [Act.put, List.setIfInBounds_toArray, List.set_cons_zero, List.set_cons_succ]; refine hK _ ?_; clear hK K)
    (refine wq_step (fun K hK => ?_); apply q_take (by kernel_rfl); (focus (intro w hw; (try dsimp only at hw); go_simp; (try with_reducible rfl); done)); simp only [Act.put, List.setIfInBounds_toArray, List.set_cons_zero, List.set_cons_succ]; refine hK _ ?_; clear hK K)
    (refine wq_step (fun K hK => ?_); apply q_take (by kernel_rfl); (focus (intro w hw; (try dsimp only at hw); go_simp; (try with_reducible rfl); done)); simp only [Act.put, List.setIfInBounds_toArray, List.set_cons_zero, List.set_cons_succ]; refine hK _ ?_; clear hK K)
    (refine wq_step (fun K hK => ?_); apply q_take (by kernel_rfl); (focus (intro w hw; (try dsimp only at hw); go_simp; (try with_reducible rfl); done)); simp only [Act.put, List.setIfInBounds_toArray, List.set_cons_zero, List.set_cons_succ]; refine hK _ ?_; clear hK K)
    (refine wq_step (fun K hK => ?_); apply q_take (by kernel_rfl); (focus (intro w hw; (try dsimp only at hw); go_simp; (try with_reducible rfl); done)); simp only [Act.put, List.setIfInBounds_toArray, List.set_cons_zero, List.set_cons_succ]; refine hK _ ?_; clear hK K)
    (refine wq_step (fun K hK => ?_); apply q_take (by kernel_rfl); (focus (intro w hw; (try dsimp only at hw); go_simp; (try with_reducible rfl); done)); simp only [Act.put, List.setIfInBounds_toArray, List.set_cons_zero, List.set_cons_succ]; refine hK _ ?_; clear hK K)
    (refine wq_step (fun K hK => ?_); apply q_take (by kernel_rfl); (focus (intro w hw; (try dsimp only at hw); go_simp; (try with_reducible rfl); done)); simp only [Act.put, List.setIfInBounds_toArray, List.set_cons_zero, List.set_cons_succ]; refine hK _ ?_; clear hK K)
    (refine wq_step (fun K hK => ?_); apply q_take (by kernel_rfl); (focus (intro w hw; (try dsimp only at hw); go_simp; (try with_reducible rfl); done)); simp only [Act.put, List.setIfInBounds_toArray, List.set_cons_zero, List.set_cons_succ]; refine hK _ ?_; clear hK K)
    (refine wq_step (fun K hK => ?_); apply q_take (by rfl); (focus (intro w hw; (try dsimp only at hw); go_simp; (try with_reducible rfl); done)); simp only [Act.put, List.setIfInBounds_toArray, List.set_cons_zero, List.set_cons_succ]; refine hK _ ?_; clear hK K)
    (refine wq_step (fun K hK => ?_); apply q_take (by rfl); (focus (intro w hw; (try dsimp only at hw); go_simp; (try with_reducible rfl); done)); simp only [Act.put, List.setIfInBounds_toArray, List.set_cons_zero, List.set_cons_succ]; refine hK _ ?_; clear hK K)
    (refine wq_step (fun K hK => ?_); apply q_take (by kernel_rfl); (focus (intro w hw; (try dsimp only at hw); go_simp; (try with_reducible rfl); done)); simp only [Act.put, List.setIfInBounds_toArray, List.set_cons_zero, List.set_cons_succ]; refine hK _ ?_; clear hK K)
    (refine wq_step (fun K hK => ?_); apply q_call (by kernel_rfl); (focus (intro w hw; (try dsimp only at hw); go_simp; (try exact ⟨rfl, rfl⟩); done)); (focus (intro w hw; (try dsimp only at hw); (first | (go_at_call 17; refine (HBS.out _ hw).mono ?_; rintro e w'' ⟨rfl, rfl⟩; exact ⟨rfl, hw⟩) | (go_at_call 7; refine (cnew_bad _).mono ?_; rintro e w'' ⟨rfl, rfl⟩; exact ⟨rfl, hw⟩)))); simp only [Act.put, List.setIfInBounds_toArray, List.set_cons_zero, List.set_cons_succ]; refine hK _ ?_; clear hK K)
    (refine wq_step (fun K hK => ?_); apply q_take (by rfl); (focus (intro w hw; (try dsimp only at hw); go_simp; (try with_reducible rfl); done)); simp only [Act.put, List.setIfInBounds_toArray, List.set_cons_zero, List.set_cons_succ]; refine hK _ ?_; clear hK K)
    (refine wq_step (fun K hK => ?_); apply q_take (by rfl); (focus (intro w hw; (try dsimp only at hw); go_simp; (try with_reducible rfl); done)); simp only [Act.put, List.setIfInBounds_toArray, List.set_cons_zero, List.set_cons_succ]; refine hK _ ?_; clear hK K)
    (refine wq_step (fun K hK => ?_); apply q_call (by kernel_rfl); (focus (intro w hw; (try dsimp only at hw); go_simp; (try exact ⟨rfl, rfl⟩); done)); (focus (intro w hw; (try dsimp only at hw); (first | (go_at_call 17; refine (HBS.out _ hw).mono ?_; rintro e w'' ⟨rfl, rfl⟩; exact ⟨rfl, hw⟩) | (go_at_call 7; refine (cnew_bad _).mono ?_; rintro e w'' ⟨rfl, rfl⟩; exact ⟨rfl, hw⟩)))); simp only [Act.put, List.setIfInBounds_toArray, List.set_cons_zero, List.set_cons_succ]; refine hK _ ?_; clear hK K)
    (refine wq_step (fun K hK => ?_); apply q_take (by kernel_rfl); (focus (intro w hw; (try dsimp only at hw); go_simp; (try with_reducible rfl); done)); simp only [Act.put, List.setIfInBounds_toArray, List.set_cons_zero, List.set_cons_succ]; refine hK _ ?_; clear hK K)
    (refine wq_step (fun K hK => ?_); apply q_take (by rfl); (focus (intro w hw; (try dsimp only at hw); go_simp; (try with_reducible rfl); done)); simp only [Act.put, List.setIfInBounds_toArray, List.set_cons_zero, List.set_cons_succ]; refine hK _ ?_; clear hK K)
    (refine wq_step (fun K hK => ?_); apply q_take (by rfl); (focus (intro w hw; (try dsimp only at hw); go_simp; (try with_reducible rfl); done)); simp only [Act.put, List.setIfInBounds_toArray, List.set_cons_zero]; refine hK _ ?_; clear hK K)
    refine wq_nil ?_
    intro wq hwq
    go_wp2
    go_ret
    exact ⟨rfl, HB9.out.trans (hwq.mono HB9.out.size)⟩
  · skip
    rename_i hunm
    clear hunm
    obtain ⟨F7, hc7, hch7, hf7⟩ := H8.out
    have hp8 := HPS.out.1.chg hch7 (fun z hz => Or.inl hz) (F' := F7) hf7
    have hb8 : Below W.heap.size W w8 := Chg.onto HB6.out.1 HB6.out.1.size hch7 HB6.out.2
    have hF8 : ∀ z ∈ F7, W.heap.size ≤ z := fun z hz => (hf7 z hz).elim (fun h3 => HB6.out.2 z h3) (fun h3 => Nat.le_trans HB6.out.1.size h3)
    have HP8 := hide (And.intro hp8 (And.intro hb8 hF8))
    have HO8 := hide (cout_calls hc7)
    clear hc7 hch7 hf7 hp8 hb8 hF8 e0' e2' n2' r6 hS1
    (try clear hS0 hS2 hn2 hb7q)
    go_wp2_with fail
    refine HO8.out.mono ?_
    rintro e w9 ⟨A2, cap2, P2, F8, rfl, hP2, hps2, hcap2, hc9, hch9, hf9⟩
    (try simp only [] at hP2)
    obtain ⟨b2, o2, nb2, Bm2, cm2, rfl, hl2, hbl2, hbF2, f0, f1, f2, f3, f4, hN2, hnF2⟩ := hps2.one hP2
    rw [hl2]
    have hpa := HP8.out.1.chg hch9 (fun z hz => Or.inl hz) (F' := F8) (fun z hz => Or.inl (hf9 z hz))
    obtain ⟨b3, o3, nb3, Bm3, cm3, he3, _, hbl3, _, g0, _, _, _, _, _, _⟩ := hpa.one HPS.out.2.1
    simp only [Option.some.injEq, Addr.mk.injEq, and_true] at he3
    obtain ⟨rfl, rfl⟩ := he3
    have r9 := Below.refl w9.heap.size w9
    have x0 : ∀ w', Below w9.heap.size w9 w' → w'.cell? ⟨b, o, none⟩ = some (.int .i64 40) := fun w' hb => (hb.cell (p := ⟨b, o, none⟩) hbl3).trans g0
    have y0 : ∀ w', Below w9.heap.size w9 w' → w'.cell? ⟨b2, o2, none⟩ = some (.int .i64 41) := fun w' hb => (hb.cell (p := ⟨b2, o2, none⟩) hbl2).trans f0
    have y2 : ∀ w', Below w9.heap.size w9 w' → w'.cell? ⟨b2, o2 + 2, none⟩ = some (.slice (some ⟨nb2, 0, none⟩) 8 8) := fun w' hb => (hb.cell (p := ⟨b2, o2 + 2, none⟩) hbl2).trans f2
    have z2 : ∀ w', Below w9.heap.size w9 w' → w'.cell? ⟨nb2, 2, none⟩ = some (.int .i64 2) := hN2.rule 2 _ rfl
    have z4 : ∀ w', Below w9.heap.size w9 w' → w'.cell? ⟨nb2, 4, none⟩ = some (.int .i64 0) := hN2.rule 4 _ rfl
    have z6 : ∀ w', Below w9.heap.size w9 w' → w'.cell? ⟨nb2, 6, none⟩ = some (.int .i64 1) := hN2.rule 6 _ rfl
    have z7 : ∀ w', Below w9.heap.size w9 w' → w'.cell? ⟨nb2, 7, none⟩ = some (.int .i64 0) := hN2.rule 7 _ rfl
    have HBS := hide (fun w' (hb : Below w9.heap.size w9 w') => cbusy_calls (hc9.below hb))
    have HB9 := hide (Chg.onto HP8.out.2.1 HP8.out.2.1.size hch9 HP8.out.2.2)
    clear hP2 hps2 hcap2 hc9 hch9 hf9 hbl2 hbF2 f0 f1 f2 f3 f4 hN2 hnF2 hpa hbl3 g0
    go_upto_region 12 with fail
    refine region_q (fun w' => Below w9.heap.size w9 w') (by kernel_rfl) (by kernel_rfl) (by (exact r9.drew)) ?_
    (refine wq_step (fun K hK => ?_); apply q_take (by rfl); (focus (intro w hw; (try dsimp only at hw); go_simp; (try with_reducible rfl); done)); simp only [Act.put, List.setIfInBounds_toArray, List.set_cons_zero, List.set_cons_succ]; refine hK _ ?_; clear hK K)
    (refine wq_step (fun K hK => ?_); apply q_take (by rfl); (focus (intro w hw; (try dsimp only at hw); go_simp; (try with_reducible rfl); done)); simp only [Act.put, List.setIfInBounds_toArray, List.set_cons_zero, List.set_cons_succ]; refine hK _ ?_; clear hK K)
    (refine wq_step (fun K hK => ?_); apply q_take (by rfl); (focus (intro w hw; (try dsimp only at hw); go_simp; (try with_reducible rfl); done)); simp only [Act.put, List.setIfInBounds_toArray, List.set_cons_zero, List.set_cons_succ]; refine hK _ ?_; clear hK K)
    (refine wq_step (fun K hK => ?_); apply q_take (by rfl); (focus (intro w hw; (try dsimp only at hw); go_simp; (try with_reducible rfl); done)); simp only [Act.put, List.setIfInBounds_toArray, List.set_cons_zero, List.set_cons_succ]; refine hK _ ?_; clear hK K)
    (refine wq_step (fun K hK => ?_); apply q_take (by kernel_rfl); (focus (intro w hw; (try dsimp only at hw); go_simp; (try with_reducible rfl); done)); simp only [Act.put, List.setIfInBounds_toArray, List.set_cons_zero, List.set_cons_succ]; refine hK _ ?_; clear hK K)
    (refine wq_step (fun K hK => ?_); apply q_take (by kernel_rfl); (focus (intro w hw; (try dsimp only at hw); go_simp; (try with_reducible rfl); done)); simp only [Act.put, List.setIfInBounds_toArray, List.set_cons_zero, List.set_cons_succ]; refine hK _ ?_; clear hK K)
    (refine wq_step (fun K hK => ?_); apply q_take (by kernel_rfl); (focus (intro w hw; (try dsimp only at hw); go_simp; (try with_reducible rfl); done)); simp only [Act.put, List.setIfInBounds_toArray, List.set_cons_zero, List.set_cons_succ]; refine hK _ ?_; clear hK K)
    (refine wq_step (fun K hK => ?_); apply q_take (by kernel_rfl); (focus (intro w hw; (try dsimp only at hw); go_simp; (try with_reducible rfl); done)); simp only [Act.put, List.setIfInBounds_toArray, List.set_cons_zero, List.set_cons_succ]; refine hK _ ?_; clear hK K)
    (refine wq_step (fun K hK => ?_); apply q_take (by kernel_rfl); (focus (intro w hw; (try dsimp only at hw); go_simp; (try with_reducible rfl); done)); simp only [Act.put, List.setIfInBounds_toArray, List.set_cons_zero, List.set_cons_succ]; refine hK _ ?_; clear hK K)
    (refine wq_step (fun K hK => ?_); apply q_take (by kernel_rfl); (focus (intro w hw; (try dsimp only at hw); go_simp; (try with_reducible rfl); done)); simp only [Act.put, List.setIfInBounds_toArray, List.set_cons_zero, List.set_cons_succ]; refine hK _ ?_; clear hK K)
    (refine wq_step (fun K hK => ?_); apply q_take (by kernel_rfl); (focus (intro w hw; (try dsimp only at hw); go_simp; (try with_reducible rfl); done)); simp only [Act.put, List.setIfInBounds_toArray, List.set_cons_zero, List.set_cons_succ]; refine hK _ ?_; clear hK K)
    (refine wq_step (fun K hK => ?_); apply q_take (by kernel_rfl); (focus (intro w hw; (try dsimp only at hw); go_simp; (try with_reducible rfl); done)); simp only [Act.put, List.setIfInBounds_toArray, List.set_cons_zero, List.set_cons_succ]; refine hK _ ?_; clear hK K)
    (refine wq_step (fun K hK => ?_); apply q_take (by kernel_rfl); (focus (intro w hw; (try dsimp only at hw); go_simp; (try with_reducible rfl); done)); simp only [Act.put, List.setIfInBounds_toArray, List.set_cons_zero, List.set_cons_succ]; refine hK _ ?_; clear hK K)
    (refine wq_step (fun K hK => ?_); apply q_take (by rfl); (focus (intro w hw; (try dsimp only at hw); go_simp; (try with_reducible rfl); done)); simp only [Act.put, List.setIfInBounds_toArray, List.set_cons_zero, List.set_cons_succ]; refine hK _ ?_; clear hK K)
    (refine wq_step (fun K hK => ?_); apply q_take (by rfl); (focus (intro w hw; (try dsimp only at hw); go_simp; (try with_reducible rfl); done)); simp only [Act.put, List.setIfInBounds_toArray, List.set_cons_zero, List.set_cons_succ]; refine hK _ ?_; clear hK K)
    (refine wq_step (fun K hK => ?_); apply q_take (by kernel_rfl); (focus (intro w hw; (try dsimp only at hw); go_simp; (try with_reducible rfl); done)); simp only [Act.put, List.setIfInBounds_toArray, List.set_cons_zero, List.set_cons_succ]; refine hK _ ?_; clear hK K)
    (refine wq_step (fun K hK => ?_); apply q_take (by kernel_rfl); (focus (intro w hw; (try dsimp only at hw); go_simp; (try with_reducible rfl); done)); simp only [Act.put, List.setIfInBounds_toArray, List.set_cons_zero, List.set_cons_succ]; refine hK _ ?_; clear hK K)
    (refine wq_step (fun K hK => ?_); apply q_take (by kernel_rfl); (focus (intro w hw; (try dsimp only at hw); go_simp; (try with_reducible rfl); done)); simp only [Act.put, List.setIfInBounds_toArray, List.set_cons_zero, List.set_cons_succ]; refine hK _ ?_; clear hK K)
    (refine wq_step (fun K hK => ?_); apply q_take (by kernel_rfl); (focus (intro w hw; (try dsimp only at hw); go_simp; (try with_reducible rfl); done)); simp only [Act.put, List.setIfInBounds_toArray, List.set_cons_zero, List.set_cons_succ]; refine hK _ ?_; clear hK K)
    (refine wq_step (fun K hK => ?_); apply q_take (by kernel_rfl); (focus (intro w hw; (try dsimp only at hw); go_simp; (try with_reducible rfl); done)); simp only [Act.put, List.setIfInBounds_toArray, List.set_cons_zero, List.set_cons_succ]; refine hK _ ?_; clear hK K)
    (refine wq_step (fun K hK => ?_); apply q_take (by kernel_rfl); (focus (intro w hw; (try dsimp only at hw); go_simp; (try with_reducible rfl); done)); simp only [Act.put, List.setIfInBounds_toArray, List.set_cons_zero, List.set_cons_succ]; refine hK _ ?_; clear hK K)
    (refine wq_step (fun K hK => ?_); apply q_take (by kernel_rfl); (focus (intro w hw; (try dsimp only at hw); go_simp; (try with_reducible rfl); done)); simp only [Act.put, List.setIfInBounds_toArray, List.set_cons_zero, List.set_cons_succ]; refine hK _ ?_; clear hK K)
    (refine wq_step (fun K hK => ?_); apply q_take (by kernel_rfl); (focus (intro w hw; (try dsimp only at hw); go_simp; (try with_reducible rfl); done)); simp only [Act.put, List.setIfInBounds_toArray, List.set_cons_zero, List.set_cons_succ]; refine hK _ ?_; clear hK K)
    (refine wq_step (fun K hK => ?_); apply q_take (by rfl); (focus (intro w hw; (try dsimp only at hw); go_simp; (try with_reducible rfl); done)); simp only [Act.put, List.setIfInBounds_toArray, List.set_cons_zero, List.set_cons_succ]; refine hK _ ?_; clear hK K)
    (refine wq_step (fun K hK => ?_); apply q_take (by rfl); (focus (intro w hw; (try dsimp only at hw); go_simp; (try with_reducible rfl); done)); simp only [Act.put, List.setIfInBounds_toArray, List.set_cons_zero, List.set_cons_succ]; refine hK _ ?_; clear hK K)
    (refine wq_step (fun K hK => ?_); apply q_take (by kernel_rfl); (focus (intro w hw; (try dsimp only at hw); go_simp; (try with_reducible rfl); done)); simp only [Act.put, List.setIfInBounds_toArray, List.set_cons_zero, List.set_cons_succ]; refine hK _ ?_; clear hK K)
    (refine wq_step (fun K hK => ?_); apply q_take (by kernel_rfl); (focus (intro w hw; (try dsimp only at hw); go_simp; (try with_reducible rfl); done)); simp only [Act.put, List.setIfInBounds_toArray, List.set_cons_zero, List.set_cons_succ]; refine hK _ ?_; clear hK K)
    (refine wq_step (fun K hK => ?_); apply q_take (by kernel_rfl); (focus (intro w hw; (try dsimp only at hw); go_simp; (try with_reducible rfl); done)); simp only [Act.put, List.setIfInBounds_toArray, List.set_cons_zero, List.set_cons_succ]; refine hK _ ?_; clear hK K)
    (refine wq_step (fun K hK => ?_); apply q_take (by kernel_rfl); (focus (intro w hw; (try dsimp only at hw); go_simp; (try with_reducible rfl); done)); simp only [Act.put, List.setIfInBounds_toArray, List.set_cons_zero, List.set_cons_succ]; refine hK _ ?_; clear hK K)
    (refine wq_step (fun K hK => ?_); apply q_take (by kernel_rfl); (focus (intro w hw; (try dsimp only at hw); go_simp; (try with_reducible rfl); done)); simp only [Act.put, List.setIfInBounds_toArray, List.set_cons_zero, List.set_cons_succ]; refine hK _ ?_; clear hK K)
    (refine wq_step (fun K hK => ?_); apply q_take (by kernel_rfl); (focus (intro w hw; (try dsimp only at hw); go_simp; (try with_reducible rfl); done)); simp only [Act.put, List.setIfInBounds_toArray, List.set_cons_zero, List.set_cons_succ]; refine hK _ ?_; clear hK K)
    (refine wq_step (fun K hK => ?_); apply q_take (by kernel_rfl); (focus (intro w hw; (try dsimp only at hw); go_simp; (try with_reducible rfl); done)); simp only [Act.put, List.setIfInBounds_toArray, List.set_cons_zero, List.set_cons_succ]; refine hK _ ?_; clear hK K)
    (refine wq_step (fun K hK => ?_); apply q_take (by kernel_rfl); (focus (intro w hw; (try dsimp only at hw); go_simp; (try with_reducible rfl); done)); simp only [Act.put, List.setIfInBounds_toArray, List.set_cons_zero, List.set_cons_succ]; refine hK _ ?_; clear hK K)
    (refine wq_step (fun K hK => ?_); apply q_take (by rfl); (focus (intro w hw; (try dsimp only at hw); go_simp; (try with_reducible rfl); done)); simp only [Act.put, List.setIfInBounds_toArray, List.set_cons_zero, List.set_cons_succ]; refine hK _ ?_; clear hK K)
    (refine wq_step (fun K hK => ?_); apply q_take (by rfl); (focus (intro w hw; (try dsimp only at hw); go_simp; (try with_reducible rfl); done)); simp only [Act.put, List.setIfInBounds_toArray, List.set_cons_zero, List.set_cons_succ]; refine hK _ ?_; clear hK K)
    (refine wq_step (fun K hK => ?_); apply q_take (by kernel_rfl); (focus (intro w hw; (try dsimp only at hw); go_simp; (try with_reducible rfl); done)); simp only [Act.put, List.setIfInBounds_toArray, List.set_cons_zero, List.set_cons_succ]; refine hK _ ?_; clear hK K)
    (refine wq_step (fun K hK => ?_); apply q_take (by kernel_rfl); (focus (intro w hw; (try dsimp only at hw); go_simp; (try with_reducible rfl); done)); simp only [Act.put, List.setIfInBounds_toArray, List.set_cons_zero, List.set_cons_succ]; refine hK _ ?_; clear hK K)
    (refine wq_step (fun K hK => ?_); apply q_take (by kernel_rfl); (focus (intro w hw; (try dsimp only at hw); go_simp; (try with_reducible rfl); done)); simp only [Act.put, List.setIfInBounds_toArray, List.set_cons_zero, List.set_cons_succ]; refine hK _ ?_; clear hK K)
    (refine wq_step (fun K hK => ?_); apply q_take (by kernel_rfl); (focus (intro w hw; (try dsimp only at hw); go_simp; (try with_reducible rfl); done)); simp only [Act.put, List.setIfInBounds_toArray, List.set_cons_zero, List.set_cons_succ]; refine hK _ ?_; clear hK K)
    (refine wq_step (fun K hK => ?_); apply q_take (by kernel_rfl); (focus (intro w hw; (try dsimp only at hw); go_simp; (try with_reducible rfl); done)); simp only [Act.put, List.setIfInBounds_toArray, List.set_cons_zero, List.set_cons_succ]; refine hK _ ?_; clear hK K)
    (refine wq_step (fun K hK => ?_); apply q_take (by kernel_rfl); (focus (intro w hw; (try dsimp only at hw); go_simp; (try with_reducible rfl); done)); simp only [Act.put, List.setIfInBounds_toArray, List.set_cons_zero, List.set_cons_succ]; refine hK _ ?_; clear hK K)
    (refine wq_step (fun K hK => ?_); apply q_take (by kernel_rfl); (focus (intro w hw; (try dsimp only at hw); go_simp; (try with_reducible rfl); done)); simp only [Act.put, List.setIfInBounds_toArray, List.set_cons_zero, List.set_cons_succ]; refine hK _ ?_; clear hK K)
    (refine wq_step (fun K hK => ?_); apply q_take (by kernel_rfl); (focus (intro w hw; (try dsimp only at hw); go_simp; (try with_reducible rfl); done)); simp only [Act.put, List.setIfInBounds_toArray, List.set_cons_zero, List.set_cons_succ]; refine hK _ ?_; clear hK K)
    (refine wq_step (fun K hK => ?_); apply q_take (by rfl); (focus (intro w hw; (try dsimp only at hw); go_simp; (try with_reducible rfl); done)); simp only [Act.put, List.setIfInBounds_toArray, List.set_cons_zero, List.set_cons_succ]; refine hK _ ?_; clear hK K)
    (refine wq_step (fun K hK => ?_); apply q_take (by rfl); (focus (intro w hw; (try dsimp only at hw); go_simp; (try with_reducible rfl); done)); simp only [Act.put, List.setIfInBounds_toArray, List.set_cons_zero, List.set_cons_succ]; refine hK _ ?_; clear hK K)
    (refine wq_step (fun K hK => ?_); apply q_take (by kernel_rfl); (focus (intro w hw; (try dsimp only at hw); go_simp; (try with_reducible rfl); done)); simp only [Act.put, List.setIfInBounds_toArray, List.set_cons_zero, List.set_cons_succ]; refine hK _ ?_; clear hK K)
    (refine wq_step (fun K hK => ?_); apply q_take (by kernel_rfl); (focus (intro w hw; (try dsimp only at hw); go_simp; (try with_reducible rfl); done)); simp only [Act.put, List.setIfInBounds_toArray, List.set_cons_zero, List.set_cons_succ]; refine hK _ ?_; clear hK K)
    (refine wq_step (fun K hK => ?_); apply q_take (by kernel_rfl); (focus (intro w hw; (try dsimp only at hw); go_simp; (try with_reducible rfl); done)); simp only [Act.put, List.setIfInBounds_toArray, List.set_cons_zero, List.set_cons_succ]; refine hK _ ?_; clear hK K)
    (refine wq_step (fun K hK => ?_); apply q_take (by kernel_rfl); (focus (intro w hw; (try dsimp only at hw); go_simp; (try with_reducible rfl); done)); simp only [Act.put, List.setIfInBounds_toArray, List.set_cons_zero, List.set_cons_succ]; refine hK _ ?_; clear hK K)
    (refine wq_step (fun K hK => ?_); apply q_take (by kernel_rfl); (focus (intro w hw; (try dsimp only at hw); go_simp; (try with_reducible rfl); done)); simp only [Act.put, List.setIfInBounds_toArray, List.set_cons_zero, List.set_cons_succ]; refine hK _ ?_; clear hK K)
    (refine wq_step (fun K hK => ?_); apply q_take (by kernel_rfl); (focus (intro w hw; (try dsimp only at hw); go_simp; (try with_reducible rfl); done)); simp only [Act.put, List.setIfInBounds_toArray, List.set_cons_zero, List.set_cons_succ]; refine hK _ ?_; clear hK K)
    (refine wq_step (fun K hK => ?_); apply q_take (by kernel_rfl); (focus (intro w hw; (try dsimp only at hw); go_simp; (try with_reducible rfl); done)); simp only [Act.put, List.setIfInBounds_toArray, List.set_cons_zero, List.set_cons_succ]; refine hK _ ?_; clear hK K)
    (refine wq_step (fun K hK => ?_); apply q_take (by kernel_rfl); (focus (intro w hw; (try dsimp only at hw); go_simp; (try with_reducible rfl); done)); simp only [Act.put, List.setIfInBounds_toArray, List.set_cons_zero, List.set_cons_succ]; refine hK _ ?_; clear hK K)
    (refine wq_step (fun K hK => ?_); apply q_take (by rfl); (focus (intro w hw; (try dsimp only at hw); go_simp; (try with_reducible rfl); done)); simp only [Act.put, List.setIfInBounds_toArray, List.set_cons_zero, List.set_cons_succ]; refine hK _ ?_; clear hK K)
    (refine wq_step (fun K hK => ?_); apply q_take (by rfl); (focus (intro w hw; (try dsimp only at hw); go_simp; (try with_reducible rfl); done)); simp only [Act.put, List.setIfInBounds_toArray, List.set_cons_zero, List.set_cons_succ]; refine hK _ ?_; clear hK K)
    (refine wq_step (fun K hK => ?_); apply q_take (by kernel_rfl); (focus (intro w hw; (try dsimp only at hw); go_simp; (try with_reducible rfl); done)); simp only [Act.put, List.setIfInBounds_toArray, List.set_cons_zero, List.set_cons_succ]; refine hK _ ?_; clear hK K)
    (refine wq_step (fun K hK => ?_); apply q_call (by kernel_rfl); (focus (intro w hw; (try dsimp only at hw); go_simp; (try exact ⟨rfl, rfl⟩); done)); (focus (intro w hw; (try dsimp only at hw); (first | (go_at_call 17; refine (HBS.out _ hw).mono ?_; rintro e w'' ⟨rfl, rfl⟩; exact ⟨rfl, hw⟩) | (go_at_call 7; refine (cnew_bad _).mono ?_; rintro e w'' ⟨rfl, rfl⟩; exact ⟨rfl, hw⟩)))); simp only [Act.put, List.setIfInBounds_toArray, List.set_cons_zero, List.set_cons_succ]; refine hK _ ?_; clear hK K)
    (refine wq_step (fun K hK => ?_); apply q_take (by rfl); (focus (intro w hw; (try dsimp only at hw); go_simp; (try with_reducible rfl); done)); simp only [Act.put, List.setIfInBounds_toArray, List.set_cons_zero, List.set_cons_succ]; refine hK _ ?_; clear hK K)
    (refine wq_step (fun K hK => ?_); apply q_take (by rfl); (focus (intro w hw; (try dsimp only at hw); go_simp; (try with_reducible rfl); done)); simp only [Act.put, List.setIfInBounds_toArray, List.set_cons_zero, List.set_cons_succ]; refine hK _ ?_; clear hK K)
    (refine wq_step (fun K hK => ?_); apply q_call (by kernel_rfl); (focus (intro w hw; (try dsimp only at hw); go_simp; (try exact ⟨rfl, rfl⟩); done)); (focus (intro w hw; (try dsimp only at hw); (first | (go_at_call 17; refine (HBS.out _ hw).mono ?_; rintro e w'' ⟨rfl, rfl⟩; exact ⟨rfl, hw⟩) | (go_at_call 7; refine (cnew_bad _).mono ?_; rintro e w'' ⟨rfl, rfl⟩; exact ⟨rfl, hw⟩)))); simp only [Act.put, List.setIfInBounds_toArray, List.set_cons_zero, List.set_cons_succ]; refine hK _ ?_; clear hK K)
    (refine wq_step (fun K hK => ?_); apply q_take (by kernel_rfl); (focus (intro w hw; (try dsimp only at hw); go_simp; (try with_reducible rfl); done)); simp only [Act.put, List.setIfInBounds_toArray, List.set_cons_zero, List.set_cons_succ]; refine hK _ ?_; clear hK K)
    (refine wq_step (fun K hK => ?_); apply q_take (by rfl); (focus (intro w hw; (try dsimp only at hw); go_simp; (try with_reducible rfl); done)); simp only [Act.put, List.setIfInBounds_toArray, List.set_cons_zero, List.set_cons_succ]; refine hK _ ?_; clear hK K)
    (refine wq_step (fun K hK => ?_); apply q_take (by rfl); (focus (intro w hw; (try dsimp only at hw); go_simp; (try with_reducible rfl); done)); simp only [Act.put, List.setIfInBounds_toArray, List.set_cons_zero]; refine hK _ ?_; clear hK K)
    refine wq_nil ?_
    intro wq hwq
    go_wp2
    go_ret
    exact ⟨rfl, HB9.out.trans (hwq.mono HB9.out.size)⟩
end Go.Proofs.YtanfdnpnkdiiiaaGreat
