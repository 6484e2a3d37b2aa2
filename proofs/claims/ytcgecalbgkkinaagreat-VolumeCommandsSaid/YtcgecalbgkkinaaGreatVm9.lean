/- The walk through volume.choose. -/
import Derived.Test.YtcgecalbgkkinaaGreatVm8
namespace Go.Proofs.YtcgecalbgkkinaaGreat
open Go.RowKit Go.Proofs Go.Lib
set_option linter.unusedVariables false
set_option linter.unusedSimpArgs false

set_option maxHeartbeats 2000000 in
theorem order2_calls (x y : Ld) (W : World) : Calls Tryz.prog 112 #[.agg #[.int .i64 x.id, .int .i64 x.n], .agg #[.int .i64 y.id, .int .i64 y.n]] W fun e w' => e = .returned (.int .i64 (cmpLd x y)) ∧ ∃ q os', w' = Sort.grow (W.drewN q) os' := by
  have B0 := (Blk.new (w := W) (cs := x.cells) (t := 76) rfl).alloc (.cells y.cells.toArray 76)
  have B1 := Blk.new (w := W.alloc (.cells x.cells.toArray 76)) (b := W.heap.size + 1) (cs := y.cells) (t := 76) (by simp)
  obtain ⟨w0, hw0⟩ : ∃ w0, (W.alloc (.cells x.cells.toArray 76)).alloc (.cells y.cells.toArray 76) = w0 := ⟨_, rfl⟩
  rw [hw0] at B0 B1
  go_enter Tryz.func112, Tryz.ntmps112
  go_wp2
  rw [show (W.alloc (.cells #[.int .i64 x.id, .int .i64 x.n] 76)).alloc (.cells #[.int .i64 y.id, .int .i64 y.n] 76) = w0 from hw0]
  have HW := hide hw0
  clear hw0
  have c0 := B0.rule 0 _ rfl
  have c1 := B0.rule 1 _ rfl
  have d0 := B1.rule 0 _ rfl
  have d1 := B1.rule 1 _ rfl
  have r0 := Below.refl w0.heap.size w0
  have N0 : ∀ v1 v2, (w0.alloc (.cells #[v1, v2] 3)).drew.cell? ⟨w0.heap.size, 0, none⟩ = some v1 := fun v1 v2 => (Blk.new (cs := [v1, v2]) rfl).cell 0
  have N1 : ∀ v1 v2, (w0.alloc (.cells #[v1, v2] 3)).drew.cell? ⟨w0.heap.size, 1, none⟩ = some v2 := fun v1 v2 => (Blk.new (cs := [v1, v2]) rfl).cell 1
  refine region_lexg (fun w' => Below w0.heap.size w0 w') [] 0 [(2, 0), (0, 1), (2, 2), (0, 3), (2, 5), (0, 6), (2, 7), (0, 8), (1, 4), (1, 9), (1, 10), (1, 11), (2, 12)] #[true, true, true, true, true, true, true, true, true, true, true, true, true] (by kernel_rfl) (by kernel_rfl) (by decide) (by kernel_rfl) (by kernel_rfl) (fun _ _ _ _ _ h => h) (by (first | exact r0.drew | assumption | exact (r0.alloc (Nat.le_refl _) _).drew)) (fun hS0 => ?_)
  simp only [List.map_cons, List.map_nil, List.getElem?_toArray, List.getElem?_cons_succ, List.getElem?_cons_zero]
  (apply lexg_pure (by rfl); (focus (intro w; go_simp; (try with_reducible rfl); done)); simp only [Act.put, List.setIfInBounds_toArray, List.set_cons_zero, List.set_cons_succ])
  (apply lexg_take (by rfl); (focus (intro w hw; (try dsimp only at hw); go_simp; (try with_reducible rfl); done)); simp only [Act.put, List.setIfInBounds_toArray, List.set_cons_zero, List.set_cons_succ])
  (apply lexg_pure (by rfl); (focus (intro w; go_simp; (try with_reducible rfl); done)); simp only [Act.put, List.setIfInBounds_toArray, List.set_cons_zero, List.set_cons_succ])
  (apply lexg_take (by rfl); (focus (intro w hw; (try dsimp only at hw); go_simp; (try with_reducible rfl); done)); simp only [Act.put, List.setIfInBounds_toArray, List.set_cons_zero, List.set_cons_succ])
  (apply lexg_pure (by rfl); (focus (intro w; go_simp; (try with_reducible rfl); done)); simp only [Act.put, List.setIfInBounds_toArray, List.set_cons_zero, List.set_cons_succ])
  (apply lexg_take (by rfl); (focus (intro w hw; (try dsimp only at hw); go_simp; (try with_reducible rfl); done)); simp only [Act.put, List.setIfInBounds_toArray, List.set_cons_zero, List.set_cons_succ])
  (apply lexg_pure (by rfl); (focus (intro w; go_simp; (try with_reducible rfl); done)); simp only [Act.put, List.setIfInBounds_toArray, List.set_cons_zero, List.set_cons_succ])
  (apply lexg_take (by rfl); (focus (intro w hw; (try dsimp only at hw); go_simp; (try with_reducible rfl); done)); simp only [Act.put, List.setIfInBounds_toArray, List.set_cons_zero, List.set_cons_succ])
  (refine lexg_eff (by rfl) ?_; go_simp; (first | (go_at_call 114; (with_reducible refine (cmp_calls _ _ _).mono ?_); rintro e w' ⟨rfl, rfl⟩) | (go_at_call 113; (with_reducible refine (or_calls _ (Lib.compareInt x.n y.n) (Lib.compareInt x.id y.id) _ (by exact N0 _ _) (by exact N1 _ _)).mono ?_); rintro e w' ⟨rfl, rfl⟩)); refine lexg_both (by (first | exact r0.drew | assumption | exact (r0.alloc (Nat.le_refl _) _).drew)) (fun hS1 => ?_))
  (refine lexg_eff (by rfl) ?_; go_simp; (first | (go_at_call 114; (with_reducible refine (cmp_calls _ _ _).mono ?_); rintro e w' ⟨rfl, rfl⟩) | (go_at_call 113; (with_reducible refine (or_calls _ (Lib.compareInt x.n y.n) (Lib.compareInt x.id y.id) _ (by exact N0 _ _) (by exact N1 _ _)).mono ?_); rintro e w' ⟨rfl, rfl⟩)); refine lexg_both (by (first | exact r0.drew | assumption | exact (r0.alloc (Nat.le_refl _) _).drew)) (fun hS1 => ?_))
  (refine lexg_eff (by rfl) ?_; go_simp; refine lexg_both (by (first | exact r0.drew | assumption | exact (r0.alloc (Nat.le_refl _) _).drew)) (fun hS1 => ?_))
  (refine lexg_eff (by rfl) ?_; go_simp; (first | (go_at_call 114; (with_reducible refine (cmp_calls _ _ _).mono ?_); rintro e w' ⟨rfl, rfl⟩) | (go_at_call 113; (with_reducible refine (or_calls _ (Lib.compareInt x.n y.n) (Lib.compareInt x.id y.id) _ (by exact N0 _ _) (by exact N1 _ _)).mono ?_); rintro e w' ⟨rfl, rfl⟩)); refine lexg_both (by (first | exact r0.drew | assumption | exact (r0.alloc (Nat.le_refl _) _).drew)) (fun hS1 => ?_))
  (apply lexg_pure (by rfl); (focus (intro w; go_simp; (try with_reducible rfl); done)); simp only [Act.put, List.setIfInBounds_toArray, List.set_cons_zero, List.set_cons_succ])
  refine lexg_nil (fun _ => wpAnyG_done (by kernel_rfl) ?_ _)
  go_wp2
  go_ret
  exact ⟨rfl, 1, #[.cells x.cells.toArray 76, .cells y.cells.toArray 76, .cells #[.int .i64 (Lib.compareInt x.n y.n), .int .i64 (Lib.compareInt x.id y.id)] 3], by rw [← HW.out]; exact grow3 _ _ _ _⟩
theorem cmpLaysLd2 (blk off size : Nat) (w : World) : CmpLays Tryz.prog 112 #[] Ld.cells 2 cmpLd blk off size w := fun _ _ _ _ x y => order2_calls x y _
set_option maxHeartbeats 1000000 in
theorem sortLd2_calls (blk cap : Nat) (xs : List Ld) (w : World) (hH : Sort.HoldsK Ld.cells 2 w blk 0 xs.toArray) (hblk : blk < w.heap.size) (hn : xs.length ≤ 1000000) :
    Calls Tryz.prog 111 #[.slice (some ⟨blk, 0, none⟩) xs.length cap, .func (.func 112) #[] #[]] w fun e w' => e = .returned (.tuple #[]) ∧ ∃ n os, w' = sortWorldK Ld.cells 2 w blk 0 n (sortLd xs).toArray os := by
  have eg : ∀ args w, (callFunc 112 args).run Tryz.prog w = .ok (.enter 112 args) w := enters_of Tryz.func112 (by kernel_rfl) rfl
  have h := AnyQ.slices_SortFunc_total Go.Proofs.YtcgecalbgkkinaaGreat.sortLoad 2 Tryz.isAgg76 Tryz.sizeOf76 Ld.cells (fun _ => rfl) (fun x v hv => by simp [Ld.cells] at hv; rcases hv with rfl | rfl <;> rfl) cmpLd swoLd 112 #[] blk 0 cap xs.toArray w eg (cmpLaysLd2 blk 0 _ w) hH hblk (by simp; omega) totLd
  rw [ldLt_eq] at h
  exact h
theorem sort2_calls (A : Option Addr) (n cap : Nat) (xs : List Ld) (w : World) (h : w.ownsRow 0 76 2 (.slice A n cap) n (ldCells xs)) (hn : xs.length = n) (hnn : n ≤ 1000000) :
    Calls Tryz.prog 111 #[.slice A n cap, .func (.func 112) #[] #[]] w fun e w' => e = .returned (.tuple #[]) ∧ Reads w' w'.heap.size 2 A n (ldCells (sortLd xs)) ∧ Chg (A.map Addr.block).toList w w' := by
  rcases Nat.eq_zero_or_pos n with h0 | hp
  · subst h0
    obtain rfl : xs = [] := List.eq_nil_of_length_eq_zero hn
    have hc := AnyF.slices_SortFunc_none Go.Proofs.YtcgecalbgkkinaaGreat.sortLoad A cap (.func (.func 112) #[] #[]) w
    refine Calls.mono hc fun e w' ⟨he, hw⟩ => ?_
    subst hw
    exact ⟨he, ⟨by simp [sortLd, ldCells], fun h => absurd h (by omega)⟩, Chg.refl _ _⟩
  · obtain ⟨g, c, e, _, hlt⟩ := World.ownsRow.form h hp
    injection e with e1 e2 e3
    subst e1
    have hH := holdsLd h hn
    have hc := sortLd2_calls g cap xs w hH hlt (by omega)
    rw [hn] at hc
    refine hc.mono fun e w' ⟨he, m, os, hw⟩ => ?_
    subst hw
    have hl : (sortLd xs).length = n := by unfold sortLd; rw [List.length_mergeSort, hn]
    refine ⟨he, readsLd (holdsK_sortWorldK_c Ld.cells 2 w g 0 xs.toArray _ m os hH hlt (by simp [hl, hn])) ?_ hl, sortW_chg w g m _ os⟩
    exact Nat.lt_of_lt_of_le hlt (size_sortWorldK_c _ _ _ _ _ _ _ _)

set_option maxHeartbeats 4000000 in
theorem vchoose_calls (A : Option Addr) (n c : Nat) (xs : List Ld) (m : Nat) (W w : World) (hown : w.ownsRow 0 76 2 (.slice A n c) n (ldCells xs)) (hn : xs.length = n) (hnn : n ≤ 1000000) (hm : m ≤ n) (hg : ∀ g, A.map Addr.block = some g → W.heap.size ≤ g) (hb : Below W.heap.size W w) :
    Calls Tryz.prog 102 #[.slice A n c, .int .i64 m] w fun e w' => ∃ A' c', e = .returned (.slice A' m c') ∧ OwnI W w' A' c' (chosen xs m) ∧ Below W.heap.size W w' := by
  obtain ⟨i0, hi, hz0, hz1, hz2⟩ := info_parts Tryz.infoI3
  obtain ⟨A0, c0, e0, hnc, hcm, _, _, _⟩ := own_view hown
  cases e0
  go_enter Tryz.func102, Tryz.ntmps102
  go_wp2_with fail
  refine (sort2_calls A n c xs w hown hn hnn).mono ?_
  rintro e w2 ⟨rfl, hr2, hch2⟩
  have B2 : Below W.heap.size W w2 := Chg.onto hb hb.size hch2 (fun x hx => hg x (by simpa using hx))
  have hs : (sortLd xs).length = n := by unfold sortLd; rw [List.length_mergeSort, hn]
  have hcl : chosen xs m = ((sortLd xs).map Ld.id).take m := by unfold chosen; rw [Int.toNat_natCast]
  have HCL := hide hcl
  obtain ⟨ss, hss⟩ : ∃ ss, sortLd xs = ss := ⟨_, rfl⟩
  rw [hss] at hr2 hs HCL
  have HS := hide hs
  have HB2 := hide B2
  have HR2 := hide hr2
  clear hown hch2 hb hss hs hcl B2 hr2 hg
  go_wp2
  obtain ⟨L, hL⟩ : ∃ L, ss.map Ld.id = L := ⟨_, rfl⟩
  have hLl : L.length = n := by rw [← hL, List.length_map, HS.out]
  rw [hL] at HCL
  have HLl := hide hLl
  have HL := hide hL
  clear hL hLl hn
  go_loopw [5, 7, 14] (fun v _ i wr => ∃ k : Nat, k ≤ m ∧ IntsInv w2 L v i wr k) (fun _ _ i _ => m - (intOf i).toNat)
  case atStart => exact ⟨0, Nat.zero_le _, IntsInv.start _ _ _ (Below.refl _ _)⟩
  case round =>
    obtain ⟨k, hkm, hinv⟩ := hrel
    have HI := hide hinv
    obtain ⟨A', cap', rfl, rfl, _, hown, hgb, hb⟩ := hinv
    have HO := hide hown
    clear hown hgb
    by_cases hlt : k < m
    · have hks : k < ss.length := by have := HS.out; omega
      obtain ⟨b, o, rfl, hbB, hcell⟩ := HR2.out.at_ (by omega)
      have g0 : wr.cell? ⟨b, o + k * 2, none⟩ = some (.int .i64 ss[k].id) := (hb.cell (p := ⟨b, o + k * 2, none⟩) hbB).trans (hcell _ _ (ldCells_get ss k 0 hks (by omega)))
      have g1 : wr.cell? ⟨b, o + k * 2 + 1, none⟩ = some (.int .i64 ss[k].n) := (hb.cell (p := ⟨b, o + k * 2 + 1, none⟩) hbB).trans (hcell _ _ (ldCells_get ss k 1 hks (by omega)))
      have hLk : L[k]'(by rw [HLl.out]; omega) = ss[k].id := by simp [← HL.out]
      obtain ⟨x, hx⟩ : ∃ x, ss[k] = x := ⟨_, rfl⟩
      rw [hx] at g0 g1 hLk
      have HLK := hide hLk
      have HR := hide HR2.out
      have i1 : (k : Int) < m := by omega
      clear hLk hx hcell HR2 hb
      go_wp2_with (at_builtin; refine app_law rfl _ _ 27 rfl 3 i0 _ 1 8 Tryz.underlying27 hi hz0 hz1 hz2 rfl (by decide) (.slice A' k cap') k ((L.take k).map (Value.int .i64)) rfl ((HO.out.alloc _).alloc _) (wr.heap.size + 1) 1 1 [.int .i64 x.id] rfl (Blk.new (by simp)) rfl ?c1 (by decide) ?c3 ?c4 ?_)
      case c1 => first | rfl | (intro u hu; simp at hu; subst hu; rfl)
      case c3 => unfold maxLen; omega
      case c4 => omega
      intro g cap2 w4 hown2 hch hor hlt2
      rw [ownBlock_slice] at hch hor
      rw [← List.map_take] at hown2
      have I1 := HI.out.below (((Below.refl wr.heap.size wr).alloc (Nat.le_refl _) (.cells #[.int .i64 x.id, .int .i64 x.n] 76)).alloc (by simp) (.cells #[.int .i64 x.id] 3))
      have F := IntsInv.push (n := k + 1) I1 (by rw [HLl.out]; omega) HLK.out rfl hown2 hch (hor.imp id (fun e => by simp at e ⊢; omega)) (z := (k : Int) + 1) (by omega)
      clear hown2 hch hor hlt2 g0 g1 I1
      go_wp2
      go_roundw
      case rel => exact ⟨k + 1, by omega, F⟩
      case measure => simp [intOf]; omega
    · have e : k = m := by omega
      subst e
      have HEE := hide (HI.out.out (most := k) (by omega) (Or.inl (by omega)))
      clear hb
      go_wp2
      go_ret
      obtain ⟨A3, c3, e3, _, h3, h4, h5⟩ := HEE.out
      rw [Int.toNat_natCast] at e3 h3
      have hln : (L.take k).length = k := by rw [List.length_take, HLl.out]; omega
      rw [hln] at e3 h3
      refine ⟨A3, c3, e3, ⟨?_, fun g hg => Nat.le_trans HB2.out.size (h4 g hg)⟩, HB2.out.trans (h5.mono HB2.out.size)⟩
      rw [HCL.out, hln]
      exact h3
end Go.Proofs.YtcgecalbgkkinaaGreat
