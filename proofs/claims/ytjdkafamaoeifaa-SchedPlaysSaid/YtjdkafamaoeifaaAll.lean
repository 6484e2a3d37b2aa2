/- All: the names of a heap's entries in their order: slices.SortedFunc of slices.Values. -/
import Derived.Test.YtjdkafamaoeifaaHeap8
import Derived.Test.YtjdkafamaoeifaaSeq
-- PARTIAL
namespace Go.Proofs.Ytjdkafamaoeifaa
open Go.RowKit Go.Proofs Go.Lib
set_option linter.unusedVariables false

theorem cmpLaysEnt (blk off size : Nat) (w : World) : CmpLays Try.prog 74 #[] Ld.cells 2 cmpLd blk off size w := fun _ _ _ _ x y => horder_calls x y _
set_option maxHeartbeats 1000000 in
theorem sortEnt_calls (blk cap : Nat) (xs : List Ld) (w : World) (hH : Sort.HoldsK Ld.cells 2 w blk 0 xs.toArray) (hblk : blk < w.heap.size) (hn : xs.length ≤ 1000000) :
    Calls Try.prog 82 #[.slice (some ⟨blk, 0, none⟩) xs.length cap, .func (.func 74) #[] #[]] w fun e w' => e = .returned (.tuple #[]) ∧ ∃ n os, w' = sortWorldK Ld.cells 2 w blk 0 n (sortLd xs).toArray os := by
  have eg : ∀ args w, (callFunc 74 args).run Try.prog w = .ok (.enter 74 args) w := enters_of Try.func74 (by kernel_rfl) rfl
  have h := AnyQ.slices_SortFunc_total Go.Proofs.Ytjdkafamaoeifaa.sortEnt 2 Try.isAgg111 Try.sizeOf111 Ld.cells (fun _ => rfl) (fun x v hv => by simp [Ld.cells] at hv; rcases hv with rfl | rfl <;> rfl) cmpLd swoLd 74 #[] blk 0 cap xs.toArray w eg (cmpLaysEnt blk 0 _ w) hH hblk (by simp; omega) totLd
  rw [ldLt_eq] at h
  exact h
theorem holdsEnt {w : World} {g n cap : Nat} {xs : List Ld} (h : w.ownsRow 0 111 2 (.slice (some ⟨g, 0, none⟩) n cap) n (ldCells xs)) (hn : xs.length = n) : Sort.HoldsK Ld.cells 2 w g 0 xs.toArray := by
  intro j hj
  have hj' : j < n * 2 := by simpa [hn] using hj
  rw [Nat.zero_add]
  refine ⟨?_, h.frozenAt j⟩
  rw [h.cellAt j hj', flat_at xs j (by omega)]
  rfl
theorem sortE_calls (A : Option Addr) (n cap : Nat) (xs : List Ld) (w : World) (h : w.ownsRow 0 111 2 (.slice A n cap) n (ldCells xs)) (hn : xs.length = n) (hnn : n ≤ 1000000) :
    Calls Try.prog 82 #[.slice A n cap, .func (.func 74) #[] #[]] w fun e w' => e = .returned (.tuple #[]) ∧ Reads w' w'.heap.size 2 A n (ldCells (sortLd xs)) ∧ Chg (A.map Addr.block).toList w w' := by
  rcases Nat.eq_zero_or_pos n with h0 | hp
  · subst h0
    obtain rfl : xs = [] := List.eq_nil_of_length_eq_zero hn
    have hc := AnyF.slices_SortFunc_none Go.Proofs.Ytjdkafamaoeifaa.sortEnt A cap (.func (.func 74) #[] #[]) w
    refine Calls.mono hc fun e w' ⟨he, hw⟩ => ?_
    subst hw
    exact ⟨he, ⟨by simp [sortLd, ldCells], fun h => absurd h (by omega)⟩, Chg.refl _ _⟩
  · obtain ⟨g, c, e, _, hlt⟩ := World.ownsRow.form h hp
    injection e with e1 e2 e3
    subst e1
    have hH := holdsEnt h hn
    have hc := sortEnt_calls g cap xs w hH hlt (by omega)
    rw [hn] at hc
    refine hc.mono fun e w' ⟨he, m, os, hw⟩ => ?_
    subst hw
    have hl : (sortLd xs).length = n := by unfold sortLd; rw [List.length_mergeSort, hn]
    refine ⟨he, readsLd (holdsK_sortWorldK_c Ld.cells 2 w g 0 xs.toArray _ m os hH hlt (by simp [hl, hn])) ?_ hl, sortW_chg w g m _ os⟩
    exact Nat.lt_of_lt_of_le hlt (size_sortWorldK_c _ _ _ _ _ _ _ _)
set_option maxHeartbeats 1000000 in
theorem sortedF_calls (Bs cap : Nat) (A : Option Addr) (zs : List Ld) (hlen : zs.length ≤ 1000000) (w : World) (hBs : Bs < w.heap.size)
    (hc : w.cell? ⟨Bs, 0, none⟩ = some (.slice A zs.length cap)) (hR : Reads w w.heap.size 2 A zs.length (ldCells zs)) :
    Calls Try.prog 72 #[.func (.func 83) #[] #[.pointer (some ⟨Bs, 0, none⟩)], .func (.func 74) #[] #[]] w fun e w' =>
      ∃ A' c', e = .returned (.slice A' zs.length c') ∧ Reads w' w'.heap.size 2 A' zs.length (ldCells (sortLd zs)) ∧ Below w.heap.size w w' := by
  have h := collect_calls Bs cap A zs hlen w hBs hc hR
  clear hc hR
  go_enter Try.func72, Try.ntmps72
  go_wp2_with fail
  refine h.mono ?_
  rintro e w1 ⟨A', c', rfl, ho, hb⟩
  go_wp2_with fail
  refine (sortE_calls A' zs.length c' zs w1 (own_base ho) rfl hlen).mono ?_
  rintro e w2 ⟨rfl, hr, hch⟩
  have B2 : Below w.heap.size w w2 := Chg.onto hb hb.size hch (fun x hx => (ho.lt x (by rw [ownBlock_slice]; simpa using hx)).1)
  go_wp2
  go_ret
  exact ⟨A', c', rfl, hr, B2⟩
set_option maxHeartbeats 4000000 in
theorem hall_calls (p : Pl) (L : List Ld) (F : List Nat) (w : World) (h : HeapAt w p L F) (hl : L.length ≤ 1000000) :
    Calls Try.prog 57 #[.pointer (some ⟨p.b, p.o, none⟩)] w fun e w' => OutInts w w' e ((sortLd L).map Ld.id) := by
  obtain ⟨i0, hi, hz0, hz1, hz2⟩ := info_parts Try.infoInt2
  obtain ⟨A, cap, c0, ho, _⟩ := h.c0
  obtain ⟨A0, c0', e0, _, _, _, _, hr⟩ := own_view ho
  cases e0
  have hr0 := hr w.heap.size (fun g hg => own_lt ho hg)
  clear hr ho h
  have B0 : Below w.heap.size w (w.alloc (.cells #[.slice A L.length cap] 79)) := (Below.refl _ w).alloc (Nat.le_refl _) _
  have C0 : (w.alloc (.cells #[.slice A L.length cap] 79)).cell? ⟨w.heap.size, 0, none⟩ = some (.slice A L.length cap) := (Boxed.new w _ _).cell
  have HS := hide (sortedF_calls w.heap.size cap A L hl _ (by simp) C0 ((hr0.below B0).more B0.size))
  have HB0 := hide B0
  clear C0 hr0 B0
  go_enter Try.func57, Try.ntmps57
  go_wp2_with fail
  refine (vals_calls A L.length cap w).mono ?_
  rintro e w1 ⟨rfl, hw1⟩
  subst hw1
  go_wp2_with fail
  refine (HS.out).mono ?_
  rintro e w2 ⟨A2, c2, rfl, hr2, hb2⟩
  have B2 : Below w.heap.size w w2 := HB0.out.trans (hb2.mono HB0.out.size)
  clear hb2 c0 HS HB0
  have hs : (sortLd L).length = L.length := sortLd_length L
  obtain ⟨n, hn⟩ : ∃ n, L.length = n := ⟨_, rfl⟩
  rw [hn] at hr2 hs hl
  rw [hn]
  obtain ⟨ss, hss⟩ : ∃ ss, sortLd L = ss := ⟨_, rfl⟩
  rw [hss] at hr2 hs
  have HS := hide hs
  have HSS := hide hss
  clear hss hs hn
  obtain ⟨M, hM⟩ : ∃ M, ss.map Ld.id = M := ⟨_, rfl⟩
  have hMl : M.length = n := by rw [← hM, List.length_map, HS.out]
  have HLl := hide hMl
  have HL := hide hM
  clear hM hMl
  go_wp2
  go_loopw [3, 13] (fun v i wr => ∃ k : Nat, k ≤ n ∧ IntsInv w2 M v i wr k) (fun _ i _ => n - (intOf i).toNat)
  case atStart => exact ⟨0, Nat.zero_le _, IntsInv.start _ _ _ (Below.refl _ _)⟩
  case round =>
    obtain ⟨k, hkn, hinv⟩ := hrel
    have HI := hide hinv
    obtain ⟨A', cap', rfl, rfl, _, hown, hgb, hb⟩ := hinv
    have HO := hide hown
    clear hown hgb
    by_cases hlt : k < n
    · have hks : k < ss.length := by have := HS.out; omega
      obtain ⟨b, o, rfl, hbB, hcell⟩ := hr2.at_ (by omega)
      have g0 : wr.cell? ⟨b, o + k * 2, none⟩ = some (.int .i64 ss[k].id) := (hb.cell (p := ⟨b, o + k * 2, none⟩) hbB).trans (hcell _ _ (ldCells_get ss k 0 hks (by omega)))
      have g1 : wr.cell? ⟨b, o + k * 2 + 1, none⟩ = some (.int .i64 ss[k].n) := (hb.cell (p := ⟨b, o + k * 2 + 1, none⟩) hbB).trans (hcell _ _ (ldCells_get ss k 1 hks (by omega)))
      have hLk : M[k]'(by rw [HLl.out]; exact hlt) = ss[k].id := by simp [← HL.out]
      obtain ⟨x, hx⟩ : ∃ x, ss[k] = x := ⟨_, rfl⟩
      rw [hx] at g0 g1 hLk
      have HLK := hide hLk
      have HR := hide hr2
      clear hLk hx hcell hr2
      go_wp2_with (at_builtin; refine app_law rfl _ _ 33 rfl 3 i0 _ 1 8 Try.underlying33 hi hz0 hz1 hz2 rfl (by decide) (.slice A' k cap') k ((M.take k).map (Value.int .i64)) rfl ((HO.out.alloc _).alloc _) (wr.heap.size + 1) 1 1 [.int .i64 x.id] rfl (Blk.new (by simp)) rfl ?c1 (by decide) ?c3 ?c4 ?_)
      case c1 => first | rfl | (intro u hu; simp at hu; subst hu; rfl)
      case c3 => unfold maxLen; omega
      case c4 => omega
      intro g cap2 w4 hown2 hch hor hlt2
      rw [ownBlock_slice] at hch hor
      rw [← List.map_take] at hown2
      have I1 := HI.out.below (((Below.refl wr.heap.size wr).alloc (Nat.le_refl _) (.cells #[.int .i64 x.id, .int .i64 x.n] 111)).alloc (by simp) (.cells #[.int .i64 x.id] 3))
      have F := IntsInv.push (n := k + 1) I1 (by rw [HLl.out]; exact hlt) HLK.out rfl hown2 hch (hor.imp id (fun e => by simp at e ⊢; omega)) (z := (k : Int) + 1) (by omega)
      clear hown2 hch hor hlt2 g0 g1 I1
      go_wp2
      go_roundw
      case rel => exact ⟨k + 1, by omega, F⟩
      case measure => simp [intOf]; omega
    · have e : k = n := by omega
      have HE := hide e
      clear e
      go_wp2
      go_ret
      have F := (HI.out.out (most := (n : Int)) (by omega) (Or.inr (by rw [HLl.out, HE.out]; exact Nat.le_refl _))).back B2
      rw [Int.toNat_natCast, List.take_of_length_le (by rw [HLl.out]; exact Nat.le_refl _)] at F
      rw [HSS.out, HL.out]
      exact F
end Go.Proofs.Ytjdkafamaoeifaa
