/- The walk through place.Choose. -/
import Derived.Test.YtjdgkdaebkflpaaPlace
import Derived.Lib.SliceRun
namespace Go.Proofs.Ytjdgkdaebkflpaa
open Go.RowKit Go.Proofs
set_option linter.unusedVariables false

theorem Try.infoLd : (Try.prog.info? 31).map (fun i => (i.zero, i.size, i.bytes)) = some (some (.agg #[.int .i64 0, .int .i64 0]), 2, 16) := by kernel_rfl
set_option maxHeartbeats 1000000 in
theorem cloneL_nil (n c : Nat) (w : World) : Calls Try.prog 63 #[.slice none n c] w fun e w' => e = .returned (.slice none 0 0) ∧ w = w' := by
  have q22 : ∀ (w : World) (a : Option Addr) (n c n' c' : Nat), (binOp .eql 32 (.slice a n c) (.slice none n' c')).run Try.prog w = .ok (.bool a.isNone) w := fun w a n c n' c' => Lib.run_eql_slice_nil w _ _ a n c n' c' Try.underlying32
  go_enter Try.func63, Try.ntmps63
  go_wp2
  go_ret
  exact ⟨rfl, rfl⟩
set_option maxHeartbeats 1000000 in
theorem cloneL_some (b o n c : Nat) (xs : List Value) (w : World) (hl : xs.length = n * 2) (hn : n ≤ 1048576) (hc : ∀ j u, xs[j]? = some u → w.cell? ⟨b, o + j, none⟩ = some u) (h1 : ∀ u ∈ xs, u.oneCell' = true) :
    Calls Try.prog 63 #[.slice (some ⟨b, o, none⟩) n c] w fun e w' => ∃ v, e = .returned v ∧ w'.ownsRow 0 31 2 v n xs ∧ (∀ g, v.ownBlock = some g → w.heap.size ≤ g) ∧ Below w.heap.size w w' := by
  have q22 : ∀ (w : World) (a : Option Addr) (n c n' c' : Nat), (binOp .eql 32 (.slice a n c) (.slice none n' c')).run Try.prog w = .ok (.bool a.isNone) w := fun w a n c n' c' => Lib.run_eql_slice_nil w _ _ a n c n' c' Try.underlying32
  obtain ⟨i0, hi, hz0, hz1, hz2⟩ := info_parts Try.infoLd
  have HC := hide hc
  clear hc
  go_enter Try.func63, Try.ntmps63
  go_wp2_with (at_builtin; refine wpList_append_own _ rfl _ _ 32 rfl w.heap.size 31 i0 _ 2 16 Try.underlying32 hi hz0 hz1 hz2 rfl (by decide) _ _ _ rfl (World.ownsRow_made w #[] 0 (Nat.le_refl _) (Nat.zero_le _) (by simp)) ⟨b, o, none⟩ n c xs rfl ?qc1 ?qc2 ?qc3 ?qc4 ?qc5 ?qc6 ?_)
  case qc1 => exact hl
  case qc2 =>
    intro j u hj
    rw [add_addr]
    exact Lib.cell?_alloc_some _ (HC.out j u hj)
  case qc3 => exact h1
  case qc4 => unfold maxLen; omega
  case qc5 => omega
  case qc6 => simp
  intro v' w1 hown hgrow hnil
  have hlt := hown.lt
  go_wp2
  go_ret
  exact ⟨v', rfl, by simpa using own_base hown, fun g hg => (hlt g hg).1, ((Below.refl _ w).alloc (Nat.le_refl _) _).grown hgrow (by simp) (by intro k hk; simp [Value.ownBlock] at hk; omega)⟩
theorem cloneL_calls (A : Option Addr) (n c : Nat) (xs : List Value) (w : World) (hn : n ≤ 1048576) (hA : ∀ a, A = some a → a.spot = none) (hr : Reads w w.heap.size 2 A n xs) (h1 : ∀ u ∈ xs, u.oneCell' = true) :
    Calls Try.prog 63 #[.slice A n c] w fun e w' => ∃ A' c', e = .returned (.slice A' n c') ∧ w'.ownsRow 0 31 2 (.slice A' n c') n xs ∧ (∀ g, A'.map Addr.block = some g → w.heap.size ≤ g) ∧ Below w.heap.size w w' := by
  cases A with
  | none =>
    have h0 : n = 0 := by
      rcases Nat.eq_zero_or_pos n with h | h
      · exact h
      · obtain ⟨b, o, h, _⟩ := hr.2 h
        cases h
    subst h0
    obtain rfl : xs = [] := List.eq_nil_of_length_eq_zero (by simpa using hr.1)
    refine (cloneL_nil 0 c w).mono fun e w' ⟨he, hw⟩ => ?_
    subst hw
    exact ⟨none, 0, he, ⟨rfl, Or.inl ⟨rfl, rfl⟩⟩, (fun g hg => by cases hg), Below.refl _ _⟩
  | some a =>
    obtain ⟨b, o, s⟩ := a
    obtain rfl : s = none := hA _ rfl
    refine (cloneL_some b o n c xs w hr.1 hn (fun j u hu => ?_) h1).mono fun e w' ⟨v, he, hown, hg, hb⟩ => ?_
    · have h0 : 0 < n := by have := (List.getElem?_eq_some_iff.1 hu).1; rw [hr.1] at this; omega
      obtain ⟨b', o', e, _, h⟩ := hr.2 h0
      cases e
      exact h j u hu
    · obtain ⟨A', c', rfl, _⟩ := own_view hown
      exact ⟨A', c', he, hown, fun g h => hg g (by rw [ownBlock_slice]; exact h), hb⟩
theorem ldCells_length (xs : List Ld) : (ldCells xs).length = xs.length * 2 := flat_length Ld.cells 2 (fun _ => rfl) xs
theorem ldCells_one (es : List Ld) : ∀ u ∈ ldCells es, u.oneCell' = true := by
  intro u hu
  obtain ⟨e, _, h⟩ := List.mem_flatMap.1 hu
  simp [Ld.cells] at h
  rcases h with rfl | rfl <;> rfl
theorem flat_at (xs : List Ld) (j : Nat) (hj : j < xs.length * 2) : (ldCells xs)[j]? = some (Sort.flatK Ld.cells 2 xs.toArray)[j]! := by
  have e : j = j / 2 * 2 + j % 2 := by omega
  have hk : j / 2 < xs.length := by omega
  rw [Sort.get_flatK _ _ _ _ (by simpa using hj)]
  have h := ldCells_get xs (j / 2) (j % 2) hk (by omega)
  rw [← e] at h
  rw [h]
  have hx : xs.toArray[j / 2]! = xs[j / 2] := by simp [hk]
  rw [hx]
  rcases (show j % 2 = 0 ∨ j % 2 = 1 by omega) with h2 | h2 <;> rw [h2] <;> rfl
theorem holdsLd {w : World} {g n cap : Nat} {xs : List Ld} (h : w.ownsRow 0 31 2 (.slice (some ⟨g, 0, none⟩) n cap) n (ldCells xs)) (hn : xs.length = n) : Sort.HoldsK Ld.cells 2 w g 0 xs.toArray := by
  intro j hj
  have hj' : j < n * 2 := by simpa [hn] using hj
  rw [Nat.zero_add]
  refine ⟨?_, h.frozenAt j⟩
  rw [h.cellAt j hj', flat_at xs j (by omega)]
  rfl
theorem readsLd {w : World} {g n : Nat} {xs : List Ld} (h : Sort.HoldsK Ld.cells 2 w g 0 xs.toArray) (hg : g < w.heap.size) (hn : xs.length = n) : Reads w w.heap.size 2 (some ⟨g, 0, none⟩) n (ldCells xs) := by
  refine ⟨by rw [ldCells_length, hn], fun _ => ⟨g, 0, rfl, hg, fun j u hu => ?_⟩⟩
  have hj : j < xs.length * 2 := by have := (List.getElem?_eq_some_iff.1 hu).1; rw [ldCells_length] at this; exact this
  have := (h j (by simpa using hj)).1
  rw [this]
  rw [flat_at xs j hj] at hu
  exact hu
theorem sortW_chg (w : World) (g m : Nat) (d : Array Ld) (os : Array Obj) : Chg [g] w (sortWorldK Ld.cells 2 w g 0 m d os) := by
  refine ⟨rfl, rfl, rfl, size_sortWorldK_c _ _ _ _ _ _ _ _, fun k hk hn => ?_⟩
  have hne : g ≠ k := fun e => hn (by simp [e])
  simp [sortWorldK, Sort.grow, Sort.putRowK, Sort.putRow, Sort.mapBlock, Sort.ahead, Array.getElem?_append, hk, Array.getElem_modify, hne]
theorem sort_calls (A : Option Addr) (n cap : Nat) (xs : List Ld) (w : World) (h : w.ownsRow 0 31 2 (.slice A n cap) n (ldCells xs)) (hn : xs.length = n) (hnn : n ≤ 1000000) :
    Calls Try.prog 64 #[.slice A n cap, .func (.func 65) #[] #[]] w fun e w' => e = .returned (.tuple #[]) ∧ Reads w' w'.heap.size 2 A n (ldCells (sortLd xs)) ∧ Chg (A.map Addr.block).toList w w' := by
  rcases Nat.eq_zero_or_pos n with h0 | hp
  · subst h0
    obtain rfl : xs = [] := List.eq_nil_of_length_eq_zero hn
    have hc := AnyF.slices_SortFunc_none Go.Proofs.Ytjdgkdaebkflpaa.sortLoad A cap (.func (.func 65) #[] #[]) w
    refine Calls.mono hc fun e w' ⟨he, hw⟩ => ?_
    subst hw
    exact ⟨he, ⟨by simp [sortLd, ldCells], fun h => absurd h (by omega)⟩, Chg.refl _ _⟩
  · obtain ⟨g, c, e, _, hlt⟩ := World.ownsRow.form h hp
    injection e with e1 e2 e3
    subst e1
    have hH := holdsLd h hn
    have hc := sortLd_calls g cap xs w hH hlt (by omega)
    rw [hn] at hc
    refine hc.mono fun e w' ⟨he, m, os, hw⟩ => ?_
    subst hw
    have hl : (sortLd xs).length = n := by unfold sortLd; rw [List.length_mergeSort, hn]
    refine ⟨he, readsLd (holdsK_sortWorldK_c Ld.cells 2 w g 0 xs.toArray _ m os hH hlt (by simp [hl, hn])) ?_ hl, sortW_chg w g m _ os⟩
    exact Nat.lt_of_lt_of_le hlt (size_sortWorldK_c _ _ _ _ _ _ _ _)

/-- a new slice of ints -/
def OutInts (w w' : World) (e : Ending) (L : List Int) : Prop :=
  ∃ A' cap', e = .returned (.slice A' L.length cap') ∧ L.length ≤ cap' ∧ w'.ownsRow 0 3 1 (.slice A' L.length cap') L.length (L.map (Value.int .i64)) ∧ (∀ g, A'.map Addr.block = some g → w.heap.size ≤ g) ∧ Below w.heap.size w w'
def IntsInv (w : World) (L : List Int) (v i : Value) (wr : World) (k : Nat) : Prop :=
  ∃ A' cap', v = .slice A' k cap' ∧ i = .int .i64 k ∧ k ≤ L.length ∧ wr.ownsRow 0 3 1 (.slice A' k cap') k ((L.take k).map (Value.int .i64)) ∧ (∀ g, A'.map Addr.block = some g → w.heap.size ≤ g) ∧ Below w.heap.size w wr
theorem IntsInv.start (w wr : World) (L : List Int) (h : Below w.heap.size w wr) : IntsInv w L (.slice none 0 0) (.int .i64 0) wr 0 :=
  ⟨none, 0, rfl, rfl, Nat.zero_le _, ⟨rfl, Or.inl ⟨rfl, rfl⟩⟩, (fun g hg => by cases hg), h⟩
theorem IntsInv.below {w wr wr' : World} {L : List Int} {v i : Value} {k : Nat} (h : IntsInv w L v i wr k) (hb : Below wr.heap.size wr wr') : IntsInv w L v i wr' k := by
  obtain ⟨A', cap', hv, hi, hk, ho, hg, hbw⟩ := h
  exact ⟨A', cap', hv, hi, hk, own_chg ho (Chg.of_below (L := []) hb) (fun _ _ hx => by cases hx), hg, hbw.trans (hb.mono hbw.size)⟩
theorem IntsInv.push {w w1 w2 : World} {L : List Int} {A' : Option Addr} {k n cap' : Nat} {i : Value} {x : Int} {g cap2 : Nat} (h : IntsInv w L (.slice A' k cap') i w1 k) (hk : k < L.length) (hx : L[k] = x) (hn : k + 1 = n)
    (hown2 : w2.ownsRow 0 3 1 (.slice (some ⟨g, 0, none⟩) n cap2) n ((L.take k).map (Value.int .i64) ++ [.int .i64 x])) (hch : Chg (A'.map Addr.block).toList w1 w2) (hor : A'.map Addr.block = some g ∨ w1.heap.size ≤ g) {z : Int} (hz : z = n) :
    IntsInv w L (.slice (some ⟨g, 0, none⟩) n cap2) (.int .i64 z) w2 n := by
  subst hz hn
  obtain ⟨B', c', hv, hi, _, ho, hg, hbw⟩ := h
  cases hv
  refine ⟨some ⟨g, 0, none⟩, cap2, rfl, rfl, by omega, ?_, ?_, Chg.onto hbw hbw.size hch fun z hz => hg z (by simpa using hz)⟩
  · rw [List.take_succ_eq_append_getElem hk, List.map_append, hx]; exact hown2
  · intro z hz
    obtain rfl : g = z := by simpa using hz
    rcases hor with hor | hor
    · exact hg g hor
    · exact Nat.le_trans hbw.size hor
theorem IntsInv.out {w wr : World} {L : List Int} {v i : Value} {k : Nat} {most : Int} (h : IntsInv w L v i wr k) (h2 : (k : Int) ≤ max most 0) (h3 : most ≤ k ∨ L.length ≤ k) : OutInts w wr (.returned v) (L.take most.toNat) := by
  obtain ⟨A', cap', rfl, _, hk, ho, hg, hb⟩ := h
  have e : L.take most.toNat = L.take k := by
    rcases h3 with h3 | h3
    · rw [show most.toNat = k by omega]
    · rw [List.take_of_length_le h3, List.take_of_length_le (by omega)]
  have hl : (L.take k).length = k := by rw [List.length_take]; omega
  have hc := own_view ho
  obtain ⟨A2, c2, e2, h5, _⟩ := hc
  cases e2
  rw [e]
  exact ⟨A', cap', by rw [hl], by rw [hl]; exact h5, by rw [hl]; exact ho, hg, hb⟩
theorem OutInts.back {w w2 w' : World} {e : Ending} {L : List Int} (h : OutInts w2 w' e L) (hb : Below w.heap.size w w2) : OutInts w w' e L := by
  obtain ⟨A', c', he, hl, ho, hg, hb2⟩ := h
  exact ⟨A', c', he, hl, ho, fun g h => Nat.le_trans hb.size (hg g h), hb.trans (hb2.mono hb.size)⟩
/-- who is chosen -/
def chosen (xs : List Ld) (copies : Int) : List Int := ((sortLd xs).map Ld.id).take copies.toNat
theorem Try.infoInt2 : (Try.prog.info? 3).map (fun i => (i.zero, i.size, i.bytes)) = some (some (.int .i64 0), 1, 8) := by kernel_rfl
set_option maxHeartbeats 4000000 in
theorem choose_calls (A : Option Addr) (n c : Nat) (xs : List Ld) (copies : Int) (w : World) (hA : ∀ a, A = some a → a.spot = none) (hr : Reads w w.heap.size 2 A n (ldCells xs)) (hn : xs.length = n) (hnn : n ≤ 1000000) :
    Calls Try.prog 31 #[.slice A n c, .int .i64 copies] w fun e w' => OutInts w w' e (chosen xs copies) := by
  obtain ⟨i0, hi, hz0, hz1, hz2⟩ := info_parts Try.infoInt2
  go_enter Try.func31, Try.ntmps31
  go_wp2
  go_step3
  go_wp2_with fail
  with_reducible refine (cloneL_calls _ _ _ _ _ (by omega) hA hr (ldCells_one _)).mono ?_
  rintro e w1 ⟨A1, c1, rfl, own1, hg1, hb1⟩
  go_wp2_with fail
  with_reducible refine (sort_calls _ _ _ _ _ own1 hn hnn).mono ?_
  rintro e w2 ⟨rfl, hr2, hch2⟩
  have B2 : Below w.heap.size w w2 := Chg.onto hb1 hb1.size hch2 (fun x hx => hg1 x (by simpa using hx))
  have hs : (sortLd xs).length = n := by unfold sortLd; rw [List.length_mergeSort, hn]
  obtain ⟨ss, hss⟩ : ∃ ss, sortLd xs = ss := ⟨_, rfl⟩
  rw [hss] at hr2 hs
  have HSS := hide hss
  have HS := hide hs
  clear own1 hg1 hch2 hb1 hss hs
  go_wp2
  go_step3
  go_wp2
  obtain ⟨L, hL⟩ : ∃ L, ss.map Ld.id = L := ⟨_, rfl⟩
  have hLl : L.length = n := by rw [← hL, List.length_map, HS.out]
  have HLl := hide hLl
  have HL := hide hL
  clear hL hLl hn
  go_loopw [5, 14] (fun v i wr => ∃ k : Nat, k ≤ n ∧ (k : Int) ≤ max copies 0 ∧ IntsInv w2 L v i wr k) (fun _ i _ => n - (intOf i).toNat)
  case atStart => exact ⟨0, Nat.zero_le _, by simp; omega, IntsInv.start _ _ _ (Below.refl _ _)⟩
  case round =>
    obtain ⟨k, hkn, hkm, hinv⟩ := hrel
    have HI := hide hinv
    obtain ⟨A', cap', rfl, rfl, _, hown, hgb, hb⟩ := hinv
    have HO := hide hown
    clear hown hgb
    by_cases hlt : k < n
    · have hks : k < ss.length := by have := HS.out; omega
      obtain ⟨b, o, rfl, hbB, hcell⟩ := hr2.at_ (by omega)
      have g0 : wr.cell? ⟨b, o + k * 2, none⟩ = some (.int .i64 ss[k].id) := (hb.cell (p := ⟨b, o + k * 2, none⟩) hbB).trans (hcell _ _ (ldCells_get ss k 0 hks (by omega)))
      have g1 : wr.cell? ⟨b, o + k * 2 + 1, none⟩ = some (.int .i64 ss[k].n) := (hb.cell (p := ⟨b, o + k * 2 + 1, none⟩) hbB).trans (hcell _ _ (ldCells_get ss k 1 hks (by omega)))
      have hLk : L[k]'(by rw [HLl.out]; exact hlt) = ss[k].id := by simp [← HL.out]
      obtain ⟨x, hx⟩ : ∃ x, ss[k] = x := ⟨_, rfl⟩
      rw [hx] at g0 g1 hLk
      have HLK := hide hLk
      have HR := hide hr2
      clear hLk hx hcell hr2
      by_cases hmo : copies ≤ (k : Int)
      · go_wp2
        rw [Exit.noGoto_ret]
        go_ret
        unfold chosen
        rw [HSS.out, HL.out]
        exact ((HI.out.below ((Below.refl _ _).alloc (Nat.le_refl _) _)).out hkm (Or.inl hmo)).back B2
      · go_wp2_with (at_builtin; refine app_law rfl _ _ 51 rfl 3 i0 _ 1 8 Try.underlying51 hi hz0 hz1 hz2 rfl (by decide) (.slice A' k cap') k ((L.take k).map (Value.int .i64)) rfl ((HO.out.alloc _).alloc _) (wr.heap.size + 1) 1 1 [.int .i64 x.id] rfl (Blk.new (by simp)) rfl ?c1 (by decide) ?c3 ?c4 ?_)
        case c1 => first | rfl | (intro u hu; simp at hu; subst hu; rfl)
        case c3 => unfold maxLen; omega
        case c4 => omega
        intro g cap2 w4 hown2 hch hor hlt2
        rw [ownBlock_slice] at hch hor
        rw [← List.map_take] at hown2
        have I1 := HI.out.below (((Below.refl wr.heap.size wr).alloc (Nat.le_refl _) (.cells #[.int .i64 x.id, .int .i64 x.n] 31)).alloc (by simp) (.cells #[.int .i64 x.id] 3))
        have F := IntsInv.push (n := k + 1) I1 (by rw [HLl.out]; exact hlt) HLK.out rfl hown2 hch (hor.imp id (fun e => by simp at e ⊢; omega)) (z := (k : Int) + 1) (by omega)
        clear hown2 hch hor hlt2 g0 g1 I1
        go_wp2
        go_roundw
        case rel => exact ⟨k + 1, by omega, by omega, F⟩
        case measure => simp [intOf]; omega
    · have e : k = n := by omega
      have HE := hide e
      clear e
      go_wp2
      rw [Exit.noGoto_ret]
      go_ret
      unfold chosen
      rw [HSS.out, HL.out]
      exact (HI.out.out hkm (Or.inr (by rw [HLl.out, HE.out]; exact Nat.le_refl _))).back B2
end Go.Proofs.Ytjdgkdaebkflpaa
