/- The law PlaceTells. -/
import Derived.Test.YtjdgkdaebkflpaaRef19
namespace Go.Proofs.Ytjdgkdaebkflpaa
open Go.ChangeShapes Go.WideShapes Go.ChangeAt Go.RowKit Go.Proofs Go.Joins
set_option linter.unusedVariables false

theorem Try.cellsLd : Try.prog.cellsOf 31 = 2 := by kernel_rfl
set_option maxRecDepth 100000 in
theorem open_lds {H : Type} {enc : TypeId × Value → H} {W : World} {base : Nat} {v : Value} {d : DataW H} {p : List MemPlace}
    (ok : Value.okWide Try.prog W .any base 32 v) (h : DataW.Trod enc Try.prog W 0 (fun _ => true) true 32 v d p) :
    ∃ (A : Option Addr) (c : Nat) (ps : List Ld), v = .slice A ps.length c ∧ ps.length ≤ c ∧ c ≤ maxLen ∧ Reads W W.heap.size 2 A ps.length (ldCells ps) := by
  obtain ⟨A, n, c, g, rfl, hn, hcm, hg, hr⟩ := open_rows 2 Try.underlying32 Try.underlying31 rfl (by kernel_rfl) Try.cellsLd (by decide) (by
    intro j f hj
    match j, hj with
    | 0, hj => injection hj with hj; subst hj; exact Try.underlying3
    | 1, hj => injection hj with hj; subst hj; exact Try.underlying3) ok h
  have hlen : ((List.range n).map fun i => (⟨g i 0, g i 1⟩ : Ld)).length = n := by simp
  refine ⟨A, c, (List.range n).map fun i => ⟨g i 0, g i 1⟩, by simp, by simpa using hn, hcm, ?_⟩
  rw [hlen]
  refine ⟨by rw [ldCells_length, hlen], fun hn0 => ?_⟩
  obtain ⟨b, o, rfl, hb, hc⟩ := hr hn0
  refine ⟨b, o, rfl, hb, fun q u hu => ?_⟩
  have hq : q < n * 2 := by
    have h1 := (List.getElem?_eq_some_iff.1 hu).1
    rw [ldCells_length, hlen] at h1
    exact h1
  have e : q = q / 2 * 2 + q % 2 := by omega
  have hi : q / 2 < n := by omega
  have hj : q % 2 < 2 := by omega
  rw [e, ldCells_get _ _ _ (by rw [hlen]; exact hi) hj] at hu
  have hc' := hc (q / 2) (q % 2) hi hj
  rw [e]
  generalize q / 2 = i at *
  generalize q % 2 = j at *
  rw [hc']
  rw [List.getElem_map, List.getElem_range] at hu
  match j, hj with
  | 0, _ => exact hu
  | 1, _ => exact hu

/-- the least one -/
def leastLd (xs : List Ld) : Int := ((sortLd xs).head?.map Ld.id).getD 0
theorem chosen_one (xs : List Ld) (h : 0 < xs.length) : chosen xs 1 = [leastLd xs] := by
  have hl := sortLd_length xs
  unfold chosen leastLd
  cases e : sortLd xs with
  | nil => rw [e] at hl; simp at hl; omega
  | cons y ys => rfl
set_option maxHeartbeats 1000000 in
theorem least_calls (A : Option Addr) (n c : Nat) (xs : List Ld) (w : World) (hA : ∀ a, A = some a → a.spot = none) (hr : Reads w w.heap.size 2 A n (ldCells xs)) (hn : xs.length = n) (hnn : n ≤ 1000000) (hp : 0 < n) :
    Calls Try.prog 34 #[.slice A n c] w fun e w' => e = .returned (.tuple #[.int .i64 (leastLd xs), .bool true]) ∧ Below w.heap.size w w' := by
  have i1 : ¬ ((n : Int) = 0) := by omega
  go_enter Try.func34, Try.ntmps34
  go_wp2_with fail
  with_reducible refine (choose_calls _ _ _ xs _ _ hA hr hn hnn).mono ?_
  rintro e w1 hout
  rw [chosen_one xs (by omega)] at hout
  obtain ⟨A1, n1, c1, rfl, hn1, hc1, hr1, _, hb1⟩ := hout.view
  obtain rfl : 1 = n1 := hn1
  obtain ⟨b, o, rfl, _, hcell⟩ := hr1.at_ (by omega)
  have j0 : w1.cell? ⟨b, o, none⟩ = some (.int .i64 (leastLd xs)) := hcell 0 _ rfl
  clear hout hr1 hcell
  go_wp2
  go_ret2
  exact ⟨rfl, hb1⟩
theorem least_none (A : Option Addr) (c : Nat) (w : World) :
    Calls Try.prog 34 #[.slice A 0 c] w fun e w' => e = .returned (.tuple #[.int .i64 0, .bool false]) ∧ w = w' := by
  go_enter Try.func34, Try.ntmps34
  go_wp2
  go_ret2
  exact ⟨rfl, rfl⟩
set_option maxHeartbeats 1000000 in
theorem cloneL_zero (a : Addr) (c : Nat) (w : World) :
    Calls Try.prog 63 #[.slice (some a) 0 c] w fun e w' => ∃ v, e = .returned v ∧ w'.ownsRow 0 31 2 v 0 [] ∧ (∀ g, v.ownBlock = some g → w.heap.size ≤ g) ∧ Below w.heap.size w w' := by
  have q22 : ∀ (w : World) (a : Option Addr) (n c n' c' : Nat), (binOp .eql 32 (.slice a n c) (.slice none n' c')).run Try.prog w = .ok (.bool a.isNone) w := fun w a n c n' c' => Lib.run_eql_slice_nil w _ _ a n c n' c' Try.underlying32
  obtain ⟨i0, hi, hz0, hz1, hz2⟩ := info_parts Try.infoLd
  go_enter Try.func63, Try.ntmps63
  go_wp2_with (at_builtin; refine wpList_append_own _ rfl _ _ 32 rfl w.heap.size 31 i0 _ 2 16 Try.underlying32 hi hz0 hz1 hz2 rfl (by decide) _ _ _ rfl (World.ownsRow_made w #[] 0 (Nat.le_refl _) (Nat.zero_le _) (by simp)) a 0 c [] rfl ?qc1 ?qc2 ?qc3 ?qc4 ?qc5 ?qc6 ?_)
  case qc1 => rfl
  case qc2 =>
    intro j u hj
    simp at hj
  case qc3 => intro u hu; cases hu
  case qc4 => unfold maxLen; omega
  case qc5 => omega
  case qc6 => simp
  intro v' w1 hown hgrow hnil
  have hlt := hown.lt
  go_wp2
  go_ret
  exact ⟨v', rfl, by simpa using own_base hown, fun g hg => (hlt g hg).1, ((Below.refl _ w).alloc (Nat.le_refl _) _).grown hgrow (by simp) (by intro k hk; simp [Value.ownBlock] at hk; omega)⟩
set_option maxHeartbeats 1000000 in
theorem choose_zero (a : Addr) (c : Nat) (copies : Int) (w : World) :
    Calls Try.prog 31 #[.slice (some a) 0 c, .int .i64 copies] w fun e w' => OutInts w w' e [] := by
  go_enter Try.func31, Try.ntmps31
  go_wp2
  go_step3
  go_wp2_with fail
  with_reducible refine (cloneL_zero _ _ _).mono ?_
  rintro e w1 ⟨v, rfl, own1, hg1, hb1⟩
  obtain ⟨A1, c1, rfl, _⟩ := own_view own1
  go_wp2_with fail
  with_reducible refine (sort_calls A1 0 c1 [] _ own1 rfl (by omega)).mono ?_
  rintro e w2 ⟨rfl, hr2, hch2⟩
  have B2 : Below w.heap.size w w2 := Chg.onto hb1 hb1.size hch2 (fun x hx => hg1 x (by rw [ownBlock_slice]; simpa using hx))
  clear own1 hg1 hch2 hb1
  go_wp2
  go_step3
  go_wp2
  go_loopw [5, 14] (fun v i wr => v = .slice none 0 0 ∧ i = .int .i64 0 ∧ wr = w2) (fun _ i _ => 0)
  case atStart => exact ⟨rfl, rfl, rfl⟩
  case round =>
    obtain ⟨rfl, rfl, rfl⟩ := hrel
    go_wp2
    rw [Exit.noGoto_ret]
    go_ret
    exact ⟨none, 0, rfl, Nat.le_refl _, ⟨rfl, Or.inl ⟨rfl, rfl⟩⟩, (fun g hg => by cases hg), B2⟩
theorem choose_any (A : Option Addr) (n c : Nat) (xs : List Ld) (copies : Int) (w : World) (hr : Reads w w.heap.size 2 A n (ldCells xs)) (hn : xs.length = n) (hnn : n ≤ 1000000) :
    Calls Try.prog 31 #[.slice A n c, .int .i64 copies] w fun e w' => OutInts w w' e (chosen xs copies) := by
  rcases Nat.eq_zero_or_pos n with h0 | h0
  · subst h0
    cases A with
    | none => exact choose_calls _ _ _ _ _ _ (by intro a ha; cases ha) hr hn hnn
    | some a =>
      have e : chosen xs copies = [] := List.eq_nil_of_length_eq_zero (by rw [chosen_length, hn]; omega)
      rw [e]
      exact choose_zero a c copies w
  · obtain ⟨b, o, rfl, _⟩ := hr.2 h0
    exact choose_calls _ _ _ _ _ _ (by intro a ha; cases ha; rfl) hr hn hnn
set_option maxHeartbeats 4000000 in
set_option maxRecDepth 100000 in
/-- THE WALK of PlaceTells: whatever comes in, it answers true, and nothing that was there turns. -/
theorem placeTells_walk {H : Type} {enc : TypeId × Value → H} (W : World) (base : Nat) (v0 v1 : Value) (d0 d1 : DataW H) (p0 p1 : List MemPlace)
    (ok0 : Value.okWide Try.prog W .any base 32 v0) (h0 : DataW.Trod enc Try.prog W 0 (fun _ => true) true 32 v0 d0 p0)
    (ok1 : Value.okWide Try.prog W .any base 3 v1) (h1 : DataW.Trod enc Try.prog W 0 (fun _ => true) true 3 v1 d1 p1) :
    Calls Try.prog 10 #[v0, v1] W fun e w' => e = .returned (.bool true) ∧ Below W.heap.size W w' := by
  obtain ⟨A, c, ps, rfl, hlen, hcap, hr⟩ := open_lds ok0 h0
  obtain ⟨copies, rfl, rfl, rfl, wa⟩ := open_int Try.underlying3 ok1 h1
  unfold maxLen at hcap
  clear ok0 h0 ok1 h1 wa
  by_cases hn : ps.length ≤ 40
  · obtain ⟨n, hnn⟩ : ∃ n, ps.length = n := ⟨_, rfl⟩
    rw [hnn] at hlen hn hr ⊢
    have HNN := hide hnn
    clear hnn
    have HR := hide hr
    clear hr
    have fin : ∀ (w2 : World), Below W.heap.size W w2 → Reads w2 w2.heap.size 2 A n (ldCells ps) := fun w2 hb => (HR.out.below hb).more hb.size
    have FIN := hide fin
    clear fin
    rcases Nat.eq_zero_or_pos n with h0 | h0
    · subst h0
      have e1 : chosen ps 1 = [] := List.eq_nil_of_length_eq_zero (by rw [chosen_length, HNN.out]; rfl)
      have e2 : chosen ps copies = [] := List.eq_nil_of_length_eq_zero (by rw [chosen_length, HNN.out]; omega)
      have E1 := hide e1
      have E2 := hide e2
      clear e1 e2
      go_enter Try.func10, Try.ntmps10
      go_wp2_with fail
      with_reducible refine (least_none _ _ _).mono ?_
      rintro e w1 ⟨rfl, rfl⟩
      have hb1 : Below W.heap.size W W := Below.refl _ _
      have r0 := FIN.out W hb1
      go_wp2_with fail
      with_reducible refine (rchoose_calls _ _ _ ps _ _ r0 HNN.out (by omega)).mono ?_
      rintro e w2 hout
      rw [E1.out] at hout
      obtain ⟨A2, n2, c2, rfl, hn2, hc2, hr2, _, hb2⟩ := hout.view
      obtain rfl : 0 = n2 := hn2
      have B2 := hb1.trans (hb2.mono hb1.size)
      have r2 := FIN.out w2 B2
      clear hout hr2 hb1 hb2
      go_wp2_with fail
      with_reducible refine (choose_any _ _ _ ps _ _ r2 HNN.out (by omega)).mono ?_
      rintro e w3 hout
      rw [E2.out] at hout
      obtain ⟨A3, n3, c3, rfl, hn3, hc3, hr3, _, hb3⟩ := hout.view
      obtain rfl : 0 = n3 := hn3
      have B3 := B2.trans (hb3.mono B2.size)
      have r3 := FIN.out w3 B3
      have HR3 := hide hr3
      clear hout hr3 r2 B2
      go_wp2_with fail
      with_reducible refine (rchoose_calls _ _ _ ps _ _ r3 HNN.out (by omega)).mono ?_
      rintro e w4 hout
      rw [E2.out] at hout
      obtain ⟨A4, n4, c4, rfl, hn4, hc4, hr4, _, hb4⟩ := hout.view
      obtain rfl : 0 = n4 := hn4
      have B4 := B3.trans (hb4.mono B3.size)
      have r4 := (HR3.out.below hb4).more hb4.size
      clear hout r3 B3
      go_wp2_with fail
      with_reducible refine (sameInts_yes [] 0 _ _ _ _ _ rfl r4 hr4 (by omega)).mono ?_
      rintro e w5 ⟨rfl, q, hw5⟩
      subst hw5
      have B5 : Below W.heap.size W (w4.drewN q) := below_drewN B4 _
      clear hr4 r4
      go_wp2_with fail
      with_reducible refine (awake19_calls _).mono ?_
      rintro e w6 ⟨rfl, hb6⟩
      have B6 := B5.trans (hb6.mono B5.size)
      go_wp2
      go_ret
      exact ⟨rfl, B6⟩
    · have hA : ∀ a, A = some a → a.spot = none := by
        obtain ⟨b, o, rfl, _⟩ := HR.out.2 h0
        intro a ha; cases ha; rfl
      go_enter Try.func10, Try.ntmps10
      go_wp2_with fail
      with_reducible refine (least_calls _ _ _ ps _ hA HR.out HNN.out (by omega) h0).mono ?_
      rintro e w1 ⟨rfl, hb1⟩
      have r1 := FIN.out w1 hb1
      go_wp2_with fail
      with_reducible refine (rchoose_calls _ _ _ ps _ _ r1 HNN.out (by omega)).mono ?_
      rintro e w2 hout
      rw [chosen_one ps (by have := HNN.out; omega)] at hout
      obtain ⟨A2, n2, c2, rfl, hn2, hc2, hr2, _, hb2⟩ := hout.view
      obtain rfl : 1 = n2 := hn2
      obtain ⟨b, o, rfl, _, hcell⟩ := hr2.at_ (by omega)
      have j0 : w2.cell? ⟨b, o, none⟩ = some (.int .i64 (leastLd ps)) := hcell 0 _ rfl
      have hbl : b < w2.heap.size := World.block_lt_of_cell? w2 _ j0
      have B2 := hb1.trans (hb2.mono hb1.size)
      have r2 := FIN.out w2 B2
      clear hout hr2 hcell
      go_wp2_with fail
      with_reducible refine (choose_any _ _ _ ps _ _ r2 HNN.out (by omega)).mono ?_
      rintro e w3 hout
      obtain ⟨A3, n3, c3, rfl, hn3, hc3, hr3, _, hb3⟩ := hout.view
      have B3 := B2.trans (hb3.mono B2.size)
      have j3 : w3.cell? ⟨b, o, none⟩ = some (.int .i64 (leastLd ps)) := (hb3.cell (p := ⟨b, o, none⟩) hbl).trans j0
      have hbl3 : b < w3.heap.size := World.block_lt_of_cell? w3 _ j3
      have r3 := FIN.out w3 B3
      have HR3 := hide hr3
      have HN3 := hide hn3
      clear hout hr3 hn3 j0 hbl r1 r2
      go_wp2_with fail
      with_reducible refine (rchoose_calls _ _ _ ps _ _ r3 HNN.out (by omega)).mono ?_
      rintro e w4 hout
      obtain ⟨A4, n4, c4, rfl, hn4, hc4, hr4, _, hb4⟩ := hout.view
      obtain rfl : n3 = n4 := HN3.out.symm.trans hn4
      have B4 := B3.trans (hb4.mono B3.size)
      have j4 : w4.cell? ⟨b, o, none⟩ = some (.int .i64 (leastLd ps)) := (hb4.cell (p := ⟨b, o, none⟩) hbl3).trans j3
      have hbl4 : b < w4.heap.size := World.block_lt_of_cell? w4 _ j4
      have r4 := (HR3.out.below hb4).more hb4.size
      clear hout j3 hbl3 r3
      go_wp2_with fail
      with_reducible refine (sameInts_yes _ _ _ _ _ _ _ HN3.out r4 hr4 (by have := HN3.out; rw [chosen_length, HNN.out] at this; omega)).mono ?_
      rintro e w5 ⟨rfl, q, hw5⟩
      subst hw5
      have B5 : Below W.heap.size W (w4.drewN q) := below_drewN B4 _
      have i1 : (0 : Int) < n := by omega
      clear hr4 r4
      go_wp2_with fail
      with_reducible refine (awake19_calls _).mono ?_
      rintro e w6 ⟨rfl, hb6⟩
      have B6 := B5.trans (hb6.mono B5.size)
      go_wp2
      go_ret
      exact ⟨rfl, B6⟩
  · have d0 : decide ((40 : Int) < ps.length) = true := decide_eq_true (by omega)
    go_enter Try.func10, Try.ntmps10
    go_wp2_with (go_at_call 32; with_reducible refine (awake19_calls _).mono ?_; rintro e w1 ⟨rfl, hb1⟩)
    go_ret
    exact ⟨rfl, hb1⟩
end Go.Proofs.Ytjdgkdaebkflpaa
