/- The law RlogCuts of layer 14: for every input it answers true. No conditions. -/
import Derived.Test.YtjdgkdaebkflpaaLaw14a
import Derived.Test.YtjdgkdaebkflpaaCut
namespace Go.Proofs.Ytjdgkdaebkflpaa
open Go.ChangeShapes Go.WideShapes Go.ChangeAt Go.RowKit Go.Joins
set_option linter.unusedVariables false
set_option maxRecDepth 100000

theorem Ents.below {w w' : World} {A : Option Addr} {n c : Nat} {Y : List Con} (h : Ents w A n c Y) (hb : Below w.heap.size w w') : Ents w' A n c Y := by
  obtain ⟨⟨ys, h1, h2, h3, h4⟩, h5⟩ := h
  exact ⟨⟨ys, h1, h2, (h3.below hb).more hb.size, fun y hy => (h4 y hy).below hb⟩, h5⟩
theorem ents_same {w : World} {A A' : Option Addr} {n c c' : Nat} {Y : List Con} (h : Ents w A n c Y) (h' : Ents w A' n c' Y) (hf : FewC Y) (hn : n ≤ 1048576) :
    Calls Try.prog 24 #[.slice A n c, .slice A' n c'] w fun e w' => e = .returned (.bool true) ∧ ∃ n, w' = w.drewN n := by
  obtain ⟨⟨xs, h1, h2, h3, h4⟩, h5⟩ := h
  obtain ⟨⟨ys, k1, k2, k3, k4⟩, k5⟩ := h'
  exact same14_calls xs ys n h1 k1 A A' c c' w h3 k3 h4 k4 (h2.trans k2.symm) hn (by rw [← h2] at hf; exact hf.few)
set_option maxHeartbeats 4000000 in
/-- THE WALK of RlogCuts: whatever comes in, it answers true, and nothing that was there turns. -/
theorem rlogCuts_walk {H : Type} {enc : TypeId × Value → H} (W : World) (base : Nat) (v0 v1 v2 : Value) (d0 d1 d2 : DataW H) (p0 p1 p2 : List MemPlace)
    (ok0 : Value.okWide Try.prog W .any base 34 v0) (h0 : DataW.Trod enc Try.prog W 0 (fun _ => true) true 34 v0 d0 p0)
    (ok1 : Value.okWide Try.prog W .any base 5 v1) (h1 : DataW.Trod enc Try.prog W 0 (fun _ => true) true 5 v1 d1 p1)
    (ok2 : Value.okWide Try.prog W .any base 5 v2) (h2 : DataW.Trod enc Try.prog W 0 (fun _ => true) true 5 v2 d2 p2) :
    Calls Try.prog 6 #[v0, v1, v2] W fun e w' => e = .returned (.bool true) ∧ Below W.heap.size W w' := by
  obtain ⟨A0, c0, xs, rfl, l0, m0, f0, R0⟩ := open_intsR Try.underlying34 Try.underlying5 Try.cellsByte ok0 h0
  obtain ⟨cut, rfl, rfl, rfl, wc⟩ := open_int Try.underlying5 ok1 h1
  obtain ⟨more, rfl, rfl, rfl, wm⟩ := open_int Try.underlying5 ok2 h2
  obtain ⟨u0, u1⟩ := bounds_u8 wc
  obtain ⟨v0, v1⟩ := bounds_u8 wm
  clear ok0 ok1 ok2 h0 h1 h2 wc wm
  unfold maxLen at m0
  have F0 : ∀ x ∈ xs, 0 ≤ x ∧ x ≤ 255 := fun x hx => bounds_u8 (f0 x hx)
  have G0 := hide F0
  clear f0 F0
  by_cases n0 : 1 ≤ xs.length ∧ xs.length ≤ 20
  · obtain ⟨n0, n1⟩ := n0
    have HR0 := hide R0
    clear R0
    go_enter Try.func6, Try.ntmps6
    go_wp2_with fail
    with_reducible refine (lg_new _ _ _ (by decide) (by decide)).mono ?_
    rintro e w1 ⟨p1, rfl, L1, q1, b1⟩
    go_wp2_with fail
    with_reducible refine (lg_new _ _ _ (by decide) (by decide)).mono ?_
    rintro e w2 ⟨p2, rfl, L2, q2, b2⟩
    have s1 := L1.lt p1 (by simp)
    have T0 : Two W w2 p1 p2 0 0 [] 0 0 [] := ⟨[p1], [p2], L1.below b2, L2, fun x hx h => (by have := List.mem_singleton.1 hx; have := List.mem_singleton.1 h; omega), fun x hx => (by rw [List.mem_singleton.1 hx]; exact q1), fun x hx => (by rw [List.mem_singleton.1 hx]; exact Nat.le_trans b1.size q2), b1.trans (b2.mono b1.size)⟩
    clear L1 L2 b1 b2
    go_wp2
    go_loopw [9, 10] (fun tv i wr => ∃ (j : Nat) (t : Int) (P : List Con), j ≤ xs.length ∧ i = .int .i64 j ∧ tv = .int .i64 t ∧ 0 ≤ t ∧ t ≤ 1 + j ∧ P.length = j ∧ FewC P ∧ Two W wr p1 p2 0 0 P 0 0 P) (fun _ i _ => xs.length - (intOf i).toNat)
    case atStart => exact ⟨0, 1, [], Nat.zero_le _, rfl, rfl, by decide, by decide, rfl, (fun c hc => by cases hc), T0⟩
    case round =>
      obtain ⟨j, t, P, hj, rfl, rfl, t0, t1, hPl, hPf, hT⟩ := hrel
      by_cases hlt : j < xs.length
      · obtain ⟨b, o, rfl, hbB, hcell⟩ := HR0.out.at_ (by omega)
        have hcj : wr.cell? ⟨b, o + j, none⟩ = some (.int .u8 xs[j]) := (hT.bel.cell (p := ⟨b, o + j, none⟩) hbB).trans (hcell j _ (by simp [hlt]))
        obtain ⟨y0, y1⟩ := G0.out _ (List.getElem_mem hlt)
        obtain ⟨v, hvv⟩ : ∃ v, xs[j] = v := ⟨_, rfl⟩
        rw [hvv] at hcj y0 y1
        have hu := u8_small (k := j) (by omega)
        have HPL := hide hPl
        clear hvv hcell hPl
        go_wp2_with fail
        obtain ⟨F1, l1, k1⟩ := (hT.below ((Below.refl _ _).alloc (Nat.le_refl _) (.cells #[.int .u8 j] 5))).one
        have hok : EntOk (wr.alloc (.cells #[.int .u8 j] 5)) ⟨t + v % 2, 0, some ⟨wr.heap.size, 0, none⟩, 1, [(j : Int)]⟩ := entOk_one (Blk.new (cs := [.int .u8 j]) rfl) (by omega) (by omega)
        refine (lg_push ⟨t + v % 2, 0, some ⟨wr.heap.size, 0, none⟩, 1, [(j : Int)]⟩ l1 hok (by decide) (by decide) (by rw [HPL.out]; omega) (by show 1 ≤ 1048576; decide)).mono ?_
        rintro e w4 ⟨F', rfl, hL4, hC4, hG4⟩
        have T4 := k1 _ _ _ _ _ hL4 hC4 hG4
        clear k1 hL4 hC4 hG4 hok l1 hT hcj
        go_wp2_with fail
        obtain ⟨F2, l2, k2⟩ := ((T4.below ((Below.refl _ _).alloc (Nat.le_refl _) (.cells #[.int .u8 j] 5))).swap).one
        have hok2 : EntOk (w4.alloc (.cells #[.int .u8 j] 5)) ⟨t + v % 2, 0, some ⟨w4.heap.size, 0, none⟩, 1, [(j : Int)]⟩ := entOk_one (Blk.new (cs := [.int .u8 j]) rfl) (by omega) (by omega)
        refine (lg_push ⟨t + v % 2, 0, some ⟨w4.heap.size, 0, none⟩, 1, [(j : Int)]⟩ l2 hok2 (by decide) (by decide) (by rw [HPL.out]; omega) (by show 1 ≤ 1048576; decide)).mono ?_
        rintro e w5 ⟨F'', rfl, hL5, hC5, hG5⟩
        have T5 := (k2 _ _ _ _ _ hL5 hC5 hG5).swap
        clear k2 hL5 hC5 hG5 hok2 l2 T4
        go_wp2
        go_roundw
        case rel => exact ⟨j + 1, t + v % 2, _, by omega, by go_num, rfl, by omega, by omega, by rw [List.length_append, HPL.out]; rfl, (fun c hc => by rcases List.mem_append.1 hc with h | h; exact hPf c h; rw [List.mem_singleton.1 h]; show 1 ≤ 1048576; decide), T5⟩
        case measure => simp [intOf]; omega
      · have e : j = xs.length := by omega
        subst e
        clear hlt hj
        have HPL := hide hPl
        clear hPl
        obtain ⟨q, hq⟩ : ∃ q : Nat, cut % ((xs.length : Int) + 1) = q := ⟨(cut % ((xs.length : Int) + 1)).toNat, by have := Int.emod_nonneg cut (show (xs.length : Int) + 1 ≠ 0 by omega); omega⟩
        have hqP : q ≤ xs.length := by have := Int.emod_lt_of_pos cut (show (0 : Int) < (xs.length : Int) + 1 by omega); omega
        obtain ⟨F1, l1, k1⟩ := hT.one
        have hti := termC_in (P := P) (q := q) (by rw [HPL.out]; exact hqP)
        obtain ⟨tt, htt⟩ : ∃ tt, (termC 0 0 P q).1 = tt := ⟨_, rfl⟩
        rw [htt] at hti
        have HTI := hide hti
        clear hti htt
        go_wp2_with fail
        refine (lg_cut (i := (q : Int)) q l1 (by decide) (by decide) (by rw [HPL.out]; exact hqP) (by rw [HPL.out]; omega) HTI.out (by omega)).mono ?_
        rintro e w6 ⟨F', rfl, hL6, hC6, hG6⟩
        have T6 := k1 _ _ _ _ _ hL6 hC6 hG6
        clear k1 hL6 hC6 hG6 l1 hT
        obtain ⟨d, hd⟩ : ∃ d, xs.length = q + d := ⟨xs.length - q, by omega⟩
        have HD := hide hd
        clear hd
        obtain ⟨eC, heC⟩ : ∃ c : Con, Ent.con ⟨t + more, 1, none, 0, []⟩ = c := ⟨_, rfl⟩
        have heT : eC.1 = t + more := by rw [← heC]; rfl
        have heF : eC.2.2.length ≤ 1048576 := by rw [← heC]; show 0 ≤ 1048576; decide
        have HET := hide heT
        clear heT
        have dl : (P.drop q).length = d := by have := HPL.out; have := HD.out; rw [List.length_drop]; omega
        have HDL := hide dl
        clear dl
        obtain ⟨F1, l1, k1⟩ := T6.one
        go_wp2_with fail
        refine (lg_push ⟨t + more, 1, none, 0, []⟩ l1 (entOk_nil _ _ _) (by omega) (by omega) (by rw [HDL.out]; have := HD.out; omega) (by show 0 ≤ 1048576; decide)).mono ?_
        rintro e w7 ⟨F', rfl, hL6, hC6, hG6⟩
        have T7 := k1 _ _ _ _ _ hL6 hC6 hG6
        rw [heC] at T7
        clear k1 hL6 hC6 hG6 l1 T6
        obtain ⟨F2, l2, k2⟩ := T7.swap.one
        go_wp2_with fail
        refine (lg_push ⟨t + more, 1, none, 0, []⟩ l2 (entOk_nil _ _ _) (by omega) (by omega) (by rw [HPL.out]; omega) (by show 0 ≤ 1048576; decide)).mono ?_
        rintro e w8 ⟨F', rfl, hL6, hC6, hG6⟩
        have T8 := (k2 _ _ _ _ _ hL6 hC6 hG6).swap
        rw [heC] at T8
        clear k2 hL6 hC6 hG6 l2 T7 heC
        have ln1 : (P.drop q ++ [eC]).length = d + 1 := by rw [List.length_append, HDL.out]; rfl
        have ln2 : (P ++ [eC]).length = xs.length + 1 := by rw [List.length_append, HPL.out]; rfl
        have g1 : ((P.drop q ++ [eC]).getLast?.map (·.1)).getD tt = t + more := by rw [List.getLast?_append]; simp [HET.out]
        have g2 : ((P ++ [eC]).getLast?.map (·.1)).getD 0 = t + more := by rw [List.getLast?_append]; simp [HET.out]
        have n1' : (0 + (q : Int)) + ((P.drop q ++ [eC]).length : Nat) = (xs.length : Int) + 1 := by rw [ln1]; have := HD.out; omega
        have n2' : (0 : Int) + ((P ++ [eC]).length : Nat) = (xs.length : Int) + 1 := by rw [ln2]; omega
        have N1 := hide n1'
        have N2 := hide n2'
        have K1 := hide g1
        have K2 := hide g2
        have LN1 := hide ln1
        have LN2 := hide ln2
        clear n1' n2' g1 g2 ln1 ln2
        have fe : FewC [eC] := fun c hc => by rw [List.mem_singleton.1 hc]; exact heF
        have fc1 : FewC (P.drop q ++ [eC]) := fun c hc => by rcases List.mem_append.1 hc with h | h; exact hPf.drop q c h; exact fe c h
        have fc2 : FewC (P ++ [eC]) := fun c hc => by rcases List.mem_append.1 hc with h | h; exact hPf c h; exact fe c h
        obtain ⟨F1, l1, -⟩ := T8.one
        go_wp2_with fail
        refine (lg_last l1 (by omega) (by omega) (by rw [LN1.out]; have := HD.out; omega)).mono ?_
        rintro e w9 ⟨rfl, n9, hw9⟩
        have T9 : Two W w9 p1 p2 (0 + (q : Int)) tt (P.drop q ++ [eC]) 0 0 (P ++ [eC]) := T8.below (by rw [hw9]; exact below_drewN (Below.refl _ _) _)
        rw [N1.out, K1.out]
        clear hw9 l1 T8
        obtain ⟨F2, l2, -⟩ := T9.swap.one
        go_wp2_with fail
        refine (lg_last l2 (by omega) (by omega) (by rw [LN2.out]; omega)).mono ?_
        rintro e w10 ⟨rfl, n10, hw10⟩
        have T10 : Two W w10 p1 p2 (0 + (q : Int)) tt (P.drop q ++ [eC]) 0 0 (P ++ [eC]) := T9.below (by rw [hw10]; exact below_drewN (Below.refl _ _) _)
        rw [N2.out, K2.out]
        clear hw10 l2 T9
        obtain ⟨F1, l1, -⟩ := T10.one
        go_wp2_with fail
        refine (lg_cut_no (i := (q : Int) - 1) l1 (by omega) (by omega) (by omega) (by omega)).mono ?_
        rintro e w11 ⟨rfl, n11, hw11⟩
        have T11 : Two W w11 p1 p2 (0 + (q : Int)) tt (P.drop q ++ [eC]) 0 0 (P ++ [eC]) := T10.below (by rw [hw11]; exact below_drewN (Below.refl _ _) _)
        clear hw11 l1 T10
        obtain ⟨F1, l1, -⟩ := T11.one
        go_wp2_with fail
        refine (lg_from (i := (q : Int) + 1) 0 99 l1 fc1 (by omega) (by omega) (by rw [LN1.out]; have := HD.out; omega) (by decide) (by omega)).mono ?_
        rintro e w12 hout
        obtain ⟨A3, n3, c3, rfl, hn3, hE3, hgA3, hb3⟩ := hout.ents
        have hn3' : n3 = d + 1 := by rw [hn3, List.length_take, List.drop_zero, LN1.out]; have := HD.out; omega
        subst hn3'
        have T12 : Two W w12 p1 p2 (0 + (q : Int)) tt (P.drop q ++ [eC]) 0 0 (P ++ [eC]) := T11.below hb3
        have dn : (((d : Int) + 1) != (xs.length : Int) + 1 - q) = false := by simp; have := HD.out; omega
        clear hout hn3 hE3 hgA3 hb3 l1 T11
        obtain ⟨F1, l1, -⟩ := T12.one
        go_wp2_with fail
        refine (lg_from (i := (q : Int) + 1) 0 99 l1 fc1 (by omega) (by omega) (by rw [LN1.out]; have := HD.out; omega) (by decide) (by omega)).mono ?_
        rintro e w13 hout
        obtain ⟨A4, n4, c4, rfl, hn4, hE4, hgA4, hb4⟩ := hout.ents
        have hn4' : n4 = d + 1 := by rw [hn4, List.length_take, List.drop_zero, LN1.out]; have := HD.out; omega
        subst hn4'
        have T13 : Two W w13 p1 p2 (0 + (q : Int)) tt (P.drop q ++ [eC]) 0 0 (P ++ [eC]) := T12.below hb4
        clear hout hn4 hgA4 hb4 l1 T12
        obtain ⟨F2, l2, -⟩ := T13.swap.one
        go_wp2_with fail
        refine (lg_from (i := (q : Int) + 1) q 99 l2 fc2 (by omega) (by omega) (by rw [LN2.out]; omega) (by omega) (by omega)).mono ?_
        rintro e w14 hout
        have eqL : (P ++ [eC]).drop q = P.drop q ++ [eC] := List.drop_append_of_le_length (by rw [HPL.out]; exact hqP)
        rw [eqL] at hout
        obtain ⟨A5, n5, c5, rfl, hn5, hE5, hgA5, hb5⟩ := hout.ents
        have hn5' : n5 = d + 1 := by rw [hn5, List.length_take, LN1.out]; have := HD.out; omega
        subst hn5'
        have hE6 := hE4.below hb5
        rw [List.drop_zero] at hE6
        have B14 : Below W.heap.size W w14 := T13.bel.trans (hb5.mono T13.bel.size)
        clear hout hn5 hgA5 hb5 l2 T13 hE4 eqL
        go_wp2_with fail
        refine (ents_same hE6 hE5 (fc1.take _) (by have := HD.out; omega)).mono ?_
        rintro e w15 ⟨rfl, n15, hw15⟩
        have B15 : Below W.heap.size W w15 := by rw [hw15]; exact below_drewN B14 _
        clear hw15 hE6 hE5
        go_wp2_with fail
        with_reducible refine (awake14_calls _).mono ?_
        rintro e w16 ⟨rfl, hb16⟩
        have B16 := B15.trans (hb16.mono B15.size)
        go_wp2
        go_ret
        exact ⟨rfl, B16⟩
  · by_cases n1 : xs.length < 1
    · go_enter Try.func6, Try.ntmps6
      go_wp2_with (go_at_call 18; with_reducible refine (awake14_calls _).mono ?_; rintro e w1 ⟨rfl, hb1⟩)
      go_ret
      exact ⟨rfl, hb1⟩
    · have n2 : 20 < xs.length := by omega
      have d0 : decide ((xs.length : Int) < 1) = false := decide_eq_false (by omega)
      have d1 : decide ((20 : Int) < xs.length) = true := decide_eq_true (by omega)
      clear n0
      go_enter Try.func6, Try.ntmps6
      go_wp2_with (go_at_call 18; with_reducible refine (awake14_calls _).mono ?_; rintro e w1 ⟨rfl, hb1⟩)
      go_ret
      exact ⟨rfl, hb1⟩
end Go.Proofs.Ytjdgkdaebkflpaa
