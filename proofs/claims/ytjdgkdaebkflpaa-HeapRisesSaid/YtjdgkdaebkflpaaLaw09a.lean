/- The law HeapRises: keys taken least by least rise. -/
import Derived.Test.YtjdgkdaebkflpaaHeap8
import Derived.Test.YtjdgkdaebkflpaaLaw19c
namespace Go.Proofs.Ytjdgkdaebkflpaa
open Go.ChangeShapes Go.WideShapes Go.ChangeAt Go.RowKit Go.Proofs Go.Joins Go.Maps
set_option linter.unusedVariables false

theorem ldOf_nodup (l : List Int) : ((ldOf l).map Ld.id).Nodup := by
  have e : (ldOf l).map Ld.id = (List.range l.length).map fun (i : Nat) => (i : Int) := by
    unfold ldOf
    rw [List.map_map]
    rfl
  rw [e]
  exact List.Pairwise.map _ (fun a b h h2 => h (by omega)) List.nodup_range
/-- what is left of the sorted list: its first is the heap's least -/
theorem least_next {X M : List Ld} {j : Nat} (hp : M.Perm ((sortLd X).drop j)) (hj : j < X.length) (ho : HeapOk M) : gt M 0 = (sortLd X)[j]'(by rw [sortLd_length]; exact hj) := by
  have hjs : j < (sortLd X).length := by rw [sortLd_length]; exact hj
  have hd : (sortLd X).drop j = (sortLd X)[j] :: (sortLd X).drop (j + 1) := List.drop_eq_getElem_cons hjs
  have hs := sortLd_sorted X
  rw [← List.take_append_drop j (sortLd X)] at hs
  have hs2 := (List.pairwise_append.1 hs).2.1
  rw [hd, List.pairwise_cons] at hs2
  refine gt0_of ho (hp.symm.subset (by rw [hd]; exact List.mem_cons_self ..)) (fun y hy => ?_)
  have := hp.subset hy
  rw [hd] at this
  rcases List.mem_cons.1 this with e | h5
  · rw [e, ldLt_no]; omega
  · have := hs2.1 y h5
    simpa using this
theorem out_next {X M : List Ld} {j : Nat} (hp : M.Perm ((sortLd X).drop j)) (hj : j < X.length) (ho : HeapOk M) (hn : (X.map Ld.id).Nodup) : (outL M (gt M 0).id).Perm ((sortLd X).drop (j + 1)) := by
  have hjs : j < (sortLd X).length := by rw [sortLd_length]; exact hj
  have hd : (sortLd X).drop j = (sortLd X)[j] :: (sortLd X).drop (j + 1) := List.drop_eq_getElem_cons hjs
  have hl : 0 < M.length := by rw [hp.length_eq, List.length_drop]; omega
  have hnm : (M.map Ld.id).Nodup := by
    refine (hp.map Ld.id).nodup_iff.2 ?_
    exact List.Nodup.sublist ((List.drop_sublist _ _).map Ld.id) (((sortLd_perm X).map Ld.id).nodup_iff.2 hn)
  have h1 := perm_out hl hnm
  have h2 := h1.symm.trans hp
  rw [hd, ← least_next hp hj ho] at h2
  exact h2.cons_inv
/-- the next one is above the last one -/
theorem rises {X : List Ld} {j : Nat} (hj : j + 1 < X.length) (hn : (X.map Ld.id).Nodup) : ldLt ((sortLd X)[j]'(by rw [sortLd_length]; omega)) ((sortLd X)[j + 1]'(by rw [sortLd_length]; exact hj)) = true := by
  have hl := sortLd_length X
  have hs := List.pairwise_iff_getElem.1 (sortLd_sorted X) j (j + 1) (by omega) (by omega) (by omega)
  have hnd := ((sortLd_perm X).map Ld.id).nodup_iff.2 hn
  have hne : ((sortLd X)[j]'(by omega)).id ≠ ((sortLd X)[j + 1]'(by omega)).id := fun e => by
    have := List.getElem_inj (xs := (sortLd X).map Ld.id) (i := j) (j := j + 1) (h₀ := by simp; omega) (h₁ := by simp; omega) hnd
    have := this.1 (by simpa using e)
    omega
  simp only [Bool.not_eq_true'] at hs
  rw [ldLt_no] at hs
  rw [ldLt_iff]
  omega
set_option maxHeartbeats 4000000 in
set_option maxRecDepth 100000 in
/-- THE WALK of HeapRises: whatever comes in, it answers true, and nothing that was there turns. -/
theorem heapRises_walk {H : Type} {enc : TypeId × Value → H} (W : World) (base : Nat) (v0 : Value) (d0 : DataW H) (p0 : List MemPlace)
    (ok0 : Value.okWide Try.prog W .any base 51 v0) (h0 : DataW.Trod enc Try.prog W 0 (fun _ => true) true 51 v0 d0 p0) :
    Calls Try.prog 7 #[v0] W fun e w' => e = .returned (.bool true) ∧ Below W.heap.size W w' := by
  obtain ⟨A0, c0, l, rfl, l0, m0, fw, R0⟩ := open_intsR Try.underlying51 Try.underlying3 (by kernel_rfl) ok0 h0
  clear ok0 h0
  unfold maxLen at m0
  by_cases n0 : l.length ≤ 100
  · have HR0 := hide R0
    have HFW := hide fw
    clear R0 fw
    go_enter Try.func7, Try.ntmps7
    go_wp2
    have A0' : HeapAt (W.alloc (.cells [Value.slice none 0 0, .map none].toArray 55)) W.heap.size [] [W.heap.size] := Or.inl ⟨Blk.new rfl, rfl, rfl⟩
    have RR0 := (Below.refl W.heap.size W).alloc (Nat.le_refl _) (.cells [Value.slice none 0 0, .map none].toArray 55)
    have HA0 := hide A0'
    have HRR := hide RR0
    clear A0' RR0
    go_loopw [4] (fun i wr => ∃ (k : Nat) (M : List Ld) (F : List Nat), k ≤ l.length ∧ i = .int .i64 k ∧ HeapAt wr W.heap.size M F ∧ M.Perm ((ldOf l).take k) ∧ (∀ z ∈ F, W.heap.size ≤ z) ∧ Below W.heap.size W wr) (fun i _ => l.length - (intOf i).toNat)
    case atStart => exact ⟨0, [], [W.heap.size], Nat.zero_le _, rfl, HA0.out, by simp, fun z hz => by rw [List.mem_singleton.1 hz]; exact Nat.le_refl _, HRR.out⟩
    case round =>
      obtain ⟨k, M, F, hk, rfl, hA, hP, hF, hB⟩ := hrel
      by_cases hlt : k < l.length
      · obtain ⟨b', o, rfl, hbB, hcell⟩ := HR0.out.at_ (by omega)
        have hcj : wr.cell? ⟨b', o + k, none⟩ = some (.int .i64 l[k]) := (hB.cell (p := ⟨b', o + k, none⟩) hbB).trans (hcell k _ (by simp [hlt]))
        have hst := ldOf_take l k hlt
        obtain ⟨v, hv⟩ : ∃ v, l[k] = v := ⟨_, rfl⟩
        rw [hv] at hcj hst
        have i1 : (k : Int) < l.length := by omega
        clear hv hcell
        go_wp2_with fail
        have hids : ∀ y ∈ M, i64ok y.id := fun y hy => by
          obtain ⟨q, hq, rfl⟩ := mem_ldOf (List.mem_of_mem_take (hP.subset hy))
          unfold i64ok
          constructor <;> simp <;> omega
        have hno : ∀ y ∈ M, y.id ≠ (k : Int) := fun y hy => by
          have h5 := hP.subset hy
          obtain ⟨q, hq, e5⟩ := List.mem_iff_getElem.1 h5
          rw [List.getElem_take, ldOf_get (by rw [List.length_take, ldOf_length] at hq; omega)] at e5
          rw [← e5]
          rw [List.length_take, ldOf_length] at hq
          simp
          omega
        have hml : M.length ≤ 1000 := by have := hP.length_eq; rw [List.length_take, ldOf_length] at this; omega
        have HST := hide hst
        have HP0 := hide hP
        have HNO := hide hno
        clear hst hP hno
        refine (set_calls W.heap.size M F ⟨k, v⟩ wr hA hids (by unfold i64ok; constructor <;> simp <;> omega) hml).mono ?_
        rintro e w1 ⟨rfl, M1, F1, hA1, hp1, hc1, hg1⟩
        have hp2 : M1.Perm ((ldOf l).take (k + 1)) := by
          rw [← setL_fresh (x := ⟨k, v⟩) HNO.out] at hp1
          rw [HST.out]
          exact hp1.trans (HP0.out.append_right _)
        have hB1 : Below W.heap.size W w1 := Chg.onto hB hB.size hc1 hF
        have hF1 : ∀ z ∈ F1, W.heap.size ≤ z := fun z hz => by
          rcases hg1 z hz with h5 | h5
          · exact hF z h5
          · exact Nat.le_trans hB.size h5
        have X1 := hide (And.intro hA1 (And.intro hp2 (And.intro hF1 hB1)))
        clear hA1 hp1 hp2 hF1 hB1 hc1 hg1
        go_wp2
        go_roundw
        case rel => exact ⟨k + 1, M1, F1, by omega, by go_num, X1.out.1, X1.out.2.1, X1.out.2.2.1, X1.out.2.2.2⟩
        case measure => simp [intOf]; omega
      · have e : k = l.length := by omega
        have hkn0 : ¬ ((k : Int) < l.length) := by omega
        have hP2 : M.Perm ((sortLd (ldOf l)).drop 0) := by
          rw [List.drop_zero]
          rw [List.take_of_length_le (by rw [ldOf_length]; omega)] at hP
          exact hP.trans (sortLd_perm _).symm
        have X1 := hide (And.intro hA (And.intro hP2 (And.intro hF hB)))
        clear hA hP hP2 hF hB e hlt
        have hkn : ¬ ((k : Int) < l.length) := hkn0
        go_wp2
        go_loopw [2, 5, 6, 7, 8, 9, 10] (fun _ nm ky i _ _ _ wr => ∃ (j : Nat) (M : List Ld) (F : List Nat) (a b : Int), j ≤ l.length ∧ i = .int .i64 j ∧ nm = .int .i64 a ∧ ky = .int .i64 b ∧ (0 < j → (sortLd (ldOf l))[j - 1]? = some ⟨a, b⟩) ∧ HeapAt wr W.heap.size M F ∧ M.Perm ((sortLd (ldOf l)).drop j) ∧ (∀ z ∈ F, W.heap.size ≤ z) ∧ Below W.heap.size W wr) (fun _ _ _ i _ _ _ _ => l.length - (intOf i).toNat)
        case atStart => exact ⟨0, M, F, -1, 0, Nat.zero_le _, rfl, rfl, rfl, fun h => absurd h (by omega), X1.out.1, X1.out.2.1, X1.out.2.2.1, X1.out.2.2.2⟩
        case round =>
          obtain ⟨j, M, F, a, b, hj, rfl, rfl, rfl, hab, hA, hP, hF, hB⟩ := hrel
          by_cases hlt : j < l.length
          · have hjX : j < (ldOf l).length := by rw [ldOf_length]; exact hlt
            obtain ⟨_, _, _, _, hok⟩ := hA.c0
            have hne := least_next hP hjX hok
            have hon := out_next hP hjX hok (ldOf_nodup l)
            have hml : M.length = l.length - j := by rw [hP.length_eq, List.length_drop, sortLd_length, ldOf_length]
            have hm0 : 0 < M.length := by omega
            obtain ⟨x, hx⟩ : ∃ x, gt M 0 = x := ⟨_, rfl⟩
            have hxm : x ∈ ldOf l := by
              rw [← hx]
              exact (sortLd_perm _).subset (List.mem_of_mem_drop (hP.subset (gt_mem hm0)))
            obtain ⟨q, hq, hxq⟩ := mem_ldOf hxm
            have hids : ∀ y ∈ M, i64ok y.id := fun y hy => by
              obtain ⟨q, hq, rfl⟩ := mem_ldOf ((sortLd_perm _).subset (List.mem_of_mem_drop (hP.subset hy)))
              unfold i64ok
              constructor <;> simp <;> omega
            have hup : 0 < j → (b < x.n ∨ (b = x.n ∧ a < x.id)) := fun h0 => by
              have h1 := hab h0
              have h2 := rises (X := ldOf l) (j := j - 1) (by rw [ldOf_length]; omega) (ldOf_nodup l)
              rw [List.getElem?_eq_getElem (by rw [sortLd_length, ldOf_length]; omega)] at h1
              have h3 := Option.some.inj h1
              have h4 : (sortLd (ldOf l))[j - 1 + 1]'(by rw [sortLd_length, ldOf_length]; omega) = x := by
                rw [← hx, hne]
                congr 1
                omega
              rw [h3, h4, ldLt_iff] at h2
              exact h2
            obtain ⟨b', o, rfl, hbB, hcell⟩ := HR0.out.at_ (by omega)
            have hcj : ∀ w', Below W.heap.size W w' → w'.cell? ⟨b', o + q, none⟩ = some (.int .i64 x.n) := fun w' hb => by
              rw [hxq]
              exact (hb.cell (p := ⟨b', o + q, none⟩) hbB).trans (hcell q _ (by simp [hq]))
            have hxid : x.id = q := by rw [hxq]
            have HCJ := hide hcj
            have HON := hide hon
            have HIDS := hide hids
            have HNE := hide hne
            have HP := hide hP
            have HX := hide hx
            have i1 : (q : Int) < l.length := by omega
            have i2 : (j : Int) < l.length := by omega
            have hml2 : M.length ≤ 1000 := by omega
            clear hcell hcj hon hids hne hP hxm hxq hab hok
            go_wp2_with fail
            refine (hleast_some W.heap.size M F _ hA hm0).mono ?_
            rintro e w1 ⟨rfl, n1, hw1⟩
            rw [HX.out, hxid]
            have hA1 : HeapAt w1 W.heap.size M F := by
              rw [hw1]
              rcases hA with ⟨hb, hl, hf⟩ | ⟨A, cap, bm, f, h, hf, ho, hF⟩
              · exact Or.inl ⟨hb, hl, hf⟩
              · exact Or.inr ⟨A, cap, bm, f, h.below (below_drewN (Below.refl _ _) _), hf, ho, hF⟩
            have hB1 : Below W.heap.size W w1 := by rw [hw1]; exact below_drewN hB _
            have c5 := HCJ.out w1 hB1
            obtain ⟨xn, hxn⟩ : ∃ xn, x.n = xn := ⟨_, rfl⟩
            rw [hxn] at c5 hup ⊢
            rw [hxid] at hup
            have DC := drop_calls W.heap.size M F 0 w1 hA1 HIDS.out hm0 hml2
            rw [HX.out, hxid] at DC
            have HDC := hide DC
            have HB1 := hide hB1
            have HHON := HON
            have hj2 : (sortLd (ldOf l))[j]? = some ⟨q, xn⟩ := by
              rw [List.getElem?_eq_getElem (by rw [sortLd_length]; exact hjX), ← HNE.out, HX.out, ← hxid, ← hxn]
            have HJ2 := hide hj2
            have HXID := hide hxid
            have i3 : ¬ ((q : Int) < 0) := by omega
            have hmp : M.length + j = l.length := by omega
            clear hA hB hw1 hA1 hB1 DC hj2 hxid hml hml2 hm0
            by_cases hj0 : j = 0
            · have t1 : decide ((0 : Int) < j) = false := decide_eq_false (by omega)
              clear hup
              go_wp2_with fail
              refine (HDC.out).mono ?_
              rintro e w2 ⟨rfl, M2, hA2, hp2, hc2⟩
              have hp3 : M2.Perm ((sortLd (ldOf l)).drop (j + 1)) := by
                have h5 := HON.out
                rw [HX.out, HXID.out] at h5
                exact hp2.trans h5
              have hB2 : Below W.heap.size W w2 := Chg.onto HB1.out HB1.out.size hc2 hF
              have X2 := hide (And.intro hA2 (And.intro hp3 hB2))
              clear hA2 hp2 hp3 hB2 hc2
              go_wp2
              go_roundw
              case rel => exact ⟨j + 1, M2, F, q, xn, by omega, by go_num, rfl, rfl, fun _ => HJ2.out, X2.out.1, X2.out.2.1, hF, X2.out.2.2⟩
              case measure => simp [intOf]; omega
            · have t1 : decide ((0 : Int) < j) = true := decide_eq_true (by omega)
              have hup2 := hup (by omega)
              clear hup
              by_cases hbx : b < xn
              · have t2 : decide (xn < b) = false := decide_eq_false (by omega)
                have t3 : (xn == b) = false := by simp; omega
                clear hup2
                go_wp2_with fail
                refine (HDC.out).mono ?_
                rintro e w2 ⟨rfl, M2, hA2, hp2, hc2⟩
                have hp3 : M2.Perm ((sortLd (ldOf l)).drop (j + 1)) := by
                  have h5 := HON.out
                  rw [HX.out, HXID.out] at h5
                  exact hp2.trans h5
                have hB2 : Below W.heap.size W w2 := Chg.onto HB1.out HB1.out.size hc2 hF
                have X2 := hide (And.intro hA2 (And.intro hp3 hB2))
                clear hA2 hp2 hp3 hB2 hc2
                go_wp2
                go_roundw
                case rel => exact ⟨j + 1, M2, F, q, xn, by omega, by go_num, rfl, rfl, fun _ => HJ2.out, X2.out.1, X2.out.2.1, hF, X2.out.2.2⟩
                case measure => simp [intOf]; omega
              · have hbe : b = xn := by omega
                have haq : a < (q : Int) := by omega
                have t2 : decide (xn < b) = false := decide_eq_false (by omega)
                have t3 : (xn == b) = true := by simp [hbe]
                have t4 : decide ((q : Int) ≤ a) = false := decide_eq_false (by omega)
                clear hup2 hbe hbx
                go_wp2_with fail
                refine (HDC.out).mono ?_
                rintro e w2 ⟨rfl, M2, hA2, hp2, hc2⟩
                have hp3 : M2.Perm ((sortLd (ldOf l)).drop (j + 1)) := by
                  have h5 := HON.out
                  rw [HX.out, HXID.out] at h5
                  exact hp2.trans h5
                have hB2 : Below W.heap.size W w2 := Chg.onto HB1.out HB1.out.size hc2 hF
                have X2 := hide (And.intro hA2 (And.intro hp3 hB2))
                clear hA2 hp2 hp3 hB2 hc2
                go_wp2
                go_roundw
                case rel => exact ⟨j + 1, M2, F, q, xn, by omega, by go_num, rfl, rfl, fun _ => HJ2.out, X2.out.1, X2.out.2.1, hF, X2.out.2.2⟩
                case measure => simp [intOf]; omega
          · have hje : j = l.length := by omega
            have hM : M = [] := by
              have := hP.length_eq
              rw [List.length_drop, sortLd_length, ldOf_length] at this
              exact List.eq_nil_of_length_eq_zero (by omega)
            rw [hM] at hA
            have HB := hide hB
            clear hP hab hM hB hje
            go_wp2_with fail
            refine (hleast_none W.heap.size F _ hA).mono ?_
            rintro e w1 ⟨rfl, rfl⟩
            go_wp2_with fail
            refine (awake09_calls _).mono ?_
            rintro e w2 ⟨rfl, hb2⟩
            have B2 := HB.out.trans (hb2.mono HB.out.size)
            go_wp2
            go_ret
            exact ⟨rfl, B2⟩
  · have d0 : decide ((100 : Int) < l.length) = true := decide_eq_true (by omega)
    go_enter Try.func7, Try.ntmps7
    go_wp2_with (go_at_call 27; with_reducible refine (awake09_calls _).mono ?_; rintro e w1 ⟨rfl, hb1⟩)
    go_ret
    exact ⟨rfl, hb1⟩
end Go.Proofs.Ytjdgkdaebkflpaa
