/- The law PolicyNums of layer 10: for every input it answers true. No conditions. -/
import Derived.Test.YtpjckplokolcnaaLaw10
namespace Go.Proofs.Ytpjckplokolcnaa
open Go.ChangeShapes Go.WideShapes Go.ChangeAt Go.RowKit Go.Joins

theorem open_pol {H : Type} {enc : TypeId × Value → H} {W : World} {base : Nat} {v : Value} {d : DataW H} {p : List MemPlace}
    (ok : Value.okWide Try.prog W .any base 33 v) (h : DataW.Trod enc Try.prog W 0 (fun _ => true) true 33 v d p) :
    ∃ q : Pol, v = .agg #[.int .i64 q.r, .int .i64 q.w, .int .i64 q.l, .int .i64 q.b] ∧ (Lit.int .i64 q.r).wf = true ∧ (Lit.int .i64 q.w).wf = true ∧ (Lit.int .i64 q.l).wf = true ∧ (Lit.int .i64 q.b).wf = true := by
  obtain ⟨v0, v1, v2, v3, y0, y1, y2, y3, n, rfl, _, _, h0, h1, h2, h3⟩ := open_agg4 Try.underlying33 (by kernel_rfl) Try.cellsPol ok h
  obtain ⟨a, e0, _, w0⟩ := DataW.trod_int Try.underlying3 h0
  obtain ⟨b, e1, _, w1⟩ := DataW.trod_int Try.underlying3 h1
  obtain ⟨c, e2, _, w2⟩ := DataW.trod_int Try.underlying3 h2
  obtain ⟨d, e3, _, w3⟩ := DataW.trod_int Try.underlying3 h3
  simp only [List.cons.injEq, and_true] at e0 e1 e2 e3
  subst e0 e1 e2 e3
  exact ⟨⟨a, b, c, d⟩, rfl, w0, w1, w2, w3⟩

/-- the policy of numbers, and whether there is one -/
def fromP (xs : List Int) : Pol × Bool := match xs with
  | [a, b, c, d] => if right a b c d then (⟨a, b, c, d⟩, true) else (⟨0, 0, 0, 0⟩, false)
  | _ => (⟨0, 0, 0, 0⟩, false)
theorem from_calls (xs : List Int) {n : Nat} (hn : xs.length = n) (A : Option Addr) (cp : Nat) (W : World) (hr : Reads W W.heap.size 1 A n (intCells xs)) :
    Calls Try.prog 35 #[.slice A n cp] W fun e w' => e = .returned (.tuple #[.agg #[.int .i64 (fromP xs).1.r, .int .i64 (fromP xs).1.w, .int .i64 (fromP xs).1.l, .int .i64 (fromP xs).1.b], .bool (fromP xs).2]) ∧ Below W.heap.size W w' := by
  by_cases h4 : n = 4
  · subst h4
    match xs, hn with
    | [a, b, c, d], _ =>
      cases hok : right a b c d with
      | true =>
        refine (from_four a b c d A cp W hr true hok).mono fun e w' h => ?_
        simpa [fromP, hok] using h
      | false =>
        refine (from_four a b c d A cp W hr false hok).mono fun e w' h => ?_
        simpa [fromP, hok] using h
  · have e : fromP xs = (⟨0, 0, 0, 0⟩, false) := by
      unfold fromP
      split
      · simp at hn; omega
      · rfl
    rw [e]
    exact from_len n h4 A cp W
theorem fromP_no {xs : List Int} (h : (fromP xs).2 = false) : (fromP xs).1 = ⟨0, 0, 0, 0⟩ := by
  unfold fromP at h ⊢
  split at h
  · split at h
    · cases h
    · rename_i hc; rw [if_neg hc]
  · rfl
theorem fromP_yes {xs : List Int} (h : (fromP xs).2 = true) : right (fromP xs).1.r (fromP xs).1.w (fromP xs).1.l (fromP xs).1.b = true ∧ [(fromP xs).1.r, (fromP xs).1.w, (fromP xs).1.l, (fromP xs).1.b] = xs := by
  unfold fromP at h ⊢
  split at h
  · split at h
    · rename_i hc; simp [hc]
    · cases h
  · cases h
theorem nums_any (p : Pol) (W : World) :
    Calls Try.prog 36 #[.agg #[.int .i64 p.r, .int .i64 p.w, .int .i64 p.l, .int .i64 p.b]] W fun e w' => ∃ b, e = .returned (.slice (some ⟨b, 0, none⟩) 4 4) ∧
      Reads w' w'.heap.size 1 (some ⟨b, 0, none⟩) 4 (intCells [p.r, p.w, p.l, p.b]) ∧ Below W.heap.size W w' :=
  (nums_calls p W).mono fun _ _ ⟨he, hr, hb⟩ => ⟨_, he, hr, hb⟩
theorem sameInts_n (xs ys : List Int) {n m : Nat} (hn : xs.length = n) (hm : ys.length = m) (A B : Option Addr) (c d : Nat) (W : World) (hx : Reads W W.heap.size 1 A n (intCells xs)) (hy : Reads W W.heap.size 1 B m (intCells ys)) (hlx : n ≤ 4611686018427387904) (hly : m ≤ 4611686018427387904) :
    Calls Try.prog 37 #[.slice A n c, .slice B m d] W fun e w' => e = .returned (.bool (decide (xs = ys))) ∧ ∃ n, w' = W.drewN n := by
  subst hn; subst hm; exact sameInts_calls xs ys A B c d W hx hy hlx hly
set_option maxHeartbeats 1000000 in
/-- THE WALK of PolicyNums: whatever comes in, it answers true, and nothing that was there turns. -/
theorem policyNums_walk {H : Type} {enc : TypeId × Value → H} (W : World) (base : Nat) (v0 v1 : Value) (d0 d1 : DataW H) (p0 p1 : List MemPlace)
    (ok0 : Value.okWide Try.prog W .any base 33 v0) (h0 : DataW.Trod enc Try.prog W 0 (fun _ => true) true 33 v0 d0 p0)
    (ok1 : Value.okWide Try.prog W .any base 38 v1) (h1 : DataW.Trod enc Try.prog W 0 (fun _ => true) true 38 v1 d1 p1) :
    Calls Try.prog 10 #[v0, v1] W fun e w' => e = .returned (.bool true) ∧ Below W.heap.size W w' := by
  obtain ⟨p, rfl, wr, ww, wl, wb⟩ := open_pol ok0 h0
  obtain ⟨A, c, xs, rfl, hlen, hcap, hx, hr⟩ := open_intsR Try.underlying38 Try.underlying3 (by kernel_rfl) ok1 h1
  clear ok0 h0 ok1 h1 wr ww wl wb hx hcap
  by_cases hn : xs.length ≤ 8
  · cases hp : right p.r p.w p.l p.b with
    | true =>
      have hf : fromP [p.r, p.w, p.l, p.b] = (p, true) := by simp [fromP, hp]
      go_enter Try.func10, Try.ntmps10
      go_wp2_with fail
      with_reducible refine (nums_any p _).mono ?_
      rintro e w1 ⟨b1, rfl, hr1, hb1⟩
      have I0 : Inv W [(W.heap.size, 33, #[.int .i64 p.r, .int .i64 p.w, .int .i64 p.l, .int .i64 p.b])] (W.alloc (.cells #[.int .i64 p.r, .int .i64 p.w, .int .i64 p.l, .int .i64 p.b] 33)) := (Inv.refl W).new rfl
      have I1 := I0.below hb1
      go_wp2_with fail
      with_reducible refine (from_calls [p.r, p.w, p.l, p.b] (n := 4) rfl _ _ _ hr1).mono ?_
      rw [hf]
      rintro e w2 ⟨rfl, hb2⟩
      have I2 := I1.below hb2
      clear hb1 hb2 hr1 I0 I1
      have cs : CellsAt w2 W.heap.size 0 (Pol.cells p) := fun j u hu => (I2.cell (List.Mem.head _) (0 + j)).trans (by simpa [Pol.cells] using hu)
      have z2 := I2.lt (List.Mem.head _)
      obtain ⟨c0, c1, c2, c3⟩ := Pol.at_ cs
      go_wp2_with fail
      with_reducible refine (rRight_calls _ _ _ _ _).mono ?_
      rintro e w3 ⟨rfl, hb3⟩
      have I3 := (I2.new rfl).below hb3
      clear hb3 c0 c1 c2 c3 cs I2
      have c0 : w3.cell? ⟨W.heap.size, 0, none⟩ = _ := I3.cell (List.Mem.tail _ (List.Mem.head _)) 0
      have c1 : w3.cell? ⟨W.heap.size, 1, none⟩ = _ := I3.cell (List.Mem.tail _ (List.Mem.head _)) 1
      have c2 : w3.cell? ⟨W.heap.size, 2, none⟩ = _ := I3.cell (List.Mem.tail _ (List.Mem.head _)) 2
      have c3 : w3.cell? ⟨W.heap.size, 3, none⟩ = _ := I3.cell (List.Mem.tail _ (List.Mem.head _)) 3
      have d0 : w3.cell? ⟨w2.heap.size, 0, none⟩ = _ := I3.cell (List.Mem.head _) 0
      have d1 : w3.cell? ⟨w2.heap.size, 1, none⟩ = _ := I3.cell (List.Mem.head _) 1
      have d2 : w3.cell? ⟨w2.heap.size, 2, none⟩ = _ := I3.cell (List.Mem.head _) 2
      have d3 : w3.cell? ⟨w2.heap.size, 3, none⟩ = _ := I3.cell (List.Mem.head _) 3
      go_wp2_with fail
      with_reducible refine (from_calls xs rfl _ _ _ ((hr.below I3.base).more I3.base.size)).mono ?_
      rintro e w4 ⟨rfl, hb4⟩
      have I4 := (I3.below hb4).base
      clear hb4 I3 c0 c1 c2 c3 d0 d1 d2 d3
      have zw := I4.size
      cases hok : (fromP xs).2 with
      | true =>
        obtain ⟨hx1, hx2⟩ := fromP_yes hok
        generalize (fromP xs).1 = q at *
        go_wp2_with fail
        with_reducible refine (rRight_calls _ _ _ _ _).mono ?_
        rintro e w5 ⟨rfl, hb5⟩
        have J5 := ((Inv.of_below I4).new rfl).below hb5
        have e0 : w5.cell? ⟨w4.heap.size, 0, none⟩ = _ := J5.cell (List.Mem.head _) 0
        have e1 : w5.cell? ⟨w4.heap.size, 1, none⟩ = _ := J5.cell (List.Mem.head _) 1
        have e2 : w5.cell? ⟨w4.heap.size, 2, none⟩ = _ := J5.cell (List.Mem.head _) 2
        have e3 : w5.cell? ⟨w4.heap.size, 3, none⟩ = _ := J5.cell (List.Mem.head _) 3
        go_wp2_with fail
        with_reducible refine (nums_any q _).mono ?_
        rintro e w6 ⟨b6, rfl, hr6, hb6⟩
        have J6 := J5.below hb6
        clear e0 e1 e2 e3
        have hsame : (decide ([q.r, q.w, q.l, q.b] = xs)) = true := decide_eq_true hx2
        go_wp2_with fail
        with_reducible refine (sameInts_n [q.r, q.w, q.l, q.b] xs (n := 4) rfl rfl _ _ _ _ _ hr6 ((hr.below J6.base).more J6.base.size) (by simp) (by omega)).mono ?_
        rintro e w7 ⟨rfl, n7, rfl⟩
        go_wp2_with fail
        with_reducible refine (awake10_calls _).mono ?_
        rintro e w8 ⟨rfl, hb8⟩
        have J8 := (J6.drewN n7).below hb8
        go_wp2
        go_ret
        exact ⟨rfl, J8.base⟩
      | false =>
        have hx1 := fromP_no hok
        have e0 : (fromP xs).1.r = 0 := by rw [hx1]
        have e1 : (fromP xs).1.w = 0 := by rw [hx1]
        have e2 : (fromP xs).1.l = 0 := by rw [hx1]
        have e3 : (fromP xs).1.b = 0 := by rw [hx1]
        clear hx1
        go_wp2_with fail
        with_reducible refine (awake10_calls _).mono ?_
        rintro e w8 ⟨rfl, hb8⟩
        have J8 := ((Inv.of_below I4).new rfl).below hb8
        go_wp2
        go_ret
        exact ⟨rfl, J8.base⟩
    | false =>
      have hf : fromP [p.r, p.w, p.l, p.b] = (⟨0, 0, 0, 0⟩, false) := by simp [fromP, hp]
      go_enter Try.func10, Try.ntmps10
      go_wp2_with fail
      with_reducible refine (nums_any p _).mono ?_
      rintro e w1 ⟨b1, rfl, hr1, hb1⟩
      have I0 : Inv W [(W.heap.size, 33, #[.int .i64 p.r, .int .i64 p.w, .int .i64 p.l, .int .i64 p.b])] (W.alloc (.cells #[.int .i64 p.r, .int .i64 p.w, .int .i64 p.l, .int .i64 p.b] 33)) := (Inv.refl W).new rfl
      have I1 := I0.below hb1
      go_wp2_with fail
      with_reducible refine (from_calls [p.r, p.w, p.l, p.b] (n := 4) rfl _ _ _ hr1).mono ?_
      rw [hf]
      rintro e w2 ⟨rfl, hb2⟩
      have I2 := I1.below hb2
      clear hb1 hb2 hr1 I0 I1
      have cs : CellsAt w2 W.heap.size 0 (Pol.cells p) := fun j u hu => (I2.cell (List.Mem.head _) (0 + j)).trans (by simpa [Pol.cells] using hu)
      have z2 := I2.lt (List.Mem.head _)
      obtain ⟨c0, c1, c2, c3⟩ := Pol.at_ cs
      go_wp2_with fail
      with_reducible refine (rRight_calls _ _ _ _ _).mono ?_
      rintro e w3 ⟨rfl, hb3⟩
      have I3 := (I2.new rfl).below hb3
      clear hb3 c0 c1 c2 c3 cs I2
      have c0 : w3.cell? ⟨W.heap.size, 0, none⟩ = _ := I3.cell (List.Mem.tail _ (List.Mem.head _)) 0
      have c1 : w3.cell? ⟨W.heap.size, 1, none⟩ = _ := I3.cell (List.Mem.tail _ (List.Mem.head _)) 1
      have c2 : w3.cell? ⟨W.heap.size, 2, none⟩ = _ := I3.cell (List.Mem.tail _ (List.Mem.head _)) 2
      have c3 : w3.cell? ⟨W.heap.size, 3, none⟩ = _ := I3.cell (List.Mem.tail _ (List.Mem.head _)) 3
      have d0 : w3.cell? ⟨w2.heap.size, 0, none⟩ = _ := I3.cell (List.Mem.head _) 0
      have d1 : w3.cell? ⟨w2.heap.size, 1, none⟩ = _ := I3.cell (List.Mem.head _) 1
      have d2 : w3.cell? ⟨w2.heap.size, 2, none⟩ = _ := I3.cell (List.Mem.head _) 2
      have d3 : w3.cell? ⟨w2.heap.size, 3, none⟩ = _ := I3.cell (List.Mem.head _) 3
      go_wp2_with fail
      with_reducible refine (from_calls xs rfl _ _ _ ((hr.below I3.base).more I3.base.size)).mono ?_
      rintro e w4 ⟨rfl, hb4⟩
      have I4 := (I3.below hb4).base
      clear hb4 I3 c0 c1 c2 c3 d0 d1 d2 d3
      have zw := I4.size
      cases hok : (fromP xs).2 with
      | true =>
        obtain ⟨hx1, hx2⟩ := fromP_yes hok
        generalize (fromP xs).1 = q at *
        go_wp2_with fail
        with_reducible refine (rRight_calls _ _ _ _ _).mono ?_
        rintro e w5 ⟨rfl, hb5⟩
        have J5 := ((Inv.of_below I4).new rfl).below hb5
        have e0 : w5.cell? ⟨w4.heap.size, 0, none⟩ = _ := J5.cell (List.Mem.head _) 0
        have e1 : w5.cell? ⟨w4.heap.size, 1, none⟩ = _ := J5.cell (List.Mem.head _) 1
        have e2 : w5.cell? ⟨w4.heap.size, 2, none⟩ = _ := J5.cell (List.Mem.head _) 2
        have e3 : w5.cell? ⟨w4.heap.size, 3, none⟩ = _ := J5.cell (List.Mem.head _) 3
        go_wp2_with fail
        with_reducible refine (nums_any q _).mono ?_
        rintro e w6 ⟨b6, rfl, hr6, hb6⟩
        have J6 := J5.below hb6
        clear e0 e1 e2 e3
        have hsame : (decide ([q.r, q.w, q.l, q.b] = xs)) = true := decide_eq_true hx2
        go_wp2_with fail
        with_reducible refine (sameInts_n [q.r, q.w, q.l, q.b] xs (n := 4) rfl rfl _ _ _ _ _ hr6 ((hr.below J6.base).more J6.base.size) (by simp) (by omega)).mono ?_
        rintro e w7 ⟨rfl, n7, rfl⟩
        go_wp2_with fail
        with_reducible refine (awake10_calls _).mono ?_
        rintro e w8 ⟨rfl, hb8⟩
        have J8 := (J6.drewN n7).below hb8
        go_wp2
        go_ret
        exact ⟨rfl, J8.base⟩
      | false =>
        have hx1 := fromP_no hok
        have e0 : (fromP xs).1.r = 0 := by rw [hx1]
        have e1 : (fromP xs).1.w = 0 := by rw [hx1]
        have e2 : (fromP xs).1.l = 0 := by rw [hx1]
        have e3 : (fromP xs).1.b = 0 := by rw [hx1]
        clear hx1
        go_wp2_with fail
        with_reducible refine (awake10_calls _).mono ?_
        rintro e w8 ⟨rfl, hb8⟩
        have J8 := ((Inv.of_below I4).new rfl).below hb8
        go_wp2
        go_ret
        exact ⟨rfl, J8.base⟩
  · go_enter Try.func10, Try.ntmps10
    go_wp2_with fail
    refine (awake10_calls _).mono ?_
    rintro e w5 ⟨rfl, hb5⟩
    go_wp2
    go_ret
    exact ⟨rfl, ((Below.refl _ _).alloc (Nat.le_refl _) _).trans (hb5.mono (by simp))⟩
end Go.Proofs.Ytpjckplokolcnaa
