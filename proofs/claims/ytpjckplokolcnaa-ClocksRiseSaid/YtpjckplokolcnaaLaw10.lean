/- The laws of layer 10 (policy): for every input each of them answers true. No conditions. -/
import Derived.Test.YtpjckplokolcnaaPol3
import Derived.Test.YtpjckplokolcnaaOpen
import Derived.Test.YtpjckplokolcnaaReg
namespace Go.Proofs.Ytpjckplokolcnaa
open Go.ChangeShapes Go.WideShapes Go.ChangeAt Go.RowKit

theorem Try.cellsPol : Try.prog.cellsOf 33 = 4 := by kernel_rfl
theorem open_pols {H : Type} {enc : TypeId × Value → H} {W : World} {base : Nat} {v : Value} {d : DataW H} {p : List MemPlace}
    (ok : Value.okWide Try.prog W .any base 30 v) (h : DataW.Trod enc Try.prog W 0 (fun _ => true) true 30 v d p) :
    ∃ (A : Option Addr) (c : Nat) (ps : List Pol), v = .slice A ps.length c ∧ ps.length ≤ c ∧ c ≤ maxLen ∧ Reads W W.heap.size 4 A ps.length (polCells ps) := by
  obtain ⟨A, n, c, g, rfl, hn, hcm, hg, hr⟩ := open_rows 4 Try.underlying30 Try.underlying33 rfl (by kernel_rfl) Try.cellsPol (by decide) (by
    intro j f hj
    match j, hj with
    | 0, hj => injection hj with hj; subst hj; exact Try.underlying3
    | 1, hj => injection hj with hj; subst hj; exact Try.underlying3
    | 2, hj => injection hj with hj; subst hj; exact Try.underlying3
    | 3, hj => injection hj with hj; subst hj; exact Try.underlying3) ok h
  have e1 : Try.prog.underlying 33 = Try.prog.underlying 33 := rfl
  clear e1
  refine ⟨A, c, (List.range n).map fun i => ⟨g i 0, g i 1, g i 2, g i 3⟩, by simp, by simpa using hn, hcm, ?_⟩
  have hlen : ((List.range n).map fun i => (⟨g i 0, g i 1, g i 2, g i 3⟩ : Pol)).length = n := by simp
  rw [hlen]
  refine ⟨by rw [polCells_length, hlen], fun hn0 => ?_⟩
  obtain ⟨b, o, rfl, hb, hc⟩ := hr hn0
  refine ⟨b, o, rfl, hb, fun q u hu => ?_⟩
  have hq : q < n * 4 := by
    have h1 := (List.getElem?_eq_some_iff.1 hu).1
    rw [polCells_length, hlen] at h1
    exact h1
  have e : q = q / 4 * 4 + q % 4 := by omega
  have hi : q / 4 < n := by omega
  have hj : q % 4 < 4 := by omega
  rw [e, polCells_get _ _ _ (by rw [hlen]; exact hi) hj] at hu
  have hc' := hc (q / 4) (q % 4) hi hj
  rw [e]
  generalize q / 4 = i at *
  generalize q % 4 = j at *
  rw [hc']
  rw [List.getElem_map, List.getElem_range] at hu
  match j, hj with
  | 0, _ => exact hu
  | 1, _ => exact hu
  | 2, _ => exact hu
  | 3, _ => exact hu

set_option maxHeartbeats 1000000 in
/-- THE WALK of PolicyTells: whatever comes in, it answers true, and nothing that was there turns. -/
theorem policyTells_walk {H : Type} {enc : TypeId × Value → H} (W : World) (base : Nat) (v0 v1 : Value) (d0 d1 : DataW H) (p0 p1 : List MemPlace)
    (ok0 : Value.okWide Try.prog W .any base 3 v0) (h0 : DataW.Trod enc Try.prog W 0 (fun _ => true) true 3 v0 d0 p0)
    (ok1 : Value.okWide Try.prog W .any base 30 v1) (h1 : DataW.Trod enc Try.prog W 0 (fun _ => true) true 30 v1 d1 p1) :
    Calls Try.prog 7 #[v0, v1] W fun e w' => e = .returned (.bool true) ∧ Below W.heap.size W w' := by
  obtain ⟨a, rfl, rfl, rfl, wa⟩ := open_int Try.underlying3 ok0 h0
  obtain ⟨A, c, ps, rfl, hlen, hcap, hr⟩ := open_pols ok1 h1
  unfold maxLen at hcap
  clear ok0 h0 wa ok1 h1
  by_cases hn : ps.length ≤ 60
  · go_enter Try.func7, Try.ntmps7
    go_wp2
    go_loopw [5] (fun i wr => ∃ k : Nat, k ≤ ps.length ∧ i = .int .i64 k ∧ Below W.heap.size W wr) (fun i _ => ps.length - (intOf i).toNat)
    case atStart => exact ⟨0, by omega, rfl, Below.refl _ _⟩
    case round =>
      obtain ⟨k, hk, rfl, hb⟩ := hrel
      by_cases hlt : k < ps.length
      · obtain ⟨b, o, rfl, hbB, hcell⟩ := hr.rule (by omega)
        have c0 : ∀ w', Below W.heap.size W w' → w'.cell? ⟨b, o + k * 4, none⟩ = some (.int .i64 ps[k].r) := hcell _ _ (polCells_get ps k 0 hlt (by omega))
        have c1 : ∀ w', Below W.heap.size W w' → w'.cell? ⟨b, o + k * 4 + 1, none⟩ = some (.int .i64 ps[k].w) := hcell _ _ (polCells_get ps k 1 hlt (by omega))
        have c2 : ∀ w', Below W.heap.size W w' → w'.cell? ⟨b, o + k * 4 + 2, none⟩ = some (.int .i64 ps[k].l) := hcell _ _ (polCells_get ps k 2 hlt (by omega))
        have c3 : ∀ w', Below W.heap.size W w' → w'.cell? ⟨b, o + k * 4 + 3, none⟩ = some (.int .i64 ps[k].b) := hcell _ _ (polCells_get ps k 3 hlt (by omega))
        have i1 : (k : Int) < (ps.length : Int) := by omega
        clear hcell hr
        go_wp2
        go_region_held3 (fun w' => Below W.heap.size W w') (first | assumption | exact hb.drew | exact (by assumption : Below W.heap.size W _).trans (hb1.mono (by assumption : Below W.heap.size W _).size))
          (first | (go_at_call 28; with_reducible refine (right_calls _ _ _ _ _).mono ?_; rintro e w1 ⟨rfl, hb1⟩) | (go_at_call 29; with_reducible refine (rRight_calls _ _ _ _ _).mono ?_; rintro e w1 ⟨rfl, hb1⟩))
        have hb2 : Below W.heap.size W w1 := by assumption
        go_wp2
        go_roundw
        case rel => exact ⟨k + 1, by omega, by go_num, hb2⟩
        case measure => simp [intOf]; omega
      · have e : k = ps.length := by omega
        subst e
        clear hlt
        go_wp2_with fail
        refine (load_calls ps _ _ _ ((hr.below hb).more hb.size) (by omega)).mono ?_
        rintro e w1 ⟨rfl, hb1⟩
        have b1 := hb.trans (hb1.mono hb.size)
        clear hb1 hb
        go_wp2_with fail
        refine (rLoad_calls ps _ _ _ ((hr.below b1).more b1.size) (by omega)).mono ?_
        rintro e w2 ⟨rfl, hb2⟩
        have b2 := b1.trans (hb2.mono b1.size)
        clear b1 hb2
        go_wp2_with fail
        refine (admits_calls a ps _ _ _ ((hr.below b2).more b2.size)).mono ?_
        rintro e w3 ⟨rfl, hb3⟩
        have b3 := b2.trans (hb3.mono b2.size)
        clear b2 hb3
        go_wp2_with fail
        refine (rAdmits_calls a ps _ _ _ ((hr.below b3).more b3.size)).mono ?_
        rintro e w4 ⟨rfl, hb4⟩
        have b4 := b3.trans (hb4.mono b3.size)
        clear b3 hb4
        go_wp2_with fail
        refine (awake10_calls _).mono ?_
        rintro e w5 ⟨rfl, hb5⟩
        have b5 := b4.trans (hb5.mono b4.size)
        go_wp2
        go_ret
        exact ⟨rfl, b5⟩
  · go_enter Try.func7, Try.ntmps7
    go_wp2_with (go_at_call 27; with_reducible refine (awake10_calls _).mono ?_; rintro e w1 ⟨rfl, hb1⟩)
    go_ret
    exact ⟨rfl, hb1⟩

theorem admits_iff {picks : Int} {ps : List Pol} : admits picks ps = true ↔ (1 ≤ picks ∧ picks ≤ 64) ∧ ps.length ≤ 4096 ∧ ps.all Pol.ok = true ∧ load ps ≤ picks * 16777216 := by
  simp [admits, and_assoc]
theorem load_parts (ps : List Pol) (k : Nat) : (load (ps.take k) + load (ps.drop k) == load ps) = true := by
  rw [beq_iff_eq]
  unfold load
  rw [← List.sum_append, ← List.map_append, List.take_append_drop]
theorem admits_take {picks : Int} {ps : List Pol} (h : admits picks ps = true) (k : Nat) : admits picks (ps.take k) = true := by
  rw [admits_iff] at h ⊢
  obtain ⟨h1, h2, h3, h4⟩ := h
  have hp := load_parts ps k
  rw [beq_iff_eq] at hp
  have := (load_bd (ps.drop k)).1
  refine ⟨h1, by rw [List.length_take]; omega, ?_, by omega⟩
  rw [List.all_eq_true] at h3 ⊢
  exact fun x hx => h3 x (List.mem_of_mem_take hx)
theorem admits_drop {picks : Int} {ps : List Pol} (h : admits picks ps = true) (k : Nat) : admits picks (ps.drop k) = true := by
  rw [admits_iff] at h ⊢
  obtain ⟨h1, h2, h3, h4⟩ := h
  have hp := load_parts ps k
  rw [beq_iff_eq] at hp
  have := (load_bd (ps.take k)).1
  refine ⟨h1, by rw [List.length_drop]; omega, ?_, by omega⟩
  rw [List.all_eq_true] at h3 ⊢
  exact fun x hx => h3 x (List.mem_of_mem_drop hx)
theorem admits_more {picks : Int} {ps : List Pol} (h : admits picks ps = true) (hp : picks < 64) : admits (picks + 1) ps = true := by
  rw [admits_iff] at h ⊢
  obtain ⟨h1, h2, h3, h4⟩ := h
  exact ⟨by omega, h2, h3, by omega⟩
theorem admits_n (picks : Int) (ps : List Pol) {n : Nat} (hn : ps.length = n) (A : Option Addr) (c : Nat) (W w : World) (hb : Below W.heap.size W w) (hr : Reads W W.heap.size 4 A n (polCells ps)) :
    Calls Try.prog 32 #[.int .i64 picks, .slice A n c] w fun e w' => e = .returned (.bool (admits picks ps)) ∧ Below w.heap.size w w' := by
  subst hn; exact admits_calls picks ps A c w ((hr.below hb).more hb.size)
theorem load_n (ps : List Pol) {n : Nat} (hn : ps.length = n) (A : Option Addr) (c : Nat) (W w : World) (hb : Below W.heap.size W w) (hr : Reads W W.heap.size 4 A n (polCells ps)) (hl : n ≤ 4096) :
    Calls Try.prog 30 #[.slice A n c] w fun e w' => e = .returned (.int .i64 (load ps)) ∧ Below w.heap.size w w' := by
  subst hn; exact load_calls ps A c w ((hr.below hb).more hb.size) hl
theorem polCells_take (ps : List Pol) (k : Nat) : polCells (ps.take k) = (polCells ps).take (k * 4) := by
  induction ps generalizing k with
  | nil => simp [polCells]
  | cons p ps ih =>
    cases k with
    | zero => simp [polCells]
    | succ k =>
      have := ih k
      simp only [polCells, List.take_succ_cons, List.flatMap_cons] at this ⊢
      rw [this, show (k + 1) * 4 = p.cells.length + k * 4 by simp [Pol.cells]; omega, List.take_length_add_append]
theorem polCells_drop (ps : List Pol) (k : Nat) : polCells (ps.drop k) = (polCells ps).drop (k * 4) := by
  induction ps generalizing k with
  | nil => simp [polCells]
  | cons p ps ih =>
    cases k with
    | zero => simp [polCells]
    | succ k =>
      have := ih k
      simp only [polCells, List.drop_succ_cons, List.flatMap_cons] at this ⊢
      rw [this, show (k + 1) * 4 = p.cells.length + k * 4 by simp [Pol.cells]; omega, List.drop_length_add_append]
set_option maxHeartbeats 1000000 in
/-- THE WALK of PolicyParts: whatever comes in, it answers true, and nothing that was there turns. -/
theorem policyParts_walk {H : Type} {enc : TypeId × Value → H} (W : World) (base : Nat) (v0 v1 v2 : Value) (d0 d1 d2 : DataW H) (p0 p1 p2 : List MemPlace)
    (ok0 : Value.okWide Try.prog W .any base 3 v0) (h0 : DataW.Trod enc Try.prog W 0 (fun _ => true) true 3 v0 d0 p0)
    (ok1 : Value.okWide Try.prog W .any base 30 v1) (h1 : DataW.Trod enc Try.prog W 0 (fun _ => true) true 30 v1 d1 p1)
    (ok2 : Value.okWide Try.prog W .any base 3 v2) (h2 : DataW.Trod enc Try.prog W 0 (fun _ => true) true 3 v2 d2 p2) :
    Calls Try.prog 8 #[v0, v1, v2] W fun e w' => e = .returned (.bool true) ∧ Below W.heap.size W w' := by
  obtain ⟨a, rfl, rfl, rfl, wa⟩ := open_int Try.underlying3 ok0 h0
  obtain ⟨A, c, ps, rfl, hlen, hcap, hr⟩ := open_pols ok1 h1
  obtain ⟨cut, rfl, rfl, rfl, wcut⟩ := open_int Try.underlying3 ok2 h2
  unfold maxLen at hcap
  clear ok0 h0 ok1 h1 ok2 h2 wcut
  by_cases hn : ps.length ≤ 30
  · cases had : admits a ps with
    | false =>
      go_enter Try.func8, Try.ntmps8
      go_wp2_with fail
      refine (admits_calls a ps _ _ _ hr).mono ?_
      rintro e w1 ⟨rfl, b1⟩
      go_wp2_with fail
      refine (awake10_calls _).mono ?_
      rintro e w2 ⟨rfl, hb2⟩
      have b2 := b1.trans (hb2.mono b1.size)
      go_wp2
      go_ret
      exact ⟨rfl, b2⟩
    | true =>
      have hp := pick_bd cut (ps.length + 1) (by omega)
      obtain ⟨k, hk⟩ : ∃ k : Nat, pick cut (ps.length + 1) = k := ⟨_, (Int.toNat_of_nonneg hp.1).symm⟩
      rw [hk] at hp
      have HK := hide hk
      have k0 : (0 : Int) ≤ (k : Int) := by omega
      have k1 : (k : Int) ≤ (ps.length : Int) := by omega
      have k2 : (k : Int) ≤ (c : Int) := by omega
      have k3 : (ps.length : Int) ≤ (c : Int) := by omega
      have hkn : k ≤ ps.length := by omega
      have hT : (ps.take k).length = k := by rw [List.length_take]; omega
      have hrT : Reads W W.heap.size 4 A k (polCells (ps.take k)) := by rw [polCells_take]; exact hr.take hkn
      have hrD := hr.cut hkn hlen
      rw [← polCells_drop] at hrD
      have hD : (ps.drop k).length = ps.length - k := by rw [List.length_drop]
      have adT := admits_take had k
      have adD := admits_drop had k
      have adM : a < 64 → admits (a + 1) ps = true := admits_more had
      have ld := load_parts ps k
      have l1 := load_bd (ps.take k)
      have l2 := load_bd (ps.drop k)
      rw [hT] at l1
      rw [hD] at l2
      have ws : IntKind.i64.wrap (load (ps.take k) + load (ps.drop k)) = load (ps.take k) + load (ps.drop k) := IntWalk.i64_in _ (by omega)
      clear hk hp
      have wa1 : IntKind.i64.wrap (a + 1) = a + 1 := IntWalk.i64_in _ (by have := (admits_iff.1 had).1; omega)
      have ha := (admits_iff.1 had).1
      by_cases h64 : a < 64
      · have adm := adM h64
        have d64 : decide (64 ≤ a) = false := decide_eq_false (by omega)
        clear adM
        obtain ⟨A2, hA2, hrD⟩ : ∃ A2, (if c = k then A else A.map (·.add (k * 4))) = A2 ∧ Reads W W.heap.size 4 A2 (ps.length - k) (polCells (ps.drop k)) := ⟨_, rfl, hrD⟩
        have hsl := run_cut (P := Try.prog) (t := 30) Try.underlying30 (fun _ => by kernel_rfl) hkn hA2
        clear hA2
        go_enter Try.func8, Try.ntmps8
        go_wp2_with fail
        refine (admits_calls a ps _ _ _ hr).mono ?_
        rintro e w1 ⟨rfl, b1⟩
        go_wp2_with fail
        refine (pick_calls _ _ _ (by omega)).mono ?_
        rintro e w2 ⟨rfl, rfl⟩
        rw [HK.out]
        go_wp2_with fail
        refine region_lex (fun w' => Below W.heap.size W w') 0 [(false, 0), (false, 1), (false, 2), (false, 3), (true, 4), (false, 5), (false, 6), (false, 7), (false, 8), (false, 9), (true, 10), (false, 11), (false, 12), (false, 13), (false, 14), (false, 15), (false, 16), (false, 17), (false, 18), (true, 19), (false, 20), (false, 21), (false, 22), (false, 23), (false, 24), (false, 25), (false, 27), (false, 28), (false, 29), (false, 32), (true, 26), (true, 30), (false, 31), (true, 33), (false, 34), (false, 35), (false, 36), (true, 37), (false, 38), (false, 39)] #[true, true, true, true, true, true, true, true, true, true, true, true, true, true, true, true, true, true, true, true, true, true, true, true, true, true, true, true, true, true, true, true, true, true, true, true, true, true, true, true] (by kernel_rfl) (by kernel_rfl) (by decide) (by kernel_rfl) (by kernel_rfl) (fun _ _ _ _ _ h => h) (by first | assumption | exact b1.drew | exact (by assumption : Below W.heap.size W _).trans (hb1.mono (by assumption : Below W.heap.size W _).size)) (fun hS0 => ?_)
        simp only [List.map_cons, List.map_nil, List.getElem?_toArray, List.getElem?_cons_succ, List.getElem?_cons_zero]
        (apply lex_take (by rfl); (focus (intro w hw; (try dsimp only at hw); go_simp; (try with_reducible rfl); done)); simp only [Act.put, List.setIfInBounds_toArray, List.set_cons_zero, List.set_cons_succ])
        (apply lex_take (by rfl); (focus (intro w hw; (try dsimp only at hw); go_simp; (try with_reducible rfl); done)); simp only [Act.put, List.setIfInBounds_toArray, List.set_cons_zero, List.set_cons_succ])
        (apply lex_take (by rfl); (focus (intro w hw; (try dsimp only at hw); go_simp; (try with_reducible rfl); done)); simp only [Act.put, List.setIfInBounds_toArray, List.set_cons_zero, List.set_cons_succ])
        (apply lex_take (by rfl); (focus (intro w hw; (try dsimp only at hw); go_simp; (try with_reducible rfl); done)); simp only [Act.put, List.setIfInBounds_toArray, List.set_cons_zero, List.set_cons_succ])
        (refine lex_eff (by rfl) ?_; go_simp; (first
                          | (go_at_call 32; with_reducible (refine (admits_n _ (ps.take k) hT A c W _ (by assumption) hrT).mono ?_); rintro e w1 ⟨rfl, hb1⟩)
                          | (go_at_call 32; with_reducible (refine (admits_n _ (ps.drop k) hD _ (c - k) W _ (by assumption) hrD).mono ?_); rintro e w1 ⟨rfl, hb1⟩)
                          | (go_at_call 32; with_reducible (refine (admits_n _ ps rfl A c W _ (by assumption) hr).mono ?_); rintro e w1 ⟨rfl, hb1⟩)
                          | (go_at_call 30; with_reducible (refine (load_n (ps.take k) hT A c W _ (by assumption) hrT (by omega)).mono ?_); rintro e w1 ⟨rfl, hb1⟩)
                          | (go_at_call 30; with_reducible (refine (load_n (ps.drop k) hD _ (c - k) W _ (by assumption) hrD (by omega)).mono ?_); rintro e w1 ⟨rfl, hb1⟩)
                          | (go_at_call 30; with_reducible (refine (load_n ps rfl A c W _ (by assumption) hr (by omega)).mono ?_); rintro e w1 ⟨rfl, hb1⟩)
                          | (go_at_call 27; refine (awake10_calls _).mono ?_; rintro e w1 ⟨rfl, hb1⟩)); refine lex_both (by (first | assumption | exact b1.drew | exact (by assumption : Below W.heap.size W _).trans (hb1.mono (by assumption : Below W.heap.size W _).size))) (fun hS1 => ?_))
        (apply lex_take (by rfl); (focus (intro w hw; (try dsimp only at hw); go_simp; (try with_reducible rfl); done)); simp only [Act.put, List.setIfInBounds_toArray, List.set_cons_zero, List.set_cons_succ])
        first | (apply lex_take (by rfl); (focus (intro w hw; (try dsimp only at hw); go_simp; (try with_reducible rfl); done)); simp only [Act.put, List.setIfInBounds_toArray, List.set_cons_zero, List.set_cons_succ]) | (refine lex_skip (by rfl) ?_; simp only [Act.put, List.setIfInBounds_toArray, List.set_cons_zero, List.set_cons_succ])
        first | (apply lex_take (by rfl); (focus (intro w hw; (try dsimp only at hw); go_simp; (try with_reducible rfl); done)); simp only [Act.put, List.setIfInBounds_toArray, List.set_cons_zero, List.set_cons_succ]) | (refine lex_skip (by rfl) ?_; simp only [Act.put, List.setIfInBounds_toArray, List.set_cons_zero, List.set_cons_succ])
        first | (apply lex_take (by rfl); (focus (intro w hw; (try dsimp only at hw); go_simp; (try with_reducible rfl); done)); simp only [Act.put, List.setIfInBounds_toArray, List.set_cons_zero, List.set_cons_succ]) | (refine lex_skip (by rfl) ?_; simp only [Act.put, List.setIfInBounds_toArray, List.set_cons_zero, List.set_cons_succ])
        first | (apply lex_take (by rfl); (focus (intro w hw; (try dsimp only at hw); go_simp; (try with_reducible rfl); done)); simp only [Act.put, List.setIfInBounds_toArray, List.set_cons_zero, List.set_cons_succ]) | (refine lex_skip (by rfl) ?_; simp only [Act.put, List.setIfInBounds_toArray, List.set_cons_zero, List.set_cons_succ])
        first | (refine lex_eff (by rfl) ?_; go_simp; (first
                          | (go_at_call 32; with_reducible (refine (admits_n _ (ps.take k) hT A c W _ (by assumption) hrT).mono ?_); rintro e w1 ⟨rfl, hb1⟩)
                          | (go_at_call 32; with_reducible (refine (admits_n _ (ps.drop k) hD _ (c - k) W _ (by assumption) hrD).mono ?_); rintro e w1 ⟨rfl, hb1⟩)
                          | (go_at_call 32; with_reducible (refine (admits_n _ ps rfl A c W _ (by assumption) hr).mono ?_); rintro e w1 ⟨rfl, hb1⟩)
                          | (go_at_call 30; with_reducible (refine (load_n (ps.take k) hT A c W _ (by assumption) hrT (by omega)).mono ?_); rintro e w1 ⟨rfl, hb1⟩)
                          | (go_at_call 30; with_reducible (refine (load_n (ps.drop k) hD _ (c - k) W _ (by assumption) hrD (by omega)).mono ?_); rintro e w1 ⟨rfl, hb1⟩)
                          | (go_at_call 30; with_reducible (refine (load_n ps rfl A c W _ (by assumption) hr (by omega)).mono ?_); rintro e w1 ⟨rfl, hb1⟩)
                          | (go_at_call 27; refine (awake10_calls _).mono ?_; rintro e w1 ⟨rfl, hb1⟩)); refine lex_both (by (first | assumption | exact b1.drew | exact (by assumption : Below W.heap.size W _).trans (hb1.mono (by assumption : Below W.heap.size W _).size))) (fun hS1 => ?_)) | (refine lex_effskip (by rfl) (by assumption) ?_; simp only [Act.put, List.setIfInBounds_toArray, List.set_cons_zero, List.set_cons_succ])
        (apply lex_take (by rfl); (focus (intro w hw; (try dsimp only at hw); go_simp; (try with_reducible rfl); done)); simp only [Act.put, List.setIfInBounds_toArray, List.set_cons_zero, List.set_cons_succ])
        (apply lex_take (by rfl); (focus (intro w hw; (try dsimp only at hw); go_simp; (try with_reducible rfl); done)); simp only [Act.put, List.setIfInBounds_toArray, List.set_cons_zero, List.set_cons_succ])
        first | (apply lex_take (by rfl); (focus (intro w hw; (try dsimp only at hw); go_simp; (try with_reducible rfl); done)); simp only [Act.put, List.setIfInBounds_toArray, List.set_cons_zero, List.set_cons_succ]) | (refine lex_skip (by rfl) ?_; simp only [Act.put, List.setIfInBounds_toArray, List.set_cons_zero, List.set_cons_succ])
        first | (apply lex_take (by rfl); (focus (intro w hw; (try dsimp only at hw); go_simp; (try with_reducible rfl); done)); simp only [Act.put, List.setIfInBounds_toArray, List.set_cons_zero, List.set_cons_succ]) | (refine lex_skip (by rfl) ?_; simp only [Act.put, List.setIfInBounds_toArray, List.set_cons_zero, List.set_cons_succ])
        first | (apply lex_take (by rfl); (focus (intro w hw; (try dsimp only at hw); go_simp; (try with_reducible rfl); done)); simp only [Act.put, List.setIfInBounds_toArray, List.set_cons_zero, List.set_cons_succ]) | (refine lex_skip (by rfl) ?_; simp only [Act.put, List.setIfInBounds_toArray, List.set_cons_zero, List.set_cons_succ])
        first | (apply lex_take (by rfl); (focus (intro w hw; (try dsimp only at hw); go_simp; (try with_reducible rfl); done)); simp only [Act.put, List.setIfInBounds_toArray, List.set_cons_zero, List.set_cons_succ]) | (refine lex_skip (by rfl) ?_; simp only [Act.put, List.setIfInBounds_toArray, List.set_cons_zero, List.set_cons_succ])
        first | (apply lex_take (by rfl); (focus (intro w hw; (try dsimp only at hw); go_simp; (try with_reducible rfl); done)); simp only [Act.put, List.setIfInBounds_toArray, List.set_cons_zero, List.set_cons_succ]) | (refine lex_skip (by rfl) ?_; simp only [Act.put, List.setIfInBounds_toArray, List.set_cons_zero, List.set_cons_succ])
        first | (apply lex_take (by rfl); (focus (intro w hw; (try dsimp only at hw); go_simp; (try with_reducible rfl); done)); simp only [Act.put, List.setIfInBounds_toArray, List.set_cons_zero, List.set_cons_succ]) | (refine lex_skip (by rfl) ?_; simp only [Act.put, List.setIfInBounds_toArray, List.set_cons_zero, List.set_cons_succ])
        first | (refine lex_eff (by rfl) ?_; go_simp; (first
                          | (go_at_call 32; with_reducible (refine (admits_n _ (ps.take k) hT A c W _ (by assumption) hrT).mono ?_); rintro e w1 ⟨rfl, hb1⟩)
                          | (go_at_call 32; with_reducible (refine (admits_n _ (ps.drop k) hD _ (c - k) W _ (by assumption) hrD).mono ?_); rintro e w1 ⟨rfl, hb1⟩)
                          | (go_at_call 32; with_reducible (refine (admits_n _ ps rfl A c W _ (by assumption) hr).mono ?_); rintro e w1 ⟨rfl, hb1⟩)
                          | (go_at_call 30; with_reducible (refine (load_n (ps.take k) hT A c W _ (by assumption) hrT (by omega)).mono ?_); rintro e w1 ⟨rfl, hb1⟩)
                          | (go_at_call 30; with_reducible (refine (load_n (ps.drop k) hD _ (c - k) W _ (by assumption) hrD (by omega)).mono ?_); rintro e w1 ⟨rfl, hb1⟩)
                          | (go_at_call 30; with_reducible (refine (load_n ps rfl A c W _ (by assumption) hr (by omega)).mono ?_); rintro e w1 ⟨rfl, hb1⟩)
                          | (go_at_call 27; refine (awake10_calls _).mono ?_; rintro e w1 ⟨rfl, hb1⟩)); refine lex_both (by (first | assumption | exact b1.drew | exact (by assumption : Below W.heap.size W _).trans (hb1.mono (by assumption : Below W.heap.size W _).size))) (fun hS1 => ?_)) | (refine lex_effskip (by rfl) (by assumption) ?_; simp only [Act.put, List.setIfInBounds_toArray, List.set_cons_zero, List.set_cons_succ])
        first | (apply lex_take (by rfl); (focus (intro w hw; (try dsimp only at hw); go_simp; (try with_reducible rfl); done)); simp only [Act.put, List.setIfInBounds_toArray, List.set_cons_zero, List.set_cons_succ]) | (refine lex_skip (by rfl) ?_; simp only [Act.put, List.setIfInBounds_toArray, List.set_cons_zero, List.set_cons_succ])
        (apply lex_take (by rfl); (focus (intro w hw; (try dsimp only at hw); go_simp; (try with_reducible rfl); done)); simp only [Act.put, List.setIfInBounds_toArray, List.set_cons_zero, List.set_cons_succ])
        (apply lex_take (by rfl); (focus (intro w hw; (try dsimp only at hw); go_simp; (try with_reducible rfl); done)); simp only [Act.put, List.setIfInBounds_toArray, List.set_cons_zero, List.set_cons_succ])
        first | (apply lex_take (by rfl); (focus (intro w hw; (try dsimp only at hw); go_simp; (try with_reducible rfl); done)); simp only [Act.put, List.setIfInBounds_toArray, List.set_cons_zero, List.set_cons_succ]) | (refine lex_skip (by rfl) ?_; simp only [Act.put, List.setIfInBounds_toArray, List.set_cons_zero, List.set_cons_succ])
        first | (apply lex_take (by rfl); (focus (intro w hw; (try dsimp only at hw); go_simp; (try with_reducible rfl); done)); simp only [Act.put, List.setIfInBounds_toArray, List.set_cons_zero, List.set_cons_succ]) | (refine lex_skip (by rfl) ?_; simp only [Act.put, List.setIfInBounds_toArray, List.set_cons_zero, List.set_cons_succ])
        first | (apply lex_take (by rfl); (focus (intro w hw; (try dsimp only at hw); go_simp; (try with_reducible rfl); done)); simp only [Act.put, List.setIfInBounds_toArray, List.set_cons_zero, List.set_cons_succ]) | (refine lex_skip (by rfl) ?_; simp only [Act.put, List.setIfInBounds_toArray, List.set_cons_zero, List.set_cons_succ])
        first | (apply lex_take (by rfl); (focus (intro w hw; (try dsimp only at hw); go_simp; (try with_reducible rfl); done)); simp only [Act.put, List.setIfInBounds_toArray, List.set_cons_zero, List.set_cons_succ]) | (refine lex_skip (by rfl) ?_; simp only [Act.put, List.setIfInBounds_toArray, List.set_cons_zero, List.set_cons_succ])
        first | (apply lex_take (by rfl); (focus (intro w hw; (try dsimp only at hw); go_simp; (try with_reducible rfl); done)); simp only [Act.put, List.setIfInBounds_toArray, List.set_cons_zero, List.set_cons_succ]) | (refine lex_skip (by rfl) ?_; simp only [Act.put, List.setIfInBounds_toArray, List.set_cons_zero, List.set_cons_succ])
        first | (apply lex_take (by rfl); (focus (intro w hw; (try dsimp only at hw); go_simp; (try with_reducible rfl); done)); simp only [Act.put, List.setIfInBounds_toArray, List.set_cons_zero, List.set_cons_succ]) | (refine lex_skip (by rfl) ?_; simp only [Act.put, List.setIfInBounds_toArray, List.set_cons_zero, List.set_cons_succ])
        first | (apply lex_take (by rfl); (focus (intro w hw; (try dsimp only at hw); go_simp; (try with_reducible rfl); done)); simp only [Act.put, List.setIfInBounds_toArray, List.set_cons_zero, List.set_cons_succ]) | (refine lex_skip (by rfl) ?_; simp only [Act.put, List.setIfInBounds_toArray, List.set_cons_zero, List.set_cons_succ])
        first | (refine lex_eff (by rfl) ?_; go_simp; (first
                          | (go_at_call 32; with_reducible (refine (admits_n _ (ps.take k) hT A c W _ (by assumption) hrT).mono ?_); rintro e w1 ⟨rfl, hb1⟩)
                          | (go_at_call 32; with_reducible (refine (admits_n _ (ps.drop k) hD _ (c - k) W _ (by assumption) hrD).mono ?_); rintro e w1 ⟨rfl, hb1⟩)
                          | (go_at_call 32; with_reducible (refine (admits_n _ ps rfl A c W _ (by assumption) hr).mono ?_); rintro e w1 ⟨rfl, hb1⟩)
                          | (go_at_call 30; with_reducible (refine (load_n (ps.take k) hT A c W _ (by assumption) hrT (by omega)).mono ?_); rintro e w1 ⟨rfl, hb1⟩)
                          | (go_at_call 30; with_reducible (refine (load_n (ps.drop k) hD _ (c - k) W _ (by assumption) hrD (by omega)).mono ?_); rintro e w1 ⟨rfl, hb1⟩)
                          | (go_at_call 30; with_reducible (refine (load_n ps rfl A c W _ (by assumption) hr (by omega)).mono ?_); rintro e w1 ⟨rfl, hb1⟩)
                          | (go_at_call 27; refine (awake10_calls _).mono ?_; rintro e w1 ⟨rfl, hb1⟩)); refine lex_both (by (first | assumption | exact b1.drew | exact (by assumption : Below W.heap.size W _).trans (hb1.mono (by assumption : Below W.heap.size W _).size))) (fun hS1 => ?_)) | (refine lex_effskip (by rfl) (by assumption) ?_; simp only [Act.put, List.setIfInBounds_toArray, List.set_cons_zero, List.set_cons_succ])
        first | (refine lex_eff (by rfl) ?_; go_simp; (first
                          | (go_at_call 32; with_reducible (refine (admits_n _ (ps.take k) hT A c W _ (by assumption) hrT).mono ?_); rintro e w1 ⟨rfl, hb1⟩)
                          | (go_at_call 32; with_reducible (refine (admits_n _ (ps.drop k) hD _ (c - k) W _ (by assumption) hrD).mono ?_); rintro e w1 ⟨rfl, hb1⟩)
                          | (go_at_call 32; with_reducible (refine (admits_n _ ps rfl A c W _ (by assumption) hr).mono ?_); rintro e w1 ⟨rfl, hb1⟩)
                          | (go_at_call 30; with_reducible (refine (load_n (ps.take k) hT A c W _ (by assumption) hrT (by omega)).mono ?_); rintro e w1 ⟨rfl, hb1⟩)
                          | (go_at_call 30; with_reducible (refine (load_n (ps.drop k) hD _ (c - k) W _ (by assumption) hrD (by omega)).mono ?_); rintro e w1 ⟨rfl, hb1⟩)
                          | (go_at_call 30; with_reducible (refine (load_n ps rfl A c W _ (by assumption) hr (by omega)).mono ?_); rintro e w1 ⟨rfl, hb1⟩)
                          | (go_at_call 27; refine (awake10_calls _).mono ?_; rintro e w1 ⟨rfl, hb1⟩)); refine lex_both (by (first | assumption | exact b1.drew | exact (by assumption : Below W.heap.size W _).trans (hb1.mono (by assumption : Below W.heap.size W _).size))) (fun hS1 => ?_)) | (refine lex_effskip (by rfl) (by assumption) ?_; simp only [Act.put, List.setIfInBounds_toArray, List.set_cons_zero, List.set_cons_succ])
        first | (apply lex_take (by rfl); (focus (intro w hw; (try dsimp only at hw); go_simp; (try with_reducible rfl); done)); simp only [Act.put, List.setIfInBounds_toArray, List.set_cons_zero, List.set_cons_succ]) | (refine lex_skip (by rfl) ?_; simp only [Act.put, List.setIfInBounds_toArray, List.set_cons_zero, List.set_cons_succ])
        first | (refine lex_eff (by rfl) ?_; go_simp; (first
                          | (go_at_call 32; with_reducible (refine (admits_n _ (ps.take k) hT A c W _ (by assumption) hrT).mono ?_); rintro e w1 ⟨rfl, hb1⟩)
                          | (go_at_call 32; with_reducible (refine (admits_n _ (ps.drop k) hD _ (c - k) W _ (by assumption) hrD).mono ?_); rintro e w1 ⟨rfl, hb1⟩)
                          | (go_at_call 32; with_reducible (refine (admits_n _ ps rfl A c W _ (by assumption) hr).mono ?_); rintro e w1 ⟨rfl, hb1⟩)
                          | (go_at_call 30; with_reducible (refine (load_n (ps.take k) hT A c W _ (by assumption) hrT (by omega)).mono ?_); rintro e w1 ⟨rfl, hb1⟩)
                          | (go_at_call 30; with_reducible (refine (load_n (ps.drop k) hD _ (c - k) W _ (by assumption) hrD (by omega)).mono ?_); rintro e w1 ⟨rfl, hb1⟩)
                          | (go_at_call 30; with_reducible (refine (load_n ps rfl A c W _ (by assumption) hr (by omega)).mono ?_); rintro e w1 ⟨rfl, hb1⟩)
                          | (go_at_call 27; refine (awake10_calls _).mono ?_; rintro e w1 ⟨rfl, hb1⟩)); refine lex_both (by (first | assumption | exact b1.drew | exact (by assumption : Below W.heap.size W _).trans (hb1.mono (by assumption : Below W.heap.size W _).size))) (fun hS1 => ?_)) | (refine lex_effskip (by rfl) (by assumption) ?_; simp only [Act.put, List.setIfInBounds_toArray, List.set_cons_zero, List.set_cons_succ])
        first | (apply lex_take (by rfl); (focus (intro w hw; (try dsimp only at hw); go_simp; (try with_reducible rfl); done)); simp only [Act.put, List.setIfInBounds_toArray, List.set_cons_zero, List.set_cons_succ]) | (refine lex_skip (by rfl) ?_; simp only [Act.put, List.setIfInBounds_toArray, List.set_cons_zero, List.set_cons_succ])
        (apply lex_take (by rfl); (focus (intro w hw; (try dsimp only at hw); go_simp; (try with_reducible rfl); done)); simp only [Act.put, List.setIfInBounds_toArray, List.set_cons_zero, List.set_cons_succ])
        (apply lex_take (by rfl); (focus (intro w hw; (try dsimp only at hw); go_simp; (try with_reducible rfl); done)); simp only [Act.put, List.setIfInBounds_toArray, List.set_cons_zero, List.set_cons_succ])
        first | (refine lex_eff (by rfl) ?_; go_simp; (first
                          | (go_at_call 32; with_reducible (refine (admits_n _ (ps.take k) hT A c W _ (by assumption) hrT).mono ?_); rintro e w1 ⟨rfl, hb1⟩)
                          | (go_at_call 32; with_reducible (refine (admits_n _ (ps.drop k) hD _ (c - k) W _ (by assumption) hrD).mono ?_); rintro e w1 ⟨rfl, hb1⟩)
                          | (go_at_call 32; with_reducible (refine (admits_n _ ps rfl A c W _ (by assumption) hr).mono ?_); rintro e w1 ⟨rfl, hb1⟩)
                          | (go_at_call 30; with_reducible (refine (load_n (ps.take k) hT A c W _ (by assumption) hrT (by omega)).mono ?_); rintro e w1 ⟨rfl, hb1⟩)
                          | (go_at_call 30; with_reducible (refine (load_n (ps.drop k) hD _ (c - k) W _ (by assumption) hrD (by omega)).mono ?_); rintro e w1 ⟨rfl, hb1⟩)
                          | (go_at_call 30; with_reducible (refine (load_n ps rfl A c W _ (by assumption) hr (by omega)).mono ?_); rintro e w1 ⟨rfl, hb1⟩)
                          | (go_at_call 27; refine (awake10_calls _).mono ?_; rintro e w1 ⟨rfl, hb1⟩)); refine lex_both (by (first | assumption | exact b1.drew | exact (by assumption : Below W.heap.size W _).trans (hb1.mono (by assumption : Below W.heap.size W _).size))) (fun hS1 => ?_)) | (refine lex_effskip (by rfl) (by assumption) ?_; simp only [Act.put, List.setIfInBounds_toArray, List.set_cons_zero, List.set_cons_succ])
        (apply lex_take (by rfl); (focus (intro w hw; (try dsimp only at hw); go_simp; (try with_reducible rfl); done)); simp only [Act.put, List.setIfInBounds_toArray, List.set_cons_zero, List.set_cons_succ])
        (apply lex_take (by rfl); (focus (intro w hw; (try dsimp only at hw); go_simp; (try with_reducible rfl); done)); simp only [Act.put, List.setIfInBounds_toArray, List.set_cons_zero, List.set_cons_succ])
        refine lex_nil (fun _ => wpAnyH_done (by kernel_rfl) ?_ _)
        go_wp2
        go_ret
        exact ⟨rfl, hS1⟩
      · have d64 : decide (64 ≤ a) = true := decide_eq_true (by omega)
        clear adM wa1
        obtain ⟨A2, hA2, hrD⟩ : ∃ A2, (if c = k then A else A.map (·.add (k * 4))) = A2 ∧ Reads W W.heap.size 4 A2 (ps.length - k) (polCells (ps.drop k)) := ⟨_, rfl, hrD⟩
        have hsl := run_cut (P := Try.prog) (t := 30) Try.underlying30 (fun _ => by kernel_rfl) hkn hA2
        clear hA2
        go_enter Try.func8, Try.ntmps8
        go_wp2_with fail
        refine (admits_calls a ps _ _ _ hr).mono ?_
        rintro e w1 ⟨rfl, b1⟩
        go_wp2_with fail
        refine (pick_calls _ _ _ (by omega)).mono ?_
        rintro e w2 ⟨rfl, rfl⟩
        rw [HK.out]
        go_wp2_with fail
        refine region_lex (fun w' => Below W.heap.size W w') 0 [(false, 0), (false, 1), (false, 2), (false, 3), (true, 4), (false, 5), (false, 6), (false, 7), (false, 8), (false, 9), (true, 10), (false, 11), (false, 12), (false, 13), (false, 14), (false, 15), (false, 16), (false, 17), (false, 18), (true, 19), (false, 20), (false, 21), (false, 22), (false, 23), (false, 24), (false, 25), (false, 27), (false, 28), (false, 29), (false, 32), (true, 26), (true, 30), (false, 31), (true, 33), (false, 34), (false, 35), (false, 36), (true, 37), (false, 38), (false, 39)] #[true, true, true, true, true, true, true, true, true, true, true, true, true, true, true, true, true, true, true, true, true, true, true, true, true, true, true, true, true, true, true, true, true, true, true, true, true, true, true, true] (by kernel_rfl) (by kernel_rfl) (by decide) (by kernel_rfl) (by kernel_rfl) (fun _ _ _ _ _ h => h) (by first | assumption | exact b1.drew | exact (by assumption : Below W.heap.size W _).trans (hb1.mono (by assumption : Below W.heap.size W _).size)) (fun hS0 => ?_)
        simp only [List.map_cons, List.map_nil, List.getElem?_toArray, List.getElem?_cons_succ, List.getElem?_cons_zero]
        (apply lex_take (by rfl); (focus (intro w hw; (try dsimp only at hw); go_simp; (try with_reducible rfl); done)); simp only [Act.put, List.setIfInBounds_toArray, List.set_cons_zero, List.set_cons_succ])
        (apply lex_take (by rfl); (focus (intro w hw; (try dsimp only at hw); go_simp; (try with_reducible rfl); done)); simp only [Act.put, List.setIfInBounds_toArray, List.set_cons_zero, List.set_cons_succ])
        (apply lex_take (by rfl); (focus (intro w hw; (try dsimp only at hw); go_simp; (try with_reducible rfl); done)); simp only [Act.put, List.setIfInBounds_toArray, List.set_cons_zero, List.set_cons_succ])
        (apply lex_take (by rfl); (focus (intro w hw; (try dsimp only at hw); go_simp; (try with_reducible rfl); done)); simp only [Act.put, List.setIfInBounds_toArray, List.set_cons_zero, List.set_cons_succ])
        (refine lex_eff (by rfl) ?_; go_simp; (first
                          | (go_at_call 32; with_reducible (refine (admits_n _ (ps.take k) hT A c W _ (by assumption) hrT).mono ?_); rintro e w1 ⟨rfl, hb1⟩)
                          | (go_at_call 32; with_reducible (refine (admits_n _ (ps.drop k) hD _ (c - k) W _ (by assumption) hrD).mono ?_); rintro e w1 ⟨rfl, hb1⟩)
                          | (go_at_call 32; with_reducible (refine (admits_n _ ps rfl A c W _ (by assumption) hr).mono ?_); rintro e w1 ⟨rfl, hb1⟩)
                          | (go_at_call 30; with_reducible (refine (load_n (ps.take k) hT A c W _ (by assumption) hrT (by omega)).mono ?_); rintro e w1 ⟨rfl, hb1⟩)
                          | (go_at_call 30; with_reducible (refine (load_n (ps.drop k) hD _ (c - k) W _ (by assumption) hrD (by omega)).mono ?_); rintro e w1 ⟨rfl, hb1⟩)
                          | (go_at_call 30; with_reducible (refine (load_n ps rfl A c W _ (by assumption) hr (by omega)).mono ?_); rintro e w1 ⟨rfl, hb1⟩)
                          | (go_at_call 27; refine (awake10_calls _).mono ?_; rintro e w1 ⟨rfl, hb1⟩)); refine lex_both (by (first | assumption | exact b1.drew | exact (by assumption : Below W.heap.size W _).trans (hb1.mono (by assumption : Below W.heap.size W _).size))) (fun hS1 => ?_))
        (apply lex_take (by rfl); (focus (intro w hw; (try dsimp only at hw); go_simp; (try with_reducible rfl); done)); simp only [Act.put, List.setIfInBounds_toArray, List.set_cons_zero, List.set_cons_succ])
        first | (apply lex_take (by rfl); (focus (intro w hw; (try dsimp only at hw); go_simp; (try with_reducible rfl); done)); simp only [Act.put, List.setIfInBounds_toArray, List.set_cons_zero, List.set_cons_succ]) | (refine lex_skip (by rfl) ?_; simp only [Act.put, List.setIfInBounds_toArray, List.set_cons_zero, List.set_cons_succ])
        first | (apply lex_take (by rfl); (focus (intro w hw; (try dsimp only at hw); go_simp; (try with_reducible rfl); done)); simp only [Act.put, List.setIfInBounds_toArray, List.set_cons_zero, List.set_cons_succ]) | (refine lex_skip (by rfl) ?_; simp only [Act.put, List.setIfInBounds_toArray, List.set_cons_zero, List.set_cons_succ])
        first | (apply lex_take (by rfl); (focus (intro w hw; (try dsimp only at hw); go_simp; (try with_reducible rfl); done)); simp only [Act.put, List.setIfInBounds_toArray, List.set_cons_zero, List.set_cons_succ]) | (refine lex_skip (by rfl) ?_; simp only [Act.put, List.setIfInBounds_toArray, List.set_cons_zero, List.set_cons_succ])
        first | (apply lex_take (by rfl); (focus (intro w hw; (try dsimp only at hw); go_simp; (try with_reducible rfl); done)); simp only [Act.put, List.setIfInBounds_toArray, List.set_cons_zero, List.set_cons_succ]) | (refine lex_skip (by rfl) ?_; simp only [Act.put, List.setIfInBounds_toArray, List.set_cons_zero, List.set_cons_succ])
        first | (refine lex_eff (by rfl) ?_; go_simp; (first
                          | (go_at_call 32; with_reducible (refine (admits_n _ (ps.take k) hT A c W _ (by assumption) hrT).mono ?_); rintro e w1 ⟨rfl, hb1⟩)
                          | (go_at_call 32; with_reducible (refine (admits_n _ (ps.drop k) hD _ (c - k) W _ (by assumption) hrD).mono ?_); rintro e w1 ⟨rfl, hb1⟩)
                          | (go_at_call 32; with_reducible (refine (admits_n _ ps rfl A c W _ (by assumption) hr).mono ?_); rintro e w1 ⟨rfl, hb1⟩)
                          | (go_at_call 30; with_reducible (refine (load_n (ps.take k) hT A c W _ (by assumption) hrT (by omega)).mono ?_); rintro e w1 ⟨rfl, hb1⟩)
                          | (go_at_call 30; with_reducible (refine (load_n (ps.drop k) hD _ (c - k) W _ (by assumption) hrD (by omega)).mono ?_); rintro e w1 ⟨rfl, hb1⟩)
                          | (go_at_call 30; with_reducible (refine (load_n ps rfl A c W _ (by assumption) hr (by omega)).mono ?_); rintro e w1 ⟨rfl, hb1⟩)
                          | (go_at_call 27; refine (awake10_calls _).mono ?_; rintro e w1 ⟨rfl, hb1⟩)); refine lex_both (by (first | assumption | exact b1.drew | exact (by assumption : Below W.heap.size W _).trans (hb1.mono (by assumption : Below W.heap.size W _).size))) (fun hS1 => ?_)) | (refine lex_effskip (by rfl) (by assumption) ?_; simp only [Act.put, List.setIfInBounds_toArray, List.set_cons_zero, List.set_cons_succ])
        (apply lex_take (by rfl); (focus (intro w hw; (try dsimp only at hw); go_simp; (try with_reducible rfl); done)); simp only [Act.put, List.setIfInBounds_toArray, List.set_cons_zero, List.set_cons_succ])
        (apply lex_take (by rfl); (focus (intro w hw; (try dsimp only at hw); go_simp; (try with_reducible rfl); done)); simp only [Act.put, List.setIfInBounds_toArray, List.set_cons_zero, List.set_cons_succ])
        first | (apply lex_take (by rfl); (focus (intro w hw; (try dsimp only at hw); go_simp; (try with_reducible rfl); done)); simp only [Act.put, List.setIfInBounds_toArray, List.set_cons_zero, List.set_cons_succ]) | (refine lex_skip (by rfl) ?_; simp only [Act.put, List.setIfInBounds_toArray, List.set_cons_zero, List.set_cons_succ])
        first | (apply lex_take (by rfl); (focus (intro w hw; (try dsimp only at hw); go_simp; (try with_reducible rfl); done)); simp only [Act.put, List.setIfInBounds_toArray, List.set_cons_zero, List.set_cons_succ]) | (refine lex_skip (by rfl) ?_; simp only [Act.put, List.setIfInBounds_toArray, List.set_cons_zero, List.set_cons_succ])
        first | (apply lex_take (by rfl); (focus (intro w hw; (try dsimp only at hw); go_simp; (try with_reducible rfl); done)); simp only [Act.put, List.setIfInBounds_toArray, List.set_cons_zero, List.set_cons_succ]) | (refine lex_skip (by rfl) ?_; simp only [Act.put, List.setIfInBounds_toArray, List.set_cons_zero, List.set_cons_succ])
        first | (apply lex_take (by rfl); (focus (intro w hw; (try dsimp only at hw); go_simp; (try with_reducible rfl); done)); simp only [Act.put, List.setIfInBounds_toArray, List.set_cons_zero, List.set_cons_succ]) | (refine lex_skip (by rfl) ?_; simp only [Act.put, List.setIfInBounds_toArray, List.set_cons_zero, List.set_cons_succ])
        first | (apply lex_take (by rfl); (focus (intro w hw; (try dsimp only at hw); go_simp; (try with_reducible rfl); done)); simp only [Act.put, List.setIfInBounds_toArray, List.set_cons_zero, List.set_cons_succ]) | (refine lex_skip (by rfl) ?_; simp only [Act.put, List.setIfInBounds_toArray, List.set_cons_zero, List.set_cons_succ])
        first | (apply lex_take (by rfl); (focus (intro w hw; (try dsimp only at hw); go_simp; (try with_reducible rfl); done)); simp only [Act.put, List.setIfInBounds_toArray, List.set_cons_zero, List.set_cons_succ]) | (refine lex_skip (by rfl) ?_; simp only [Act.put, List.setIfInBounds_toArray, List.set_cons_zero, List.set_cons_succ])
        first | (refine lex_eff (by rfl) ?_; go_simp; (first
                          | (go_at_call 32; with_reducible (refine (admits_n _ (ps.take k) hT A c W _ (by assumption) hrT).mono ?_); rintro e w1 ⟨rfl, hb1⟩)
                          | (go_at_call 32; with_reducible (refine (admits_n _ (ps.drop k) hD _ (c - k) W _ (by assumption) hrD).mono ?_); rintro e w1 ⟨rfl, hb1⟩)
                          | (go_at_call 32; with_reducible (refine (admits_n _ ps rfl A c W _ (by assumption) hr).mono ?_); rintro e w1 ⟨rfl, hb1⟩)
                          | (go_at_call 30; with_reducible (refine (load_n (ps.take k) hT A c W _ (by assumption) hrT (by omega)).mono ?_); rintro e w1 ⟨rfl, hb1⟩)
                          | (go_at_call 30; with_reducible (refine (load_n (ps.drop k) hD _ (c - k) W _ (by assumption) hrD (by omega)).mono ?_); rintro e w1 ⟨rfl, hb1⟩)
                          | (go_at_call 30; with_reducible (refine (load_n ps rfl A c W _ (by assumption) hr (by omega)).mono ?_); rintro e w1 ⟨rfl, hb1⟩)
                          | (go_at_call 27; refine (awake10_calls _).mono ?_; rintro e w1 ⟨rfl, hb1⟩)); refine lex_both (by (first | assumption | exact b1.drew | exact (by assumption : Below W.heap.size W _).trans (hb1.mono (by assumption : Below W.heap.size W _).size))) (fun hS1 => ?_)) | (refine lex_effskip (by rfl) (by assumption) ?_; simp only [Act.put, List.setIfInBounds_toArray, List.set_cons_zero, List.set_cons_succ])
        first | (apply lex_take (by rfl); (focus (intro w hw; (try dsimp only at hw); go_simp; (try with_reducible rfl); done)); simp only [Act.put, List.setIfInBounds_toArray, List.set_cons_zero, List.set_cons_succ]) | (refine lex_skip (by rfl) ?_; simp only [Act.put, List.setIfInBounds_toArray, List.set_cons_zero, List.set_cons_succ])
        (apply lex_take (by rfl); (focus (intro w hw; (try dsimp only at hw); go_simp; (try with_reducible rfl); done)); simp only [Act.put, List.setIfInBounds_toArray, List.set_cons_zero, List.set_cons_succ])
        (apply lex_take (by rfl); (focus (intro w hw; (try dsimp only at hw); go_simp; (try with_reducible rfl); done)); simp only [Act.put, List.setIfInBounds_toArray, List.set_cons_zero, List.set_cons_succ])
        first | (apply lex_take (by rfl); (focus (intro w hw; (try dsimp only at hw); go_simp; (try with_reducible rfl); done)); simp only [Act.put, List.setIfInBounds_toArray, List.set_cons_zero, List.set_cons_succ]) | (refine lex_skip (by rfl) ?_; simp only [Act.put, List.setIfInBounds_toArray, List.set_cons_zero, List.set_cons_succ])
        first | (apply lex_take (by rfl); (focus (intro w hw; (try dsimp only at hw); go_simp; (try with_reducible rfl); done)); simp only [Act.put, List.setIfInBounds_toArray, List.set_cons_zero, List.set_cons_succ]) | (refine lex_skip (by rfl) ?_; simp only [Act.put, List.setIfInBounds_toArray, List.set_cons_zero, List.set_cons_succ])
        first | (apply lex_take (by rfl); (focus (intro w hw; (try dsimp only at hw); go_simp; (try with_reducible rfl); done)); simp only [Act.put, List.setIfInBounds_toArray, List.set_cons_zero, List.set_cons_succ]) | (refine lex_skip (by rfl) ?_; simp only [Act.put, List.setIfInBounds_toArray, List.set_cons_zero, List.set_cons_succ])
        first | (apply lex_take (by rfl); (focus (intro w hw; (try dsimp only at hw); go_simp; (try with_reducible rfl); done)); simp only [Act.put, List.setIfInBounds_toArray, List.set_cons_zero, List.set_cons_succ]) | (refine lex_skip (by rfl) ?_; simp only [Act.put, List.setIfInBounds_toArray, List.set_cons_zero, List.set_cons_succ])
        first | (apply lex_take (by rfl); (focus (intro w hw; (try dsimp only at hw); go_simp; (try with_reducible rfl); done)); simp only [Act.put, List.setIfInBounds_toArray, List.set_cons_zero, List.set_cons_succ]) | (refine lex_skip (by rfl) ?_; simp only [Act.put, List.setIfInBounds_toArray, List.set_cons_zero, List.set_cons_succ])
        first | (apply lex_take (by rfl); (focus (intro w hw; (try dsimp only at hw); go_simp; (try with_reducible rfl); done)); simp only [Act.put, List.setIfInBounds_toArray, List.set_cons_zero, List.set_cons_succ]) | (refine lex_skip (by rfl) ?_; simp only [Act.put, List.setIfInBounds_toArray, List.set_cons_zero, List.set_cons_succ])
        first | (apply lex_take (by rfl); (focus (intro w hw; (try dsimp only at hw); go_simp; (try with_reducible rfl); done)); simp only [Act.put, List.setIfInBounds_toArray, List.set_cons_zero, List.set_cons_succ]) | (refine lex_skip (by rfl) ?_; simp only [Act.put, List.setIfInBounds_toArray, List.set_cons_zero, List.set_cons_succ])
        first | (refine lex_eff (by rfl) ?_; go_simp; (first
                          | (go_at_call 32; with_reducible (refine (admits_n _ (ps.take k) hT A c W _ (by assumption) hrT).mono ?_); rintro e w1 ⟨rfl, hb1⟩)
                          | (go_at_call 32; with_reducible (refine (admits_n _ (ps.drop k) hD _ (c - k) W _ (by assumption) hrD).mono ?_); rintro e w1 ⟨rfl, hb1⟩)
                          | (go_at_call 32; with_reducible (refine (admits_n _ ps rfl A c W _ (by assumption) hr).mono ?_); rintro e w1 ⟨rfl, hb1⟩)
                          | (go_at_call 30; with_reducible (refine (load_n (ps.take k) hT A c W _ (by assumption) hrT (by omega)).mono ?_); rintro e w1 ⟨rfl, hb1⟩)
                          | (go_at_call 30; with_reducible (refine (load_n (ps.drop k) hD _ (c - k) W _ (by assumption) hrD (by omega)).mono ?_); rintro e w1 ⟨rfl, hb1⟩)
                          | (go_at_call 30; with_reducible (refine (load_n ps rfl A c W _ (by assumption) hr (by omega)).mono ?_); rintro e w1 ⟨rfl, hb1⟩)
                          | (go_at_call 27; refine (awake10_calls _).mono ?_; rintro e w1 ⟨rfl, hb1⟩)); refine lex_both (by (first | assumption | exact b1.drew | exact (by assumption : Below W.heap.size W _).trans (hb1.mono (by assumption : Below W.heap.size W _).size))) (fun hS1 => ?_)) | (refine lex_effskip (by rfl) (by assumption) ?_; simp only [Act.put, List.setIfInBounds_toArray, List.set_cons_zero, List.set_cons_succ])
        first | (refine lex_eff (by rfl) ?_; go_simp; (first
                          | (go_at_call 32; with_reducible (refine (admits_n _ (ps.take k) hT A c W _ (by assumption) hrT).mono ?_); rintro e w1 ⟨rfl, hb1⟩)
                          | (go_at_call 32; with_reducible (refine (admits_n _ (ps.drop k) hD _ (c - k) W _ (by assumption) hrD).mono ?_); rintro e w1 ⟨rfl, hb1⟩)
                          | (go_at_call 32; with_reducible (refine (admits_n _ ps rfl A c W _ (by assumption) hr).mono ?_); rintro e w1 ⟨rfl, hb1⟩)
                          | (go_at_call 30; with_reducible (refine (load_n (ps.take k) hT A c W _ (by assumption) hrT (by omega)).mono ?_); rintro e w1 ⟨rfl, hb1⟩)
                          | (go_at_call 30; with_reducible (refine (load_n (ps.drop k) hD _ (c - k) W _ (by assumption) hrD (by omega)).mono ?_); rintro e w1 ⟨rfl, hb1⟩)
                          | (go_at_call 30; with_reducible (refine (load_n ps rfl A c W _ (by assumption) hr (by omega)).mono ?_); rintro e w1 ⟨rfl, hb1⟩)
                          | (go_at_call 27; refine (awake10_calls _).mono ?_; rintro e w1 ⟨rfl, hb1⟩)); refine lex_both (by (first | assumption | exact b1.drew | exact (by assumption : Below W.heap.size W _).trans (hb1.mono (by assumption : Below W.heap.size W _).size))) (fun hS1 => ?_)) | (refine lex_effskip (by rfl) (by assumption) ?_; simp only [Act.put, List.setIfInBounds_toArray, List.set_cons_zero, List.set_cons_succ])
        first | (apply lex_take (by rfl); (focus (intro w hw; (try dsimp only at hw); go_simp; (try with_reducible rfl); done)); simp only [Act.put, List.setIfInBounds_toArray, List.set_cons_zero, List.set_cons_succ]) | (refine lex_skip (by rfl) ?_; simp only [Act.put, List.setIfInBounds_toArray, List.set_cons_zero, List.set_cons_succ])
        first | (refine lex_eff (by rfl) ?_; go_simp; (first
                          | (go_at_call 32; with_reducible (refine (admits_n _ (ps.take k) hT A c W _ (by assumption) hrT).mono ?_); rintro e w1 ⟨rfl, hb1⟩)
                          | (go_at_call 32; with_reducible (refine (admits_n _ (ps.drop k) hD _ (c - k) W _ (by assumption) hrD).mono ?_); rintro e w1 ⟨rfl, hb1⟩)
                          | (go_at_call 32; with_reducible (refine (admits_n _ ps rfl A c W _ (by assumption) hr).mono ?_); rintro e w1 ⟨rfl, hb1⟩)
                          | (go_at_call 30; with_reducible (refine (load_n (ps.take k) hT A c W _ (by assumption) hrT (by omega)).mono ?_); rintro e w1 ⟨rfl, hb1⟩)
                          | (go_at_call 30; with_reducible (refine (load_n (ps.drop k) hD _ (c - k) W _ (by assumption) hrD (by omega)).mono ?_); rintro e w1 ⟨rfl, hb1⟩)
                          | (go_at_call 30; with_reducible (refine (load_n ps rfl A c W _ (by assumption) hr (by omega)).mono ?_); rintro e w1 ⟨rfl, hb1⟩)
                          | (go_at_call 27; refine (awake10_calls _).mono ?_; rintro e w1 ⟨rfl, hb1⟩)); refine lex_both (by (first | assumption | exact b1.drew | exact (by assumption : Below W.heap.size W _).trans (hb1.mono (by assumption : Below W.heap.size W _).size))) (fun hS1 => ?_)) | (refine lex_effskip (by rfl) (by assumption) ?_; simp only [Act.put, List.setIfInBounds_toArray, List.set_cons_zero, List.set_cons_succ])
        first | (apply lex_take (by rfl); (focus (intro w hw; (try dsimp only at hw); go_simp; (try with_reducible rfl); done)); simp only [Act.put, List.setIfInBounds_toArray, List.set_cons_zero, List.set_cons_succ]) | (refine lex_skip (by rfl) ?_; simp only [Act.put, List.setIfInBounds_toArray, List.set_cons_zero, List.set_cons_succ])
        (apply lex_take (by rfl); (focus (intro w hw; (try dsimp only at hw); go_simp; (try with_reducible rfl); done)); simp only [Act.put, List.setIfInBounds_toArray, List.set_cons_zero, List.set_cons_succ])
        (apply lex_take (by rfl); (focus (intro w hw; (try dsimp only at hw); go_simp; (try with_reducible rfl); done)); simp only [Act.put, List.setIfInBounds_toArray, List.set_cons_zero, List.set_cons_succ])
        first | (refine lex_eff (by rfl) ?_; go_simp; (first
                          | (go_at_call 32; with_reducible (refine (admits_n _ (ps.take k) hT A c W _ (by assumption) hrT).mono ?_); rintro e w1 ⟨rfl, hb1⟩)
                          | (go_at_call 32; with_reducible (refine (admits_n _ (ps.drop k) hD _ (c - k) W _ (by assumption) hrD).mono ?_); rintro e w1 ⟨rfl, hb1⟩)
                          | (go_at_call 32; with_reducible (refine (admits_n _ ps rfl A c W _ (by assumption) hr).mono ?_); rintro e w1 ⟨rfl, hb1⟩)
                          | (go_at_call 30; with_reducible (refine (load_n (ps.take k) hT A c W _ (by assumption) hrT (by omega)).mono ?_); rintro e w1 ⟨rfl, hb1⟩)
                          | (go_at_call 30; with_reducible (refine (load_n (ps.drop k) hD _ (c - k) W _ (by assumption) hrD (by omega)).mono ?_); rintro e w1 ⟨rfl, hb1⟩)
                          | (go_at_call 30; with_reducible (refine (load_n ps rfl A c W _ (by assumption) hr (by omega)).mono ?_); rintro e w1 ⟨rfl, hb1⟩)
                          | (go_at_call 27; refine (awake10_calls _).mono ?_; rintro e w1 ⟨rfl, hb1⟩)); refine lex_both (by (first | assumption | exact b1.drew | exact (by assumption : Below W.heap.size W _).trans (hb1.mono (by assumption : Below W.heap.size W _).size))) (fun hS1 => ?_)) | (refine lex_effskip (by rfl) (by assumption) ?_; simp only [Act.put, List.setIfInBounds_toArray, List.set_cons_zero, List.set_cons_succ])
        (apply lex_take (by rfl); (focus (intro w hw; (try dsimp only at hw); go_simp; (try with_reducible rfl); done)); simp only [Act.put, List.setIfInBounds_toArray, List.set_cons_zero, List.set_cons_succ])
        (apply lex_take (by rfl); (focus (intro w hw; (try dsimp only at hw); go_simp; (try with_reducible rfl); done)); simp only [Act.put, List.setIfInBounds_toArray, List.set_cons_zero, List.set_cons_succ])
        refine lex_nil (fun _ => wpAnyH_done (by kernel_rfl) ?_ _)
        go_wp2
        go_ret
        exact ⟨rfl, hS1⟩
  · go_enter Try.func8, Try.ntmps8
    go_wp2_with (go_at_call 27; with_reducible refine (awake10_calls _).mono ?_; rintro e w1 ⟨rfl, hb1⟩)
    go_ret
    exact ⟨rfl, hb1⟩
end Go.Proofs.Ytpjckplokolcnaa
