/- The walks through place.order; slices.SortFunc at loads by the shelf's contract. -/
import Derived.Test.YtjdgkdaebkflpaaLoad
import Derived.Test.YtjdgkdaebkflpaaReg2
import Derived.Test.YtjdgkdaebkflpaaSort
namespace Go.Proofs.Ytjdgkdaebkflpaa
open Go.RowKit Go.Proofs Go.Lib
set_option linter.unusedVariables false

theorem cmp_calls (x y : Int) (w : World) : Calls Try.prog 78 #[.int .i64 x, .int .i64 y] w fun e w' => e = .returned (.int .i64 (Lib.compareInt x y)) ∧ w = w' :=
  (AnyG.cmp_Compare_int Go.Proofs.Ytjdgkdaebkflpaa.cmpInt x y w).mono fun _ _ ⟨h, hw⟩ => ⟨h, hw.symm⟩
def orL (x y : Int) : Int := if x = 0 then y else x
set_option maxHeartbeats 1000000 in
theorem or_calls (b : Nat) (x y : Int) (w : World) (c0 : w.cell? ⟨b, 0, none⟩ = some (.int .i64 x)) (c1 : w.cell? ⟨b, 1, none⟩ = some (.int .i64 y)) : Calls Try.prog 77 #[.slice (some ⟨b, 0, none⟩) 2 2] w fun e w' => e = .returned (.int .i64 (orL x y)) ∧ w = w' := by
  go_enter Try.func77, Try.ntmps77
  go_wp2
  go_loop [8] (fun i => ∃ k : Nat, k ≤ 2 ∧ i = .int .i64 k ∧ (0 < k → x = 0) ∧ (1 < k → y = 0)) (fun i => 2 - (intOf i).toNat)
  case atStart => exact ⟨0, by omega, rfl, by omega, by omega⟩
  case round =>
    obtain ⟨k, hk, rfl, h1, h2⟩ := hrel
    rcases (show k = 0 ∨ k = 1 ∨ k = 2 by omega) with rfl | rfl | rfl
    · by_cases hx : x = 0
      · have hx' : (x != 0) = false := by simp [hx]
        have HX := hide hx
        clear hx h1 h2
        go_wp2
        go_round
        case rel => exact ⟨1, by omega, rfl, fun _ => HX.out, fun h => absurd h (by omega)⟩
        case measure => simp [intOf]
      · have hx' : (x != 0) = true := by simp [hx]
        have HX := hide hx
        clear hx h1 h2
        go_wp2
        go_ret
        exact ⟨ret_int (by unfold orL; rw [if_neg HX.out]), rfl⟩
    · have hx := h1 (by omega)
      have HX := hide hx
      by_cases hy : y = 0
      · have hy' : (y != 0) = false := by simp [hy]
        have HY := hide hy
        clear hx hy h1 h2
        go_wp2
        go_round
        case rel => exact ⟨2, by omega, rfl, fun _ => HX.out, fun _ => HY.out⟩
        case measure => simp [intOf]
      · have hy' : (y != 0) = true := by simp [hy]
        clear hx hy h1 h2
        go_wp2
        go_ret
        exact ⟨ret_int (by unfold orL; rw [if_pos HX.out]), rfl⟩
    · have hx := hide (h1 (by omega))
      have hy := hide (h2 (by omega))
      clear h1 h2
      go_wp2
      go_ret
      exact ⟨ret_int (by unfold orL; rw [if_pos hx.out, hy.out]), rfl⟩
theorem grow3 (W : World) (a b c : Obj) : (((W.alloc a).alloc b).alloc c).drew = Sort.grow (W.drewN 1) #[a, b, c] := by
  rw [Sort.alloc_eq_grow, Sort.alloc_eq_grow, Sort.alloc_eq_grow, Sort.grow_grow, Sort.grow_grow]; rfl
def cmpLd (x y : Ld) : Int := orL (Lib.compareInt x.n y.n) (Lib.compareInt x.id y.id)
set_option maxHeartbeats 2000000 in
theorem order_calls (x y : Ld) (W : World) : Calls Try.prog 65 #[.agg #[.int .i64 x.id, .int .i64 x.n], .agg #[.int .i64 y.id, .int .i64 y.n]] W fun e w' => e = .returned (.int .i64 (cmpLd x y)) ∧ ∃ q os', w' = Sort.grow (W.drewN q) os' := by
  have B0 := (Blk.new (w := W) (cs := x.cells) (t := 31) rfl).alloc (.cells y.cells.toArray 31)
  have B1 := Blk.new (w := W.alloc (.cells x.cells.toArray 31)) (b := W.heap.size + 1) (cs := y.cells) (t := 31) (by simp)
  obtain ⟨w0, hw0⟩ : ∃ w0, (W.alloc (.cells x.cells.toArray 31)).alloc (.cells y.cells.toArray 31) = w0 := ⟨_, rfl⟩
  rw [hw0] at B0 B1
  go_enter Try.func65, Try.ntmps65
  go_wp2
  rw [show (W.alloc (.cells #[.int .i64 x.id, .int .i64 x.n] 31)).alloc (.cells #[.int .i64 y.id, .int .i64 y.n] 31) = w0 from hw0]
  have HW := hide hw0
  clear hw0
  have c0 := B0.rule 0 _ rfl
  have c1 := B0.rule 1 _ rfl
  have d0 := B1.rule 0 _ rfl
  have d1 := B1.rule 1 _ rfl
  have r0 := Below.refl w0.heap.size w0
  have N0 : ∀ v1 v2, (w0.alloc (.cells #[v1, v2] 3)).drew.cell? ⟨w0.heap.size, 0, none⟩ = some v1 := fun v1 v2 => (Blk.new (cs := [v1, v2]) rfl).cell 0
  have N1 : ∀ v1 v2, (w0.alloc (.cells #[v1, v2] 3)).drew.cell? ⟨w0.heap.size, 1, none⟩ = some v2 := fun v1 v2 => (Blk.new (cs := [v1, v2]) rfl).cell 1
  refine region_lexg (fun w' => Below w0.heap.size w0 w') [] 0 [(2, 0), (0, 1), (2, 2), (0, 3), (2, 5), (0, 6), (2, 7), (0, 8), (1, 4), (1, 9), (1, 10), (1, 11), (2, 12)] #[true, true, true, true, true, true, true, true, true, true, true, true, true] (by kernel_rfl) (by kernel_rfl) (by decide) (by kernel_rfl) (by kernel_rfl) (fun _ _ _ _ _ h => h) (by (first | exact r0.drew | assumption | exact (r0.alloc (Nat.le_refl _) _).drew)) (fun hS0 => ?_)
  simp only [List.map_cons, List.map_nil, List.getElem?_toArray, List.getElem?_cons_succ, List.getElem?_cons_zero]
  (apply lexg_pure (by rfl); (focus (intro w; go_simp; (try with_reducible rfl); done)); simp only [Act.put, List.setIfInBounds_toArray, List.set_cons_zero, List.set_cons_succ])
  (apply lexg_take (by rfl); (focus (intro w hw; (try dsimp only at hw); go_simp; (try with_reducible rfl); done)); simp only [Act.put, List.setIfInBounds_toArray, List.set_cons_zero, List.set_cons_succ])
  (apply lexg_pure (by rfl); (focus (intro w; go_simp; (try with_reducible rfl); done)); simp only [Act.put, List.setIfInBounds_toArray, List.set_cons_zero, List.set_cons_succ])
  (apply lexg_take (by rfl); (focus (intro w hw; (try dsimp only at hw); go_simp; (try with_reducible rfl); done)); simp only [Act.put, List.setIfInBounds_toArray, List.set_cons_zero, List.set_cons_succ])
  (apply lexg_pure (by rfl); (focus (intro w; go_simp; (try with_reducible rfl); done)); simp only [Act.put, List.setIfInBounds_toArray, List.set_cons_zero, List.set_cons_succ])
  (apply lexg_take (by rfl); (focus (intro w hw; (try dsimp only at hw); go_simp; (try with_reducible rfl); done)); simp only [Act.put, List.setIfInBounds_toArray, List.set_cons_zero, List.set_cons_succ])
  (apply lexg_pure (by rfl); (focus (intro w; go_simp; (try with_reducible rfl); done)); simp only [Act.put, List.setIfInBounds_toArray, List.set_cons_zero, List.set_cons_succ])
  (apply lexg_take (by rfl); (focus (intro w hw; (try dsimp only at hw); go_simp; (try with_reducible rfl); done)); simp only [Act.put, List.setIfInBounds_toArray, List.set_cons_zero, List.set_cons_succ])
  (refine lexg_eff (by rfl) ?_; go_simp; (first | (go_at_call 78; (with_reducible refine (cmp_calls _ _ _).mono ?_); rintro e w' ⟨rfl, rfl⟩) | (go_at_call 77; (with_reducible refine (or_calls _ (Lib.compareInt x.n y.n) (Lib.compareInt x.id y.id) _ (by exact N0 _ _) (by exact N1 _ _)).mono ?_); rintro e w' ⟨rfl, rfl⟩)); refine lexg_both (by (first | exact r0.drew | assumption | exact (r0.alloc (Nat.le_refl _) _).drew)) (fun hS1 => ?_))
  (refine lexg_eff (by rfl) ?_; go_simp; (first | (go_at_call 78; (with_reducible refine (cmp_calls _ _ _).mono ?_); rintro e w' ⟨rfl, rfl⟩) | (go_at_call 77; (with_reducible refine (or_calls _ (Lib.compareInt x.n y.n) (Lib.compareInt x.id y.id) _ (by exact N0 _ _) (by exact N1 _ _)).mono ?_); rintro e w' ⟨rfl, rfl⟩)); refine lexg_both (by (first | exact r0.drew | assumption | exact (r0.alloc (Nat.le_refl _) _).drew)) (fun hS1 => ?_))
  (refine lexg_eff (by rfl) ?_; go_simp; refine lexg_both (by (first | exact r0.drew | assumption | exact (r0.alloc (Nat.le_refl _) _).drew)) (fun hS1 => ?_))
  (refine lexg_eff (by rfl) ?_; go_simp; (first | (go_at_call 78; (with_reducible refine (cmp_calls _ _ _).mono ?_); rintro e w' ⟨rfl, rfl⟩) | (go_at_call 77; (with_reducible refine (or_calls _ (Lib.compareInt x.n y.n) (Lib.compareInt x.id y.id) _ (by exact N0 _ _) (by exact N1 _ _)).mono ?_); rintro e w' ⟨rfl, rfl⟩)); refine lexg_both (by (first | exact r0.drew | assumption | exact (r0.alloc (Nat.le_refl _) _).drew)) (fun hS1 => ?_))
  (apply lexg_pure (by rfl); (focus (intro w; go_simp; (try with_reducible rfl); done)); simp only [Act.put, List.setIfInBounds_toArray, List.set_cons_zero, List.set_cons_succ])
  refine lexg_nil (fun _ => wpAnyG_done (by kernel_rfl) ?_ _)
  go_wp2
  go_ret
  exact ⟨rfl, 1, #[.cells x.cells.toArray 31, .cells y.cells.toArray 31, .cells #[.int .i64 (Lib.compareInt x.n y.n), .int .i64 (Lib.compareInt x.id y.id)] 3], by rw [← HW.out]; exact grow3 _ _ _ _⟩
theorem cmp_facts (x y : Int) : (Lib.compareInt x y < 0 ↔ x < y) ∧ (Lib.compareInt x y = 0 ↔ x = y) ∧ (0 < Lib.compareInt x y ↔ y < x) := by
  unfold Lib.compareInt
  by_cases h1 : x < y
  · simp [h1]; omega
  · by_cases h2 : y < x
    · simp [h1, h2]; omega
    · simp [h1, h2]; omega
/-- the order of loads: by how many, then by name -/
def ldLt (x y : Ld) : Bool := decide (x.n < y.n ∨ (x.n = y.n ∧ x.id < y.id))
theorem ldLt_eq : ltOf cmpLd = ldLt := by
  funext x y
  unfold ltOf cmpLd ldLt orL
  obtain ⟨a1, a2, a3⟩ := cmp_facts x.n y.n
  obtain ⟨b1, b2, b3⟩ := cmp_facts x.id y.id
  by_cases h : Lib.compareInt x.n y.n = 0
  · rw [if_pos h]
    have := a2.1 h
    by_cases h2 : x.id < y.id
    · rw [decide_eq_true (b1.2 h2), decide_eq_true (Or.inr ⟨this, h2⟩)]
    · rw [decide_eq_false (fun h3 => h2 (b1.1 h3)), decide_eq_false (by omega)]
  · rw [if_neg h]
    have : x.n ≠ y.n := fun h2 => h (a2.2 h2)
    by_cases h2 : x.n < y.n
    · rw [decide_eq_true (a1.2 h2), decide_eq_true (Or.inl h2)]
    · rw [decide_eq_false (fun h3 => h2 (a1.1 h3)), decide_eq_false (by omega)]
theorem ldLt_iff {x y : Ld} : ldLt x y = true ↔ (x.n < y.n ∨ (x.n = y.n ∧ x.id < y.id)) := by simp [ldLt]
theorem ldLt_no {x y : Ld} : ldLt x y = false ↔ ¬ (x.n < y.n ∨ (x.n = y.n ∧ x.id < y.id)) := by simp [ldLt]
theorem ld_ext {x y : Ld} (h1 : x.id = y.id) (h2 : x.n = y.n) : x = y := by cases x; cases y; simp_all
theorem swoLd : Sort.SWO (ltOf cmpLd) where
  irrefl x := by rw [ldLt_eq, ldLt_no]; omega
  trans x y z h1 h2 := by rw [ldLt_eq, ldLt_iff] at *; omega
  ntrans x y z h1 h2 := by rw [ldLt_eq, ldLt_no] at *; omega
theorem totLd (x y : Ld) (h1 : (ltOf cmpLd) x y = false) (h2 : (ltOf cmpLd) y x = false) : x = y := by
  rw [ldLt_eq, ldLt_no] at h1 h2
  exact ld_ext (by omega) (by omega)
def sortLd (xs : List Ld) : List Ld := xs.mergeSort fun x y => !ldLt y x
instance : Inhabited Ld := ⟨⟨0, 0⟩⟩
theorem cmpLaysLd (blk off size : Nat) (w : World) : CmpLays Try.prog 65 #[] Ld.cells 2 cmpLd blk off size w := fun _ _ _ _ x y => order_calls x y _
set_option maxHeartbeats 1000000 in
theorem sortLd_calls (blk cap : Nat) (xs : List Ld) (w : World) (hH : Sort.HoldsK Ld.cells 2 w blk 0 xs.toArray) (hblk : blk < w.heap.size) (hn : xs.length ≤ 1000000) :
    Calls Try.prog 64 #[.slice (some ⟨blk, 0, none⟩) xs.length cap, .func (.func 65) #[] #[]] w fun e w' => e = .returned (.tuple #[]) ∧ ∃ n os, w' = sortWorldK Ld.cells 2 w blk 0 n (sortLd xs).toArray os := by
  have eg : ∀ args w, (callFunc 65 args).run Try.prog w = .ok (.enter 65 args) w := enters_of Try.func65 (by kernel_rfl) rfl
  have h := AnyQ.slices_SortFunc_total Go.Proofs.Ytjdgkdaebkflpaa.sortLoad 2 Try.isAgg31 Try.sizeOf31 Ld.cells (fun _ => rfl) (fun x v hv => by simp [Ld.cells] at hv; rcases hv with rfl | rfl <;> rfl) cmpLd swoLd 65 #[] blk 0 cap xs.toArray w eg (cmpLaysLd blk 0 _ w) hH hblk (by simp; omega) totLd
  rw [ldLt_eq] at h
  exact h
end Go.Proofs.Ytjdgkdaebkflpaa
