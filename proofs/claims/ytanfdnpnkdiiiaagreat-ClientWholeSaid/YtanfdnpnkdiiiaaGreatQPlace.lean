/- One text of: Place. -/
import Derived.Test.YtanfdnpnkdiiiaaGreatSort
import Derived.Test.YtanfdnpnkdiiiaaGreatQLoad
import Derived.Test.YtanfdnpnkdiiiaaGreatQReg2
namespace Go.Proofs.YtanfdnpnkdiiiaaGreat
open Go.RowKit Go.Proofs Go.Lib
set_option linter.unusedVariables false

theorem cmp_calls (x y : Int) (w : World) : Calls Tryz.prog 110 #[.int .i64 x, .int .i64 y] w fun e w' => e = .returned (.int .i64 (Lib.compareInt x y)) ∧ w = w' :=
  (AnyG.cmp_Compare_int Go.Proofs.YtanfdnpnkdiiiaaGreat.cmpInt x y w).mono fun _ _ ⟨h, hw⟩ => ⟨h, hw.symm⟩
def orL (x y : Int) : Int := if x = 0 then y else x
set_option maxHeartbeats 1000000 in
theorem or_calls (b : Nat) (x y : Int) (w : World) (c0 : w.cell? ⟨b, 0, none⟩ = some (.int .i64 x)) (c1 : w.cell? ⟨b, 1, none⟩ = some (.int .i64 y)) : Calls Tryz.prog 109 #[.slice (some ⟨b, 0, none⟩) 2 2] w fun e w' => e = .returned (.int .i64 (orL x y)) ∧ w = w' := by
  go_enter Tryz.func109, Tryz.ntmps109
  go_wp2
  go_loop [8] (fun i => ∃ k : Nat, k ≤ 2 ∧ i = .int .i64 k ∧ (0 < k → x = 0) ∧ (1 < k → y = 0)) (fun i => 2 - (intOf i).toNat)
  case atStart => exact ⟨0, by omega, rfl, by omega, by omega⟩
  case round =>
    obtain ⟨k, hk, rfl, h1, h2⟩ := hrel
    rcases (show k = 0 ∨ k = 1 ∨ k = 2 by omega) with rfl | rfl | rfl
    · by_cases hx : x = 0
      · have hx' : (x != 0) = false := by simp [hx]
        have HX := hide hx
        clear hx h1 h2
        go_wp2
        go_round
        case rel => exact ⟨1, by omega, rfl, fun _ => HX.out, fun h => absurd h (by omega)⟩
        case measure => simp [intOf]
      · have hx' : (x != 0) = true := by simp [hx]
        have HX := hide hx
        clear hx h1 h2
        go_wp2
        go_ret
        exact ⟨ret_int (by unfold orL; rw [if_neg HX.out]), rfl⟩
    · have hx := h1 (by omega)
      have HX := hide hx
      by_cases hy : y = 0
      · have hy' : (y != 0) = false := by simp [hy]
        have HY := hide hy
        clear hx hy h1 h2
        go_wp2
        go_round
        case rel => exact ⟨2, by omega, rfl, fun _ => HX.out, fun _ => HY.out⟩
        case measure => simp [intOf]
      · have hy' : (y != 0) = true := by simp [hy]
        clear hx hy h1 h2
        go_wp2
        go_ret
        exact ⟨ret_int (by unfold orL; rw [if_pos HX.out]), rfl⟩
    · have hx := hide (h1 (by omega))
      have hy := hide (h2 (by omega))
      clear h1 h2
      go_wp2
      go_ret
      exact ⟨ret_int (by unfold orL; rw [if_pos hx.out, hy.out]), rfl⟩
theorem grow3 (W : World) (a b c : Obj) : (((W.alloc a).alloc b).alloc c).drew = Sort.grow (W.drewN 1) #[a, b, c] := by
  rw [Sort.alloc_eq_grow, Sort.alloc_eq_grow, Sort.alloc_eq_grow, Sort.grow_grow, Sort.grow_grow]; rfl
def cmpLd (x y : Ld) : Int := orL (Lib.compareInt x.n y.n) (Lib.compareInt x.id y.id)
theorem cmp_facts (x y : Int) : (Lib.compareInt x y < 0 ↔ x < y) ∧ (Lib.compareInt x y = 0 ↔ x = y) ∧ (0 < Lib.compareInt x y ↔ y < x) := by
  unfold Lib.compareInt
  by_cases h1 : x < y
  · simp [h1]; omega
  · by_cases h2 : y < x
    · simp [h1, h2]; omega
    · simp [h1, h2]; omega
/-- the order of loads: by how many, then by name -/
def ldLt (x y : Ld) : Bool := decide (x.n < y.n ∨ (x.n = y.n ∧ x.id < y.id))
theorem ldLt_eq : ltOf cmpLd = ldLt := by
  funext x y
  unfold ltOf cmpLd ldLt orL
  obtain ⟨a1, a2, a3⟩ := cmp_facts x.n y.n
  obtain ⟨b1, b2, b3⟩ := cmp_facts x.id y.id
  by_cases h : Lib.compareInt x.n y.n = 0
  · rw [if_pos h]
    have := a2.1 h
    by_cases h2 : x.id < y.id
    · rw [decide_eq_true (b1.2 h2), decide_eq_true (Or.inr ⟨this, h2⟩)]
    · rw [decide_eq_false (fun h3 => h2 (b1.1 h3)), decide_eq_false (by omega)]
  · rw [if_neg h]
    have : x.n ≠ y.n := fun h2 => h (a2.2 h2)
    by_cases h2 : x.n < y.n
    · rw [decide_eq_true (a1.2 h2), decide_eq_true (Or.inl h2)]
    · rw [decide_eq_false (fun h3 => h2 (a1.1 h3)), decide_eq_false (by omega)]
theorem ldLt_iff {x y : Ld} : ldLt x y = true ↔ (x.n < y.n ∨ (x.n = y.n ∧ x.id < y.id)) := by simp [ldLt]
theorem ldLt_no {x y : Ld} : ldLt x y = false ↔ ¬ (x.n < y.n ∨ (x.n = y.n ∧ x.id < y.id)) := by simp [ldLt]
theorem ld_ext {x y : Ld} (h1 : x.id = y.id) (h2 : x.n = y.n) : x = y := by cases x; cases y; simp_all
theorem swoLd : Sort.SWO (ltOf cmpLd) where
  irrefl x := by rw [ldLt_eq, ldLt_no]; omega
  trans x y z h1 h2 := by rw [ldLt_eq, ldLt_iff] at *; omega
  ntrans x y z h1 h2 := by rw [ldLt_eq, ldLt_no] at *; omega
theorem totLd (x y : Ld) (h1 : (ltOf cmpLd) x y = false) (h2 : (ltOf cmpLd) y x = false) : x = y := by
  rw [ldLt_eq, ldLt_no] at h1 h2
  exact ld_ext (by omega) (by omega)
def sortLd (xs : List Ld) : List Ld := xs.mergeSort fun x y => !ldLt y x
instance : Inhabited Ld := ⟨⟨0, 0⟩⟩
end Go.Proofs.YtanfdnpnkdiiiaaGreat
