/- One text of: Pol2. -/
import Derived.Test.YtanfdnpnkdiiiaaGreatQPol
namespace Go.Proofs.YtanfdnpnkdiiiaaGreat
open Go.RowKit

def Pol.ok (p : Pol) : Bool := right p.r p.w p.l p.b
def admits (picks : Int) (ps : List Pol) : Bool := decide (1 ≤ picks ∧ picks ≤ 64) && decide (ps.length ≤ 4096) && ps.all Pol.ok && decide (load ps ≤ picks * 16777216)
theorem all_take_step {ps : List Pol} {k : Nat} (h : k < ps.length) (ha : (ps.take k).all Pol.ok = true) (hk : ps[k].ok = true) : (ps.take (k + 1)).all Pol.ok = true := by
  rw [List.take_succ_eq_append_getElem h, List.all_append, ha]; simp [hk]
theorem all_false {ps : List Pol} {k : Nat} (h : k < ps.length) (hk : ps[k].ok = false) : ps.all Pol.ok = false := by
  rw [List.all_eq_false]
  exact ⟨ps[k], List.getElem_mem h, by simp [hk]⟩
theorem admits_no1 {picks : Int} {ps : List Pol} (h : picks < 1 ∨ 64 < picks) : admits picks ps = false := by
  have : decide (1 ≤ picks ∧ picks ≤ 64) = false := by rw [decide_eq_false_iff_not]; omega
  simp only [admits, this, Bool.false_and]
theorem admits_no2 {picks : Int} {ps : List Pol} (h : 4096 < ps.length) : admits picks ps = false := by
  have : decide (ps.length ≤ 4096) = false := by rw [decide_eq_false_iff_not]; omega
  simp only [admits, this, Bool.and_false, Bool.false_and]
theorem admits_no3 {picks : Int} {ps : List Pol} (h : ps.all Pol.ok = false) : admits picks ps = false := by simp [admits, h]
theorem admits_yes {picks : Int} {ps : List Pol} (h1 : 1 ≤ picks) (h2 : picks ≤ 64) (h3 : ps.length ≤ 4096) (h4 : ps.all Pol.ok = true) : admits picks ps = decide (load ps ≤ picks * 16777216) := by
  simp [admits, h1, h2, h3, h4]
set_option maxHeartbeats 1000000 in
theorem admits_calls (picks : Int) (ps : List Pol) (A : Option Addr) (c : Nat) (W : World) (hr : Reads W W.heap.size 4 A ps.length (polCells ps)) :
    Calls Tryz.prog 68 #[.int .i64 picks, .slice A ps.length c] W fun e w' => e = .returned (.bool (admits picks ps)) ∧ Below W.heap.size W w' := by
  by_cases h1 : 1 ≤ picks ∧ picks ≤ 64
  · have hw : within picks 1 64 = true := by simp [within, h1]
    obtain ⟨p1, p2⟩ := h1
    by_cases h2 : ps.length ≤ 4096
    · go_enter Tryz.func68, Tryz.ntmps68
      go_wp2_with (go_at_call 87; with_reducible refine (within_calls _ _ _ _).mono ?_; rintro e w' ⟨rfl, rfl⟩)
      go_loopw [17] (fun i wr => ∃ k : Nat, k ≤ ps.length ∧ i = .int .i64 k ∧ Hid ((ps.take k).all Pol.ok = true) ∧ Below W.heap.size W wr) (fun i _ => ps.length - (intOf i).toNat)
      case atStart => exact ⟨0, by omega, rfl, hide rfl, Below.refl _ _⟩
      case round =>
        obtain ⟨k, hk, rfl, hall, hb⟩ := hrel
        by_cases hlt : k < ps.length
        · obtain ⟨b, o, rfl, hbB, hcell⟩ := (hr.below hb).at_ (by omega)
          have c0 : wr.cell? ⟨b, o + k * 4, none⟩ = some (.int .i64 ps[k].r) := hcell _ _ (polCells_get ps k 0 hlt (by omega))
          have c1 : wr.cell? ⟨b, o + k * 4 + 1, none⟩ = some (.int .i64 ps[k].w) := hcell _ _ (polCells_get ps k 1 hlt (by omega))
          have c2 : wr.cell? ⟨b, o + k * 4 + 2, none⟩ = some (.int .i64 ps[k].l) := hcell _ _ (polCells_get ps k 2 hlt (by omega))
          have c3 : wr.cell? ⟨b, o + k * 4 + 3, none⟩ = some (.int .i64 ps[k].b) := hcell _ _ (polCells_get ps k 3 hlt (by omega))
          cases hok : right ps[k].r ps[k].w ps[k].l ps[k].b with
          | true =>
            have hs := hide (all_take_step hlt hall.out hok)
            go_wp2_with (go_at_call 72; with_reducible refine (right_calls _ _ _ _ _).mono ?_; rintro e w1 ⟨rfl, hb1⟩)
            go_roundw
            case rel => exact ⟨k + 1, by omega, by go_num, hs, (hb.alloc hb.size _).trans (hb1.mono (by simp; have := hb.size; omega))⟩
            case measure => simp [intOf]; omega
          | false =>
            have hs := hide (admits_no3 (picks := picks) (all_false hlt hok))
            go_wp2_with (go_at_call 72; with_reducible refine (right_calls _ _ _ _ _).mono ?_; rintro e w1 ⟨rfl, hb1⟩)
            go_ret
            exact ⟨ret_bool hs.out.symm, (hb.alloc hb.size _).trans (hb1.mono (by simp; have := hb.size; omega))⟩
        · have e : k = ps.length := by omega
          subst e
          rw [List.take_length] at hall
          have hs := hide (admits_yes (picks := picks) p1 p2 h2 hall.out)
          have lb := load_bd ps
          clear hlt
          go_wp2_with (go_at_call 88; with_reducible refine (load_calls ps _ _ _ ((hr.below hb).more hb.size) h2).mono ?_; rintro e w1 ⟨rfl, hb1⟩)
          go_ret
          exact ⟨ret_bool hs.out.symm, hb.trans (hb1.mono hb.size)⟩
    · go_enter Tryz.func68, Tryz.ntmps68
      go_wp2_with (go_at_call 87; with_reducible refine (within_calls _ _ _ _).mono ?_; rintro e w' ⟨rfl, rfl⟩)
      go_ret
      exact ⟨ret_bool (admits_no2 (by omega)).symm, Below.refl _ _⟩
  · have hw : within picks 1 64 = false := by simp [within]; omega
    go_enter Tryz.func68, Tryz.ntmps68
    go_wp2_with (go_at_call 87; with_reducible refine (within_calls _ _ _ _).mono ?_; rintro e w' ⟨rfl, rfl⟩)
    go_ret
    exact ⟨ret_bool (admits_no1 (by omega)).symm, Below.refl _ _⟩
end Go.Proofs.YtanfdnpnkdiiiaaGreat
